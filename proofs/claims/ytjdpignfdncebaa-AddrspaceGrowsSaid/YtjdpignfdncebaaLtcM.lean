/- The law AddrspaceGrows as a contract. -/
import Derived.Test.YtjdpignfdncebaaVmM
import Derived.Test.YtjdpignfdncebaaVbM
set_option linter.unusedSimpArgs false
set_option linter.unusedVariables false
namespace Go.Proofs.Ytjdpignfdncebaa
open Go.RowKit

attribute [local irreducible] Wp WL WO fin finB rnd Exit.then Exit.inBlock G GD LT Rd Fn FnB FvB Iter
attribute [local go_sem] RV.row TD.row
theorem law_grows (t : GT) (g : Int) : Fn Try.prog 5 [.st t.td.row, .s (.int .i64 g)] (· = .s (.bool true)) := by
  have hfw := few_F t (few_G t)
  cases hf : fewG t with
  | false =>
    rw [hf] at hfw
    refine Fn.of Try.func5 Try.ntmps5 rfl (by kernel_rfl) (fun w o => ?_)
    (repeat (first | refine G.cW (hfw) ?_ | refine G.cgW (hfw) ?_ | refine GD.cW (hfw) ?_ | refine GD.cgW (hfw) ?_ | refine G.cW (awake_F) ?_ | refine G.cgW (awake_F) ?_ | refine GD.cW (awake_F) ?_ | refine GD.cgW (awake_F) ?_ | ((repeat (revert hK; revert K)); refine wk ?_; repeat intro K hK) | refine wkg ?_))
    refine G.fin1 (by first | exact rvOk.tmp | exact rvOk.cellS | exact rvOk.cell1 | fail) rfl ?_
    rfl
  | true =>
    rw [hf] at hfw
    cases sok_of (tok_of t hf) with
    | bad e he h1 h2 =>
      have u1 := grow_E he h1 g
      have u2 := rgrow_E he h2 g
      have sm := psame_P .E
      unfold resD at u1 u2
      dsimp only at u1 u2
      refine Fn.of Try.func5 Try.ntmps5 rfl (by kernel_rfl) (fun w o => ?_)
      (repeat (first | refine G.cW (hfw) ?_ | refine G.cgW (hfw) ?_ | refine GD.cW (hfw) ?_ | refine GD.cgW (hfw) ?_ | refine G.cW (u1) ?_ | refine G.cgW (u1) ?_ | refine GD.cW (u1) ?_ | refine GD.cgW (u1) ?_ | refine G.cW (u2) ?_ | refine G.cgW (u2) ?_ | refine GD.cW (u2) ?_ | refine GD.cgW (u2) ?_ | refine G.cW (sm) ?_ | refine G.cgW (sm) ?_ | refine GD.cW (sm) ?_ | refine GD.cgW (sm) ?_ | refine G.cW (awake_F) ?_ | refine G.cgW (awake_F) ?_ | refine GD.cW (awake_F) ?_ | refine GD.cgW (awake_F) ?_ | ((repeat (revert hK; revert K)); refine wk ?_; repeat intro K hK) | refine wkg ?_))
      refine G.fin1 (by first | exact rvOk.tmp | exact rvOk.cellS | exact rvOk.cell1 | fail) rfl ?_
      simp
    | ok p hp h =>
      rw [← h] at hfw ⊢
      have u1 := grow_P hp g
      have u2 := rgrow_P hp g
      unfold resD at u1 u2
      generalize growT p g = z at *
      obtain ⟨q, e⟩ := z
      have sm := psame_P q
      dsimp only at u1 u2
      refine Fn.of Try.func5 Try.ntmps5 rfl (by kernel_rfl) (fun w o => ?_)
      (repeat (first | refine G.cW (hfw) ?_ | refine G.cgW (hfw) ?_ | refine GD.cW (hfw) ?_ | refine GD.cgW (hfw) ?_ | refine G.cW (u1) ?_ | refine G.cgW (u1) ?_ | refine GD.cW (u1) ?_ | refine GD.cgW (u1) ?_ | refine G.cW (u2) ?_ | refine G.cgW (u2) ?_ | refine GD.cW (u2) ?_ | refine GD.cgW (u2) ?_ | refine G.cW (sm) ?_ | refine G.cgW (sm) ?_ | refine GD.cW (sm) ?_ | refine GD.cgW (sm) ?_ | refine G.cW (awake_F) ?_ | refine G.cgW (awake_F) ?_ | refine GD.cW (awake_F) ?_ | refine GD.cgW (awake_F) ?_ | ((repeat (revert hK; revert K)); refine wk ?_; repeat intro K hK) | refine wkg ?_))
      refine G.fin1 (by first | exact rvOk.tmp | exact rvOk.cellS | exact rvOk.cell1 | fail) rfl ?_
      simp

end Go.Proofs.Ytjdpignfdncebaa
