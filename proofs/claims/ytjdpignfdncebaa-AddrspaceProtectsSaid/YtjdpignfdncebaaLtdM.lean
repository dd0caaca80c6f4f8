/- The law AddrspaceProtects as a contract. -/
import Derived.Test.YtjdpignfdncebaaVpM
import Derived.Test.YtjdpignfdncebaaQp
import Derived.Test.YtjdpignfdncebaaVbM
set_option linter.unusedSimpArgs false
set_option linter.unusedVariables false
namespace Go.Proofs.Ytjdpignfdncebaa
open Go.RowKit

attribute [local irreducible] Wp WL WO fin finB rnd Exit.then Exit.inBlock G GD LT Rd Fn FnB FvB Iter
attribute [local go_sem] RV.row TD.row
theorem law_protects (t : GT) (q : Int × Int) (n : Int) : Fn Try.prog 7 [.st t.td.row, .st [.s (.int .i64 q.1), .s (.int .i64 q.2)], .s (.int .i64 n)] (· = .s (.bool true)) := by
  have hfw := few_F t (few_G t)
  cases hf : fewG t with
  | false =>
    rw [hf] at hfw
    refine Fn.of Try.func7 Try.ntmps7 rfl (by kernel_rfl) (fun w o => ?_)
    (repeat (first | refine G.cW (hfw) ?_ | refine G.cgW (hfw) ?_ | refine GD.cW (hfw) ?_ | refine GD.cgW (hfw) ?_ | refine G.cW (awake_F) ?_ | refine G.cgW (awake_F) ?_ | refine GD.cW (awake_F) ?_ | refine GD.cgW (awake_F) ?_ | ((repeat (revert hK; revert K)); refine wk ?_; repeat intro K hK) | refine wkg ?_))
    refine G.fin1 (by first | exact rvOk.tmp | exact rvOk.cellS | exact rvOk.cell1 | fail) rfl ?_
    rfl
  | true =>
    rw [hf] at hfw
    cases sok_of (tok_of t hf) with
    | bad e he h1 h2 =>
      have u1 := protect_E he h1 q.1 q.2 n
      have u2 := rprotect_E he h2 q.1 q.2 n
      have v1 := lock_E he h1 q.1 q.2 (n == 1)
      have v2 := rlock_E he h2 q.1 q.2 (n == 1)
      have sm := psame_P .E
      have sm2 := sm
      unfold resD at u1 u2 v1 v2
      dsimp only at u1 u2 v1 v2
      refine Fn.of Try.func7 Try.ntmps7 rfl (by kernel_rfl) (fun w o => ?_)
      (repeat (first | refine G.cW (hfw) ?_ | refine G.cgW (hfw) ?_ | refine GD.cW (hfw) ?_ | refine GD.cgW (hfw) ?_ | refine G.cW (u1) ?_ | refine G.cgW (u1) ?_ | refine GD.cW (u1) ?_ | refine GD.cgW (u1) ?_ | refine G.cW (u2) ?_ | refine G.cgW (u2) ?_ | refine GD.cW (u2) ?_ | refine GD.cgW (u2) ?_ | refine G.cW (v1) ?_ | refine G.cgW (v1) ?_ | refine GD.cW (v1) ?_ | refine GD.cgW (v1) ?_ | refine G.cW (v2) ?_ | refine G.cgW (v2) ?_ | refine GD.cW (v2) ?_ | refine GD.cgW (v2) ?_ | refine G.cW (sm) ?_ | refine G.cgW (sm) ?_ | refine GD.cW (sm) ?_ | refine GD.cgW (sm) ?_ | refine G.cW (sm2) ?_ | refine G.cgW (sm2) ?_ | refine GD.cW (sm2) ?_ | refine GD.cgW (sm2) ?_ | refine G.cW (awake_F) ?_ | refine G.cgW (awake_F) ?_ | refine GD.cW (awake_F) ?_ | refine GD.cgW (awake_F) ?_ | ((repeat (revert hK; revert K)); refine wk ?_; repeat intro K hK) | refine wkg ?_))
      refine G.fin1 (by first | exact rvOk.tmp | exact rvOk.cellS | exact rvOk.cell1 | fail) rfl ?_
      simp
    | ok p hp h =>
      rw [← h] at hfw ⊢
      have u1 := protect_P hp q.1 q.2 n
      have u2 := rprotect_P hp q.1 q.2 n
      have v1 := lock_P hp q.1 q.2 (n == 1)
      have v2 := rlock_P hp q.1 q.2 (n == 1)
      unfold resD at u1 u2 v1 v2
      generalize protT p q.1 q.2 n = z at *
      generalize lockT p q.1 q.2 (n == 1) = z2 at *
      obtain ⟨a, e⟩ := z
      obtain ⟨b, f⟩ := z2
      have sm := psame_P a
      have sm2 := psame_P b
      dsimp only at u1 u2 v1 v2
      refine Fn.of Try.func7 Try.ntmps7 rfl (by kernel_rfl) (fun w o => ?_)
      (repeat (first | refine G.cW (hfw) ?_ | refine G.cgW (hfw) ?_ | refine GD.cW (hfw) ?_ | refine GD.cgW (hfw) ?_ | refine G.cW (u1) ?_ | refine G.cgW (u1) ?_ | refine GD.cW (u1) ?_ | refine GD.cgW (u1) ?_ | refine G.cW (u2) ?_ | refine G.cgW (u2) ?_ | refine GD.cW (u2) ?_ | refine GD.cgW (u2) ?_ | refine G.cW (v1) ?_ | refine G.cgW (v1) ?_ | refine GD.cW (v1) ?_ | refine GD.cgW (v1) ?_ | refine G.cW (v2) ?_ | refine G.cgW (v2) ?_ | refine GD.cW (v2) ?_ | refine GD.cgW (v2) ?_ | refine G.cW (sm) ?_ | refine G.cgW (sm) ?_ | refine GD.cW (sm) ?_ | refine GD.cgW (sm) ?_ | refine G.cW (sm2) ?_ | refine G.cgW (sm2) ?_ | refine GD.cW (sm2) ?_ | refine GD.cgW (sm2) ?_ | refine G.cW (awake_F) ?_ | refine G.cgW (awake_F) ?_ | refine GD.cW (awake_F) ?_ | refine GD.cgW (awake_F) ?_ | ((repeat (revert hK; revert K)); refine wk ?_; repeat intro K hK) | refine wkg ?_))
      refine G.fin1 (by first | exact rvOk.tmp | exact rvOk.cellS | exact rvOk.cell1 | fail) rfl ?_
      simp

end Go.Proofs.Ytjdpignfdncebaa
