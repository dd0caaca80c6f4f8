/- The laws AddrspaceUnmaps, AddrspaceChecks, AddrspaceMaps as contracts. -/
import Derived.Test.YtjdpignfdncebaaVlM
import Derived.Test.YtjdpignfdncebaaVbM
set_option linter.unusedSimpArgs false
set_option linter.unusedVariables false
namespace Go.Proofs.Ytjdpignfdncebaa
open Go.RowKit

attribute [local irreducible] Wp WL WO fin finB rnd Exit.then Exit.inBlock G GD LT Rd Fn FnB FvB Iter
attribute [local go_sem] RV.row TD.row
theorem law_unmaps (t : GT) (g c : Int) : Fn Try.prog 4 [.st t.td.row, .s (.int .i64 g), .s (.int .i64 c)] (· = .s (.bool true)) := by
  have hfw := few_F t (few_G t)
  cases hf : fewG t with
  | false =>
    rw [hf] at hfw
    refine Fn.of Try.func4 Try.ntmps4 rfl (by kernel_rfl) (fun w o => ?_)
    (repeat (first | refine G.cW (hfw) ?_ | refine G.cgW (hfw) ?_ | refine GD.cW (hfw) ?_ | refine GD.cgW (hfw) ?_ | refine G.cW (awake_F) ?_ | refine G.cgW (awake_F) ?_ | refine GD.cW (awake_F) ?_ | refine GD.cgW (awake_F) ?_ | ((repeat (revert hK; revert K)); refine wk ?_; repeat intro K hK) | refine wkg ?_))
    refine G.fin1 (by first | exact rvOk.tmp | exact rvOk.cellS | exact rvOk.cell1 | fail) rfl ?_
    rfl
  | true =>
    rw [hf] at hfw
    cases sok_of (tok_of t hf) with
    | bad e he h1 h2 =>
      have u1 := unmap_E he h1 g c
      have u2 := runmap_E he h2 g c
      have sm := psame_P .E
      unfold resD at u1 u2
      dsimp only at u1 u2
      have hb : (e == e) = true := by simp
      refine Fn.of Try.func4 Try.ntmps4 rfl (by kernel_rfl) (fun w o => ?_)
      (repeat (first | refine G.cW (hfw) ?_ | refine G.cgW (hfw) ?_ | refine GD.cW (hfw) ?_ | refine GD.cgW (hfw) ?_ | refine G.cW (u1) ?_ | refine G.cgW (u1) ?_ | refine GD.cW (u1) ?_ | refine GD.cgW (u1) ?_ | refine G.cW (u2) ?_ | refine G.cgW (u2) ?_ | refine GD.cW (u2) ?_ | refine GD.cgW (u2) ?_ | refine G.cW (sm) ?_ | refine G.cgW (sm) ?_ | refine GD.cW (sm) ?_ | refine GD.cgW (sm) ?_ | refine G.cW (awake_F) ?_ | refine G.cgW (awake_F) ?_ | refine GD.cW (awake_F) ?_ | refine GD.cgW (awake_F) ?_ | ((repeat (revert hK; revert K)); refine wk ?_; repeat intro K hK) | refine wkg ?_))
      refine G.fin1 (by first | exact rvOk.tmp | exact rvOk.cellS | exact rvOk.cell1 | fail) rfl ?_
      simp
    | ok p hp h =>
      rw [← h] at hfw ⊢
      have u1 := unmap_P hp g c
      have u2 := runmap_P hp g c
      unfold resD at u1 u2
      generalize unmapT p g c = z at *
      obtain ⟨q, e⟩ := z
      have sm := psame_P q
      dsimp only at u1 u2
      have hb : (e == e) = true := by simp
      refine Fn.of Try.func4 Try.ntmps4 rfl (by kernel_rfl) (fun w o => ?_)
      (repeat (first | refine G.cW (hfw) ?_ | refine G.cgW (hfw) ?_ | refine GD.cW (hfw) ?_ | refine GD.cgW (hfw) ?_ | refine G.cW (u1) ?_ | refine G.cgW (u1) ?_ | refine GD.cW (u1) ?_ | refine GD.cgW (u1) ?_ | refine G.cW (u2) ?_ | refine G.cgW (u2) ?_ | refine GD.cW (u2) ?_ | refine GD.cgW (u2) ?_ | refine G.cW (sm) ?_ | refine G.cgW (sm) ?_ | refine GD.cW (sm) ?_ | refine GD.cgW (sm) ?_ | refine G.cW (awake_F) ?_ | refine G.cgW (awake_F) ?_ | refine GD.cW (awake_F) ?_ | refine GD.cgW (awake_F) ?_ | ((repeat (revert hK; revert K)); refine wk ?_; repeat intro K hK) | refine wkg ?_))
      refine G.fin1 (by first | exact rvOk.tmp | exact rvOk.cellS | exact rvOk.cell1 | fail) rfl ?_
      simp
theorem law_checks (t : GT) (g : Int) : Fn Try.prog 6 [.st t.td.row, .s (.int .i64 g)] (· = .s (.bool true)) := by
  have hfw := few_F t (few_G t)
  cases hf : fewG t with
  | false =>
    rw [hf] at hfw
    refine Fn.of Try.func6 Try.ntmps6 rfl (by kernel_rfl) (fun w o => ?_)
    (repeat (first | refine G.cW (hfw) ?_ | refine G.cgW (hfw) ?_ | refine GD.cW (hfw) ?_ | refine GD.cgW (hfw) ?_ | refine G.cW (awake_F) ?_ | refine G.cgW (awake_F) ?_ | refine GD.cW (awake_F) ?_ | refine GD.cgW (awake_F) ?_ | ((repeat (revert hK; revert K)); refine wk ?_; repeat intro K hK) | refine wkg ?_))
    refine G.fin1 (by first | exact rvOk.tmp | exact rvOk.cellS | exact rvOk.cell1 | fail) rfl ?_
    rfl
  | true =>
    rw [hf] at hfw
    cases sok_of (tok_of t hf) with
    | bad e he h1 h2 =>
      have u1 := afind_E he h1 g
      have u2 := rfind2_E he h2 g
      have n1 := count_E he h1
      have n2 := rcount_E he h2
      have hr : eqR RV.z RV.z = true := eqR_self _
      refine Fn.of Try.func6 Try.ntmps6 rfl (by kernel_rfl) (fun w o => ?_)
      (repeat (first | refine G.cW (hfw) ?_ | refine G.cgW (hfw) ?_ | refine GD.cW (hfw) ?_ | refine GD.cgW (hfw) ?_ | refine G.cW (u1) ?_ | refine G.cgW (u1) ?_ | refine GD.cW (u1) ?_ | refine GD.cgW (u1) ?_ | refine G.cW (u2) ?_ | refine G.cgW (u2) ?_ | refine GD.cW (u2) ?_ | refine GD.cgW (u2) ?_ | refine G.cW (h1) ?_ | refine G.cgW (h1) ?_ | refine GD.cW (h1) ?_ | refine GD.cgW (h1) ?_ | refine G.cW (h2) ?_ | refine G.cgW (h2) ?_ | refine GD.cW (h2) ?_ | refine GD.cgW (h2) ?_ | refine G.cW (n1) ?_ | refine G.cgW (n1) ?_ | refine GD.cW (n1) ?_ | refine GD.cgW (n1) ?_ | refine G.cW (n2) ?_ | refine G.cgW (n2) ?_ | refine GD.cW (n2) ?_ | refine GD.cgW (n2) ?_ | refine G.cW (awake_F) ?_ | refine G.cgW (awake_F) ?_ | refine GD.cW (awake_F) ?_ | refine GD.cgW (awake_F) ?_ | (show G _ _ _ _ (WL _ _ _ _ (⟨some _, .binOp .eql _ _ _ _, _, _, _, none⟩ :: _)); refine G.w1 ?_ (by first | exact LT.eqW (RV.z) (RV.z) | fail)) | (show G _ _ _ _ (WL _ _ _ _ (⟨some _, .binOp .eql _ _ _ _, _, _, _, some _⟩ :: _)); refine G.gC ?_ (by first | (refine gi ?_; intros; exact LT.eqW (RV.z) (RV.z)) | fail) rfl rfl) | (show GD _ _ _ _ _ _ _ _ _ _ (⟨some _, .binOp .eql _ _ _ _, _, _, _, none⟩ :: _); refine GD.w1 ?_ (by first | exact LT.eqW (RV.z) (RV.z) | fail)) | (show GD _ _ _ _ _ _ _ _ _ _ (⟨some _, .binOp .eql _ _ _ _, _, _, _, some _⟩ :: _); refine GD.gC ?_ (by first | (refine gi ?_; intros; exact LT.eqW (RV.z) (RV.z)) | fail) rfl rfl) | (show G _ _ _ _ (WL _ _ _ _ (⟨some _, .binOp .neq _ _ _ _, _, _, _, none⟩ :: _)); refine G.w1 ?_ (by first | exact LT.neW (RV.z) (RV.z) | fail)) | (show G _ _ _ _ (WL _ _ _ _ (⟨some _, .binOp .neq _ _ _ _, _, _, _, some _⟩ :: _)); refine G.gC ?_ (by first | (refine gi ?_; intros; exact LT.neW (RV.z) (RV.z)) | fail) rfl rfl) | (show GD _ _ _ _ _ _ _ _ _ _ (⟨some _, .binOp .neq _ _ _ _, _, _, _, none⟩ :: _); refine GD.w1 ?_ (by first | exact LT.neW (RV.z) (RV.z) | fail)) | (show GD _ _ _ _ _ _ _ _ _ _ (⟨some _, .binOp .neq _ _ _ _, _, _, _, some _⟩ :: _); refine GD.gC ?_ (by first | (refine gi ?_; intros; exact LT.neW (RV.z) (RV.z)) | fail) rfl rfl) | ((repeat (revert hK; revert K)); refine wk ?_; repeat intro K hK) | refine wkg ?_))
      refine G.fin1 (by first | exact rvOk.tmp | exact rvOk.cellS | exact rvOk.cell1 | fail) rfl ?_
      simp [eqR_self]
    | ok p hp h =>
      rw [← h] at hfw ⊢
      have u1 := afind_P hp g
      have u2 := rfind2_P hp g
      have n1 := count_P hp
      have n2 := rcount_P hp
      have h1 := acheck_P hp
      have h2 := bcheck_P hp
      generalize findV p.flat g = z at *
      obtain ⟨x, b⟩ := z
      dsimp only at u1 u2
      have hr : eqR x x = true := eqR_self _
      refine Fn.of Try.func6 Try.ntmps6 rfl (by kernel_rfl) (fun w o => ?_)
      (repeat (first | refine G.cW (hfw) ?_ | refine G.cgW (hfw) ?_ | refine GD.cW (hfw) ?_ | refine GD.cgW (hfw) ?_ | refine G.cW (u1) ?_ | refine G.cgW (u1) ?_ | refine GD.cW (u1) ?_ | refine GD.cgW (u1) ?_ | refine G.cW (u2) ?_ | refine G.cgW (u2) ?_ | refine GD.cW (u2) ?_ | refine GD.cgW (u2) ?_ | refine G.cW (h1) ?_ | refine G.cgW (h1) ?_ | refine GD.cW (h1) ?_ | refine GD.cgW (h1) ?_ | refine G.cW (h2) ?_ | refine G.cgW (h2) ?_ | refine GD.cW (h2) ?_ | refine GD.cgW (h2) ?_ | refine G.cW (n1) ?_ | refine G.cgW (n1) ?_ | refine GD.cW (n1) ?_ | refine GD.cgW (n1) ?_ | refine G.cW (n2) ?_ | refine G.cgW (n2) ?_ | refine GD.cW (n2) ?_ | refine GD.cgW (n2) ?_ | refine G.cW (awake_F) ?_ | refine G.cgW (awake_F) ?_ | refine GD.cW (awake_F) ?_ | refine GD.cgW (awake_F) ?_ | (show G _ _ _ _ (WL _ _ _ _ (⟨some _, .binOp .eql _ _ _ _, _, _, _, none⟩ :: _)); refine G.w1 ?_ (by first | exact LT.eqW (x) (x) | fail)) | (show G _ _ _ _ (WL _ _ _ _ (⟨some _, .binOp .eql _ _ _ _, _, _, _, some _⟩ :: _)); refine G.gC ?_ (by first | (refine gi ?_; intros; exact LT.eqW (x) (x)) | fail) rfl rfl) | (show GD _ _ _ _ _ _ _ _ _ _ (⟨some _, .binOp .eql _ _ _ _, _, _, _, none⟩ :: _); refine GD.w1 ?_ (by first | exact LT.eqW (x) (x) | fail)) | (show GD _ _ _ _ _ _ _ _ _ _ (⟨some _, .binOp .eql _ _ _ _, _, _, _, some _⟩ :: _); refine GD.gC ?_ (by first | (refine gi ?_; intros; exact LT.eqW (x) (x)) | fail) rfl rfl) | (show G _ _ _ _ (WL _ _ _ _ (⟨some _, .binOp .neq _ _ _ _, _, _, _, none⟩ :: _)); refine G.w1 ?_ (by first | exact LT.neW (x) (x) | fail)) | (show G _ _ _ _ (WL _ _ _ _ (⟨some _, .binOp .neq _ _ _ _, _, _, _, some _⟩ :: _)); refine G.gC ?_ (by first | (refine gi ?_; intros; exact LT.neW (x) (x)) | fail) rfl rfl) | (show GD _ _ _ _ _ _ _ _ _ _ (⟨some _, .binOp .neq _ _ _ _, _, _, _, none⟩ :: _); refine GD.w1 ?_ (by first | exact LT.neW (x) (x) | fail)) | (show GD _ _ _ _ _ _ _ _ _ _ (⟨some _, .binOp .neq _ _ _ _, _, _, _, some _⟩ :: _); refine GD.gC ?_ (by first | (refine gi ?_; intros; exact LT.neW (x) (x)) | fail) rfl rfl) | ((repeat (revert hK; revert K)); refine wk ?_; repeat intro K hK) | refine wkg ?_))
      refine G.fin1 (by first | exact rvOk.tmp | exact rvOk.cellS | exact rvOk.cell1 | fail) rfl ?_
      simp [eqR_self]
theorem law_maps (t : GT) (r : RV) (n : Int) : Fn Try.prog 3 [.st t.td.row, .st r.row, .s (.int .i64 n)] (· = .s (.bool true)) := by
  have hfw := few_F t (few_G t)
  cases hf : fewG t with
  | false =>
    rw [hf] at hfw
    refine Fn.of Try.func3 Try.ntmps3 rfl (by kernel_rfl) (fun w o => ?_)
    (repeat (first | refine G.cW (hfw) ?_ | refine G.cgW (hfw) ?_ | refine GD.cW (hfw) ?_ | refine GD.cgW (hfw) ?_ | refine G.cW (awake_F) ?_ | refine G.cgW (awake_F) ?_ | refine GD.cW (awake_F) ?_ | refine GD.cgW (awake_F) ?_ | ((repeat (revert hK; revert K)); refine wk ?_; repeat intro K hK) | refine wkg ?_))
    refine G.fin1 (by first | exact rvOk.tmp | exact rvOk.cellS | exact rvOk.cell1 | fail) rfl ?_
    rfl
  | true =>
    rw [hf] at hfw
    cases sok_of (tok_of t hf) with
    | bad e he h1 h2 =>
      have u1 := map_E he h1 r
      have u2 := rmap_E he h2 r
      have n1 := place_E he h1 n
      have n2 := rplace_E he h2 n
      have sm := psame_P .E
      unfold resD at u1 u2
      dsimp only at u1 u2
      refine Fn.of Try.func3 Try.ntmps3 rfl (by kernel_rfl) (fun w o => ?_)
      (repeat (first | refine G.cW (hfw) ?_ | refine G.cgW (hfw) ?_ | refine GD.cW (hfw) ?_ | refine GD.cgW (hfw) ?_ | refine G.cW (u1) ?_ | refine G.cgW (u1) ?_ | refine GD.cW (u1) ?_ | refine GD.cgW (u1) ?_ | refine G.cW (u2) ?_ | refine G.cgW (u2) ?_ | refine GD.cW (u2) ?_ | refine GD.cgW (u2) ?_ | refine G.cW (n1) ?_ | refine G.cgW (n1) ?_ | refine GD.cW (n1) ?_ | refine GD.cgW (n1) ?_ | refine G.cW (n2) ?_ | refine G.cgW (n2) ?_ | refine GD.cW (n2) ?_ | refine GD.cgW (n2) ?_ | refine G.cW (sm) ?_ | refine G.cgW (sm) ?_ | refine GD.cW (sm) ?_ | refine GD.cgW (sm) ?_ | refine G.cW (awake_F) ?_ | refine G.cgW (awake_F) ?_ | refine GD.cW (awake_F) ?_ | refine GD.cgW (awake_F) ?_ | ((repeat (revert hK; revert K)); refine wk ?_; repeat intro K hK) | refine wkg ?_))
      refine G.fin1 (by first | exact rvOk.tmp | exact rvOk.cellS | exact rvOk.cell1 | fail) rfl ?_
      simp
    | ok p hp h =>
      rw [← h] at hfw ⊢
      have key : ∃ z, Fn Try.prog 15 [.st p.td.row, .st r.row] (· = resD z) ∧ Fn Try.prog 16 [.st p.td.row, .st r.row] (· = resD z) := by
        by_cases hr : chkV r = 0
        · exact ⟨_, map_P hp r hr, rmap_P hp r hr⟩
        · exact ⟨_, map_bad hp r hr, rmap_bad hp r hr⟩
      obtain ⟨⟨q, e⟩, u1, u2⟩ := key
      have n1 := place_P hp n
      have n2 := rplace_P hp n
      have sm := psame_P q
      unfold resD at u1 u2
      dsimp only at u1 u2
      refine Fn.of Try.func3 Try.ntmps3 rfl (by kernel_rfl) (fun w o => ?_)
      (repeat (first | refine G.cW (hfw) ?_ | refine G.cgW (hfw) ?_ | refine GD.cW (hfw) ?_ | refine GD.cgW (hfw) ?_ | refine G.cW (u1) ?_ | refine G.cgW (u1) ?_ | refine GD.cW (u1) ?_ | refine GD.cgW (u1) ?_ | refine G.cW (u2) ?_ | refine G.cgW (u2) ?_ | refine GD.cW (u2) ?_ | refine GD.cgW (u2) ?_ | refine G.cW (n1) ?_ | refine G.cgW (n1) ?_ | refine GD.cW (n1) ?_ | refine GD.cgW (n1) ?_ | refine G.cW (n2) ?_ | refine G.cgW (n2) ?_ | refine GD.cW (n2) ?_ | refine GD.cgW (n2) ?_ | refine G.cW (sm) ?_ | refine G.cgW (sm) ?_ | refine GD.cW (sm) ?_ | refine GD.cgW (sm) ?_ | refine G.cW (awake_F) ?_ | refine G.cgW (awake_F) ?_ | refine GD.cW (awake_F) ?_ | refine GD.cgW (awake_F) ?_ | ((repeat (revert hK; revert K)); refine wk ?_; repeat intro K hK) | refine wkg ?_))
      refine G.fin1 (by first | exact rvOk.tmp | exact rvOk.cellS | exact rvOk.cell1 | fail) rfl ?_
      simp

end Go.Proofs.Ytjdpignfdncebaa
