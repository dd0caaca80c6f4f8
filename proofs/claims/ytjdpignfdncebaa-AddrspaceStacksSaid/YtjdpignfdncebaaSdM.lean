/- Regions, the reference's side: Has, Mergeable, Merge, Split. -/
import Derived.Test.YtjdpignfdncebaaScM
set_option linter.unusedSimpArgs false
set_option linter.unusedVariables false
namespace Go.Proofs.Ytjdpignfdncebaa
open Go.RowKit

attribute [local irreducible] Wp WL WO fin finB rnd Exit.then Exit.inBlock G GD LT Rd Fn FnB FvB Iter
def hasV (x : RV) (g : Int) : Bool := chkV x == 0 && decide (x.s ≤ g) && decide (g < x.s + x.p)
theorem rhas_F (x : RV) (g : Int) : Fn Try.prog 63 [.st x.row, .s (.int .i64 g)] (· = .s (.bool (hasV x g))) := by
  by_cases ha : chkV x = 0
  · have hba := chkV_bd ha
    refine Fn.of Try.func63 Try.ntmps63 rfl (by kernel_rfl) (fun w o => ?_)
    (repeat (first | refine G.cW (rchk_F _) ?_ | refine G.cgW (rchk_F _) ?_ | refine GD.cW (rchk_F _) ?_ | refine GD.cgW (rchk_F _) ?_ | ((repeat (revert hK; revert K)); refine wk ?_; repeat intro K hK) | refine wkg ?_))
    refine G.fin1 (by first | exact rvOk.tmp | exact rvOk.cellS | exact rvOk.cell1 | fail) rfl ?_
    rfl
  · have h1 : (chkV x == 0) = false := by simp [ha]
    refine Fn.of Try.func63 Try.ntmps63 rfl (by kernel_rfl) (fun w o => ?_)
    (repeat (first | refine G.cW (rchk_F _) ?_ | refine G.cgW (rchk_F _) ?_ | refine GD.cW (rchk_F _) ?_ | refine GD.cgW (rchk_F _) ?_ | ((repeat (revert hK; revert K)); refine wk ?_; repeat intro K hK) | refine wkg ?_))
    refine G.fin1 (by first | exact rvOk.tmp | exact rvOk.cellS | exact rvOk.cell1 | fail) rfl ?_
    simp [hasV, h1]
/-- Mergeable as the reference has it. -/
def mrgW (a b : RV) : Bool := bif chkV a != 0 || chkV b != 0 || a.s + a.p != b.s then false else bif a.f / 2 % 2 == 1 || a.r != b.r || a.f != b.f || a.i != b.i then false else decide (a.i < 0) || b.x == a.x + a.p
set_option maxHeartbeats 4000000 in
theorem rmrg_F (a b : RV) : Fn Try.prog 66 [.st a.row, .st b.row] (· = .s (.bool (mrgW a b))) := by
  by_cases ha : chkV a = 0
  · have hba := chkV_bd ha
    by_cases hb : chkV b = 0
    · have hbb := chkV_bd hb
      by_cases h : a.s + a.p = b.s
      · by_cases h2 : (a.f / 2 % 2 == 1 || a.r != b.r || a.f != b.f || a.i != b.i) = true
        · refine Fn.of Try.func66 Try.ntmps66 rfl (by kernel_rfl) (fun w o => ?_)
          (repeat (first | refine G.cW (rchk_F _) ?_ | refine G.cgW (rchk_F _) ?_ | refine GD.cW (rchk_F _) ?_ | refine GD.cgW (rchk_F _) ?_ | refine G.cW (flag_F a 2 (by omega) (by omega) (by omega)) ?_ | (show G _ _ _ _ (WL _ _ _ _ (⟨some _, .call _, _, _, _, some _⟩ :: _)); refine G.gC ?_ (by first | (refine gi ?_; intros; exact LT.ce (flag_F a 2 (by omega) (by omega) (by omega))) | fail) rfl rfl) | refine GD.cW (flag_F a 2 (by omega) (by omega) (by omega)) ?_ | (show GD _ _ _ _ _ _ _ _ _ _ (⟨some _, .call _, _, _, _, some _⟩ :: _); refine GD.gC ?_ (by first | (refine gi ?_; intros; exact LT.ce (flag_F a 2 (by omega) (by omega) (by omega))) | fail) rfl rfl) | ((repeat (revert hK; revert K)); refine wk ?_; repeat intro K hK) | refine wkg ?_))
          refine G.fin1 (by first | exact rvOk.tmp | exact rvOk.cellS | exact rvOk.cell1 | fail) rfl ?_
          have e0 : (chkV a != 0 || chkV b != 0 || a.s + a.p != b.s) = false := by simp [ha, hb, h]
          simp only [mrgW, e0, h2, cond_true, cond_false]
        · have h2 := Bool.eq_false_iff.2 h2
          refine Fn.of Try.func66 Try.ntmps66 rfl (by kernel_rfl) (fun w o => ?_)
          (repeat (first | refine G.cW (rchk_F _) ?_ | refine G.cgW (rchk_F _) ?_ | refine GD.cW (rchk_F _) ?_ | refine GD.cgW (rchk_F _) ?_ | refine G.cW (flag_F a 2 (by omega) (by omega) (by omega)) ?_ | (show G _ _ _ _ (WL _ _ _ _ (⟨some _, .call _, _, _, _, some _⟩ :: _)); refine G.gC ?_ (by first | (refine gi ?_; intros; exact LT.ce (flag_F a 2 (by omega) (by omega) (by omega))) | fail) rfl rfl) | refine GD.cW (flag_F a 2 (by omega) (by omega) (by omega)) ?_ | (show GD _ _ _ _ _ _ _ _ _ _ (⟨some _, .call _, _, _, _, some _⟩ :: _); refine GD.gC ?_ (by first | (refine gi ?_; intros; exact LT.ce (flag_F a 2 (by omega) (by omega) (by omega))) | fail) rfl rfl) | ((repeat (revert hK; revert K)); refine wk ?_; repeat intro K hK) | refine wkg ?_))
          refine G.fin1 (by first | exact rvOk.tmp | exact rvOk.cellS | exact rvOk.cell1 | fail) rfl ?_
          have e0 : (chkV a != 0 || chkV b != 0 || a.s + a.p != b.s) = false := by simp [ha, hb, h]
          simp only [mrgW, e0, h2, cond_true, cond_false]
      · refine Fn.of Try.func66 Try.ntmps66 rfl (by kernel_rfl) (fun w o => ?_)
        (repeat (first | refine G.cW (rchk_F _) ?_ | refine G.cgW (rchk_F _) ?_ | refine GD.cW (rchk_F _) ?_ | refine GD.cgW (rchk_F _) ?_ | refine G.cW (flag_F a 2 (by omega) (by omega) (by omega)) ?_ | (show G _ _ _ _ (WL _ _ _ _ (⟨some _, .call _, _, _, _, some _⟩ :: _)); refine G.gC ?_ (by first | (refine gi ?_; intros; exact LT.ce (flag_F a 2 (by omega) (by omega) (by omega))) | fail) rfl rfl) | refine GD.cW (flag_F a 2 (by omega) (by omega) (by omega)) ?_ | (show GD _ _ _ _ _ _ _ _ _ _ (⟨some _, .call _, _, _, _, some _⟩ :: _); refine GD.gC ?_ (by first | (refine gi ?_; intros; exact LT.ce (flag_F a 2 (by omega) (by omega) (by omega))) | fail) rfl rfl) | ((repeat (revert hK; revert K)); refine wk ?_; repeat intro K hK) | refine wkg ?_))
        refine G.fin1 (by first | exact rvOk.tmp | exact rvOk.cellS | exact rvOk.cell1 | fail) rfl ?_
        have e0 : (chkV a != 0 || chkV b != 0 || a.s + a.p != b.s) = true := by simp [h]
        simp only [mrgW, e0, cond_true]
    · refine Fn.of Try.func66 Try.ntmps66 rfl (by kernel_rfl) (fun w o => ?_)
      (repeat (first | refine G.cW (rchk_F _) ?_ | refine G.cgW (rchk_F _) ?_ | refine GD.cW (rchk_F _) ?_ | refine GD.cgW (rchk_F _) ?_ | ((repeat (revert hK; revert K)); refine wk ?_; repeat intro K hK) | refine wkg ?_))
      refine G.fin1 (by first | exact rvOk.tmp | exact rvOk.cellS | exact rvOk.cell1 | fail) rfl ?_
      have e0 : (chkV a != 0 || chkV b != 0 || a.s + a.p != b.s) = true := by simp [hb]
      simp only [mrgW, e0, cond_true]
  · refine Fn.of Try.func66 Try.ntmps66 rfl (by kernel_rfl) (fun w o => ?_)
    (repeat (first | refine G.cW (rchk_F _) ?_ | refine G.cgW (rchk_F _) ?_ | refine GD.cW (rchk_F _) ?_ | refine GD.cgW (rchk_F _) ?_ | ((repeat (revert hK; revert K)); refine wk ?_; repeat intro K hK) | refine wkg ?_))
    refine G.fin1 (by first | exact rvOk.tmp | exact rvOk.cellS | exact rvOk.cell1 | fail) rfl ?_
    have e0 : (chkV a != 0 || chkV b != 0 || a.s + a.p != b.s) = true := by simp [ha]
    simp only [mrgW, e0, cond_true]
/-- Both have the same. -/
theorem mrgW_eq (a b : RV) : mrgW a b = mrgV a b := by
  by_cases ha : chkV a = 0
  · have hba := chkV_bd ha
    by_cases hb : chkV b = 0
    · have hbb := chkV_bd hb
      rw [Bool.eq_iff_iff]
      have e1 : mrgW a b = true ↔ a.s + a.p = b.s ∧ ¬ (a.f / 2 % 2 = 1) ∧ a.r = b.r ∧ a.f = b.f ∧ a.i = b.i ∧ (a.i < 0 ∨ b.x = a.x + a.p) := by
        simp only [mrgW, ha, hb, bne_self_eq_false, Bool.false_or]
        by_cases h1 : a.s + a.p = b.s <;> by_cases h2 : a.f / 2 % 2 = 1 <;> by_cases h3 : a.r = b.r <;> by_cases h4 : a.f = b.f <;> by_cases h5 : a.i = b.i <;> simp_all
      have e2 : mrgV a b = true ↔ ¬ (a.f / 2 % 2 = 1) ∧ ¬ (b.f / 2 % 2 = 1) ∧ a.s + a.p = b.s ∧ a.r = b.r ∧ a.f = b.f ∧ a.i = b.i ∧ (if a.i = -1 then a.x else a.x + a.p) = b.x := by
        simp only [mrgV, ha, hb, bne_self_eq_false, Bool.false_or, bit2 hba.2.2.2.2.1 hba.2.2.2.2.2.1, bit2 hbb.2.2.2.2.1 hbb.2.2.2.2.2.1, eqR, nxtV]
        simp only [Bool.and_eq_true, Bool.not_eq_true', Bool.or_eq_false_iff, beq_iff_eq, beq_eq_false_iff_ne, ne_eq, true_and]
        constructor
        · rintro ⟨⟨h1, h2⟩, h3⟩
          exact ⟨h1, h2, h3⟩
        · rintro ⟨h1, h2, h3⟩
          exact ⟨⟨h1, h2⟩, h3⟩
      rw [e1, e2]
      split <;> omega
    · have hb1 : (chkV b != 0) = true := by simp [hb]
      simp [mrgW, mrgV, hb1]
  · have ha1 : (chkV a != 0) = true := by simp [ha]
    simp [mrgW, mrgV, ha1]
theorem rmrg_G (a b : RV) : Fn Try.prog 66 [.st a.row, .st b.row] (· = .s (.bool (mrgV a b))) := mrgW_eq a b ▸ rmrg_F a b
set_option maxHeartbeats 4000000 in
theorem rmerge_F (a b : RV) : Fn Try.prog 114 [.st a.row, .st b.row] (· = .tup [.st (mergeV a b).1.row, .s (.int .i64 (mergeV a b).2)]) := by
  by_cases ha : chkV a = 0
  · have hba := chkV_bd ha
    by_cases hb : chkV b = 0
    · have hbb := chkV_bd hb
      by_cases hm : mrgV a b = true
      · refine Fn.of Try.func114 Try.ntmps114 rfl (by kernel_rfl) (fun w o => ?_)
        (repeat (first | refine G.cW (rchk_F _) ?_ | refine G.cgW (rchk_F _) ?_ | refine GD.cW (rchk_F _) ?_ | refine GD.cgW (rchk_F _) ?_ | refine G.cW (rmrg_G _ _) ?_ | refine G.cgW (rmrg_G _ _) ?_ | refine GD.cW (rmrg_G _ _) ?_ | refine GD.cgW (rmrg_G _ _) ?_ | ((repeat (revert hK; revert K)); refine wk ?_; repeat intro K hK) | refine wkg ?_))
        refine G.fin2 (by first | exact rvOk.tmp | exact rvOk.cellS | exact rvOk.cell1 | fail) (by first | exact rvOk.tmp | exact rvOk.cellS | exact rvOk.cell1 | fail) rfl ?_
        simp [mergeV, ha, hb, hm, RV.row]
      · have hm := Bool.eq_false_iff.2 hm
        refine Fn.of Try.func114 Try.ntmps114 rfl (by kernel_rfl) (fun w o => ?_)
        (repeat (first | refine G.cW (rchk_F _) ?_ | refine G.cgW (rchk_F _) ?_ | refine GD.cW (rchk_F _) ?_ | refine GD.cgW (rchk_F _) ?_ | refine G.cW (rmrg_G _ _) ?_ | refine G.cgW (rmrg_G _ _) ?_ | refine GD.cW (rmrg_G _ _) ?_ | refine GD.cgW (rmrg_G _ _) ?_ | ((repeat (revert hK; revert K)); refine wk ?_; repeat intro K hK) | refine wkg ?_))
        refine G.fin2 (by first | exact rvOk.tmp | exact rvOk.cellS | exact rvOk.cell1 | fail) (by first | exact rvOk.tmp | exact rvOk.cellS | exact rvOk.cell1 | fail) rfl ?_
        simp [mergeV, ha, hb, hm, RV.row, RV.z]
    · refine Fn.of Try.func114 Try.ntmps114 rfl (by kernel_rfl) (fun w o => ?_)
      (repeat (first | refine G.cW (rchk_F _) ?_ | refine G.cgW (rchk_F _) ?_ | refine GD.cW (rchk_F _) ?_ | refine GD.cgW (rchk_F _) ?_ | refine G.cW (rmrg_G _ _) ?_ | refine G.cgW (rmrg_G _ _) ?_ | refine GD.cW (rmrg_G _ _) ?_ | refine GD.cgW (rmrg_G _ _) ?_ | ((repeat (revert hK; revert K)); refine wk ?_; repeat intro K hK) | refine wkg ?_))
      refine G.fin2 (by first | exact rvOk.tmp | exact rvOk.cellS | exact rvOk.cell1 | fail) (by first | exact rvOk.tmp | exact rvOk.cellS | exact rvOk.cell1 | fail) rfl ?_
      have h1 : (chkV a != 0) = false := by simp [ha]
      have h2 : (chkV b != 0) = true := by simp [hb]
      simp only [mergeV, h1, h2, cond_true, cond_false]
      rfl
  · refine Fn.of Try.func114 Try.ntmps114 rfl (by kernel_rfl) (fun w o => ?_)
    (repeat (first | refine G.cW (rchk_F _) ?_ | refine G.cgW (rchk_F _) ?_ | refine GD.cW (rchk_F _) ?_ | refine GD.cgW (rchk_F _) ?_ | refine G.cW (rmrg_G _ _) ?_ | refine G.cgW (rmrg_G _ _) ?_ | refine GD.cW (rmrg_G _ _) ?_ | refine GD.cgW (rmrg_G _ _) ?_ | ((repeat (revert hK; revert K)); refine wk ?_; repeat intro K hK) | refine wkg ?_))
    refine G.fin2 (by first | exact rvOk.tmp | exact rvOk.cellS | exact rvOk.cell1 | fail) (by first | exact rvOk.tmp | exact rvOk.cellS | exact rvOk.cell1 | fail) rfl ?_
    have h1 : (chkV a != 0) = true := by simp [ha]
    simp only [mergeV, h1, cond_true]
    rfl
/-- Split: the flag is taken away by subtraction. -/
theorem split_bits {f : Int} (h0 : 0 ≤ f) (h1 : f ≤ 15) : bits .andNot .i64 f 2 = if f / 2 % 2 = 1 then f - 2 else f := by
  rcases fl_cases h0 h1 with rfl | rfl | rfl | rfl | rfl | rfl | rfl | rfl | rfl | rfl | rfl | rfl | rfl | rfl | rfl | rfl <;> rfl
set_option maxHeartbeats 4000000 in
theorem rsplit_F (x : RV) (g : Int) : Fn Try.prog 94 [.st x.row, .s (.int .i64 g)] (· = .tup [.st (splitV x g).1.row, .st (splitV x g).2.1.row, .s (.int .i64 (splitV x g).2.2)]) := by
  by_cases ha : chkV x = 0
  · have hba := chkV_bd ha
    have he : endV x = x.s + x.p := by simp [endV, ha]
    have h0 : (chkV x != 0) = false := by simp [ha]
    by_cases hg : g ≤ x.s ∨ x.s + x.p ≤ g
    · have h1 : (decide (g ≤ x.s) || decide (endV x ≤ g)) = true := by simpa [he] using hg
      refine Fn.of Try.func94 Try.ntmps94 rfl (by kernel_rfl) (fun w o => ?_)
      (repeat (first | refine G.cW (rchk_F _) ?_ | refine G.cgW (rchk_F _) ?_ | refine GD.cW (rchk_F _) ?_ | refine GD.cgW (rchk_F _) ?_ | refine G.cW (flag_F x 2 (by omega) (by omega) (by omega)) ?_ | (show G _ _ _ _ (WL _ _ _ _ (⟨some _, .call _, _, _, _, some _⟩ :: _)); refine G.gC ?_ (by first | (refine gi ?_; intros; exact LT.ce (flag_F x 2 (by omega) (by omega) (by omega))) | fail) rfl rfl) | refine GD.cW (flag_F x 2 (by omega) (by omega) (by omega)) ?_ | (show GD _ _ _ _ _ _ _ _ _ _ (⟨some _, .call _, _, _, _, some _⟩ :: _); refine GD.gC ?_ (by first | (refine gi ?_; intros; exact LT.ce (flag_F x 2 (by omega) (by omega) (by omega))) | fail) rfl rfl) | ((repeat (revert hK; revert K)); refine wk ?_; repeat intro K hK) | refine wkg ?_))
      refine G.fin3 (by first | exact rvOk.tmp | exact rvOk.cellS | exact rvOk.cell1 | fail) (by first | exact rvOk.tmp | exact rvOk.cellS | exact rvOk.cell1 | fail) (by first | exact rvOk.tmp | exact rvOk.cellS | exact rvOk.cell1 | fail) rfl ?_
      simp only [splitV, h0, h1, cond_true, cond_false]
      rfl
    · have h1 : (decide (g ≤ x.s) || decide (endV x ≤ g)) = false := by simpa [he] using hg
      by_cases hi : x.i = -1
      · by_cases hf : x.f / 2 % 2 = 1
        · refine Fn.of Try.func94 Try.ntmps94 rfl (by kernel_rfl) (fun w o => ?_)
          (repeat (first | refine G.cW (rchk_F _) ?_ | refine G.cgW (rchk_F _) ?_ | refine GD.cW (rchk_F _) ?_ | refine GD.cgW (rchk_F _) ?_ | refine G.cW (flag_F x 2 (by omega) (by omega) (by omega)) ?_ | (show G _ _ _ _ (WL _ _ _ _ (⟨some _, .call _, _, _, _, some _⟩ :: _)); refine G.gC ?_ (by first | (refine gi ?_; intros; exact LT.ce (flag_F x 2 (by omega) (by omega) (by omega))) | fail) rfl rfl) | refine GD.cW (flag_F x 2 (by omega) (by omega) (by omega)) ?_ | (show GD _ _ _ _ _ _ _ _ _ _ (⟨some _, .call _, _, _, _, some _⟩ :: _); refine GD.gC ?_ (by first | (refine gi ?_; intros; exact LT.ce (flag_F x 2 (by omega) (by omega) (by omega))) | fail) rfl rfl) | ((repeat (revert hK; revert K)); refine wk ?_; repeat intro K hK) | refine wkg ?_))
          refine G.fin3 (by first | exact rvOk.tmp | exact rvOk.cellS | exact rvOk.cell1 | fail) (by first | exact rvOk.tmp | exact rvOk.cellS | exact rvOk.cell1 | fail) (by first | exact rvOk.tmp | exact rvOk.cellS | exact rvOk.cell1 | fail) rfl ?_
          simp only [splitV, h0, h1, cond_true, cond_false, spLo, spHi, if_pos hi, split_bits hba.2.2.2.2.1 hba.2.2.2.2.2.1, if_pos hf]
          rfl
        · refine Fn.of Try.func94 Try.ntmps94 rfl (by kernel_rfl) (fun w o => ?_)
          (repeat (first | refine G.cW (rchk_F _) ?_ | refine G.cgW (rchk_F _) ?_ | refine GD.cW (rchk_F _) ?_ | refine GD.cgW (rchk_F _) ?_ | refine G.cW (flag_F x 2 (by omega) (by omega) (by omega)) ?_ | (show G _ _ _ _ (WL _ _ _ _ (⟨some _, .call _, _, _, _, some _⟩ :: _)); refine G.gC ?_ (by first | (refine gi ?_; intros; exact LT.ce (flag_F x 2 (by omega) (by omega) (by omega))) | fail) rfl rfl) | refine GD.cW (flag_F x 2 (by omega) (by omega) (by omega)) ?_ | (show GD _ _ _ _ _ _ _ _ _ _ (⟨some _, .call _, _, _, _, some _⟩ :: _); refine GD.gC ?_ (by first | (refine gi ?_; intros; exact LT.ce (flag_F x 2 (by omega) (by omega) (by omega))) | fail) rfl rfl) | ((repeat (revert hK; revert K)); refine wk ?_; repeat intro K hK) | refine wkg ?_))
          refine G.fin3 (by first | exact rvOk.tmp | exact rvOk.cellS | exact rvOk.cell1 | fail) (by first | exact rvOk.tmp | exact rvOk.cellS | exact rvOk.cell1 | fail) (by first | exact rvOk.tmp | exact rvOk.cellS | exact rvOk.cell1 | fail) rfl ?_
          simp only [splitV, h0, h1, cond_true, cond_false, spLo, spHi, if_pos hi, split_bits hba.2.2.2.2.1 hba.2.2.2.2.2.1, if_neg hf]
          rfl
      · by_cases hf : x.f / 2 % 2 = 1
        · refine Fn.of Try.func94 Try.ntmps94 rfl (by kernel_rfl) (fun w o => ?_)
          (repeat (first | refine G.cW (rchk_F _) ?_ | refine G.cgW (rchk_F _) ?_ | refine GD.cW (rchk_F _) ?_ | refine GD.cgW (rchk_F _) ?_ | refine G.cW (flag_F x 2 (by omega) (by omega) (by omega)) ?_ | (show G _ _ _ _ (WL _ _ _ _ (⟨some _, .call _, _, _, _, some _⟩ :: _)); refine G.gC ?_ (by first | (refine gi ?_; intros; exact LT.ce (flag_F x 2 (by omega) (by omega) (by omega))) | fail) rfl rfl) | refine GD.cW (flag_F x 2 (by omega) (by omega) (by omega)) ?_ | (show GD _ _ _ _ _ _ _ _ _ _ (⟨some _, .call _, _, _, _, some _⟩ :: _); refine GD.gC ?_ (by first | (refine gi ?_; intros; exact LT.ce (flag_F x 2 (by omega) (by omega) (by omega))) | fail) rfl rfl) | ((repeat (revert hK; revert K)); refine wk ?_; repeat intro K hK) | refine wkg ?_))
          refine G.fin3 (by first | exact rvOk.tmp | exact rvOk.cellS | exact rvOk.cell1 | fail) (by first | exact rvOk.tmp | exact rvOk.cellS | exact rvOk.cell1 | fail) (by first | exact rvOk.tmp | exact rvOk.cellS | exact rvOk.cell1 | fail) rfl ?_
          simp only [splitV, h0, h1, cond_true, cond_false, spLo, spHi, if_neg hi, split_bits hba.2.2.2.2.1 hba.2.2.2.2.2.1, if_pos hf]
          rfl
        · refine Fn.of Try.func94 Try.ntmps94 rfl (by kernel_rfl) (fun w o => ?_)
          (repeat (first | refine G.cW (rchk_F _) ?_ | refine G.cgW (rchk_F _) ?_ | refine GD.cW (rchk_F _) ?_ | refine GD.cgW (rchk_F _) ?_ | refine G.cW (flag_F x 2 (by omega) (by omega) (by omega)) ?_ | (show G _ _ _ _ (WL _ _ _ _ (⟨some _, .call _, _, _, _, some _⟩ :: _)); refine G.gC ?_ (by first | (refine gi ?_; intros; exact LT.ce (flag_F x 2 (by omega) (by omega) (by omega))) | fail) rfl rfl) | refine GD.cW (flag_F x 2 (by omega) (by omega) (by omega)) ?_ | (show GD _ _ _ _ _ _ _ _ _ _ (⟨some _, .call _, _, _, _, some _⟩ :: _); refine GD.gC ?_ (by first | (refine gi ?_; intros; exact LT.ce (flag_F x 2 (by omega) (by omega) (by omega))) | fail) rfl rfl) | ((repeat (revert hK; revert K)); refine wk ?_; repeat intro K hK) | refine wkg ?_))
          refine G.fin3 (by first | exact rvOk.tmp | exact rvOk.cellS | exact rvOk.cell1 | fail) (by first | exact rvOk.tmp | exact rvOk.cellS | exact rvOk.cell1 | fail) (by first | exact rvOk.tmp | exact rvOk.cellS | exact rvOk.cell1 | fail) rfl ?_
          simp only [splitV, h0, h1, cond_true, cond_false, spLo, spHi, if_neg hi, split_bits hba.2.2.2.2.1 hba.2.2.2.2.2.1, if_neg hf]
          rfl
  · refine Fn.of Try.func94 Try.ntmps94 rfl (by kernel_rfl) (fun w o => ?_)
    (repeat (first | refine G.cW (rchk_F _) ?_ | refine G.cgW (rchk_F _) ?_ | refine GD.cW (rchk_F _) ?_ | refine GD.cgW (rchk_F _) ?_ | ((repeat (revert hK; revert K)); refine wk ?_; repeat intro K hK) | refine wkg ?_))
    refine G.fin3 (by first | exact rvOk.tmp | exact rvOk.cellS | exact rvOk.cell1 | fail) (by first | exact rvOk.tmp | exact rvOk.cellS | exact rvOk.cell1 | fail) (by first | exact rvOk.tmp | exact rvOk.cellS | exact rvOk.cell1 | fail) rfl ?_
    have h1 : (chkV x != 0) = true := by simp [ha]
    simp only [splitV, h1, cond_true]
    rfl

end Go.Proofs.Ytjdpignfdncebaa
