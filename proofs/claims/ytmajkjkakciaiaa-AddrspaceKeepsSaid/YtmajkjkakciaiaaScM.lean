/- Regions, the program's side: Split. -/
import Derived.Test.YtmajkjkakciaiaaSbM
set_option linter.unusedSimpArgs false
set_option linter.unusedVariables false
namespace Go.Proofs.Ytmajkjkakciaiaa
open Go.RowKit

attribute [local irreducible] Wp WL WO fin finB rnd Exit.then Exit.inBlock G GD LT Rd Fn FnB FvB Iter
/-- What Split answers. -/
def spLo (x : RV) (g : Int) : RV := ⟨x.s, g - x.s, x.r, x.f, x.i, x.x⟩
def spHi (x : RV) (g : Int) : RV := ⟨g, x.p - (g - x.s), x.r, bits .andNot .i64 x.f 2, x.i, if x.i = -1 then x.x else x.x + (g - x.s)⟩
def splitV (x : RV) (g : Int) : RV × RV × Int := bif chkV x != 0 then (RV.z, RV.z, chkV x) else bif decide (g ≤ x.s) || decide (endV x ≤ g) then (RV.z, RV.z, 2) else (spLo x g, spHi x g, 0)
set_option maxHeartbeats 4000000 in
theorem split_F (x : RV) (g : Int) : Fn Try.prog 67 [.st x.row, .s (.int .i64 g)] (· = .tup [.st (splitV x g).1.row, .st (splitV x g).2.1.row, .s (.int .i64 (splitV x g).2.2)]) := by
  by_cases ha : chkV x = 0
  · have hba := chkV_bd ha
    have he : endV x = x.s + x.p := by simp [endV, ha]
    have h0 : (chkV x != 0) = false := by simp [ha]
    by_cases hg : g ≤ x.s ∨ endV x ≤ g
    · have h1 : (decide (g ≤ x.s) || decide (endV x ≤ g)) = true := by simpa using hg
      refine Fn.of Try.func67 Try.ntmps67 rfl (by kernel_rfl) (fun w o => ?_)
      (repeat (first | refine G.cW (chk_F _) ?_ | refine G.cgW (chk_F _) ?_ | refine GD.cW (chk_F _) ?_ | refine GD.cgW (chk_F _) ?_ | refine G.cW (end_F _) ?_ | refine G.cgW (end_F _) ?_ | refine GD.cW (end_F _) ?_ | refine GD.cgW (end_F _) ?_ | ((repeat (revert hK; revert K)); refine wk ?_; repeat intro K hK) | refine wkg ?_))
      refine G.fin3 (by first | exact rvOk.tmp | exact rvOk.cellS | exact rvOk.cell1 | fail) (by first | exact rvOk.tmp | exact rvOk.cellS | exact rvOk.cell1 | fail) (by first | exact rvOk.tmp | exact rvOk.cellS | exact rvOk.cell1 | fail) rfl ?_
      simp only [splitV, h0, h1, cond_true, cond_false]
      rfl
    · have h1 : (decide (g ≤ x.s) || decide (endV x ≤ g)) = false := by simpa using hg
      by_cases hi : x.i = -1
      · refine Fn.of Try.func67 Try.ntmps67 rfl (by kernel_rfl) (fun w o => ?_)
        (repeat (first | refine G.cW (chk_F _) ?_ | refine G.cgW (chk_F _) ?_ | refine GD.cW (chk_F _) ?_ | refine GD.cgW (chk_F _) ?_ | refine G.cW (end_F _) ?_ | refine G.cgW (end_F _) ?_ | refine GD.cW (end_F _) ?_ | refine GD.cgW (end_F _) ?_ | ((repeat (revert hK; revert K)); refine wk ?_; repeat intro K hK) | refine wkg ?_))
        refine G.fin3 (by first | exact rvOk.tmp | exact rvOk.cellS | exact rvOk.cell1 | fail) (by first | exact rvOk.tmp | exact rvOk.cellS | exact rvOk.cell1 | fail) (by first | exact rvOk.tmp | exact rvOk.cellS | exact rvOk.cell1 | fail) rfl ?_
        simp only [splitV, h0, h1, cond_true, cond_false, spLo, spHi, if_pos hi]
        rfl
      · refine Fn.of Try.func67 Try.ntmps67 rfl (by kernel_rfl) (fun w o => ?_)
        (repeat (first | refine G.cW (chk_F _) ?_ | refine G.cgW (chk_F _) ?_ | refine GD.cW (chk_F _) ?_ | refine GD.cgW (chk_F _) ?_ | refine G.cW (end_F _) ?_ | refine G.cgW (end_F _) ?_ | refine GD.cW (end_F _) ?_ | refine GD.cgW (end_F _) ?_ | ((repeat (revert hK; revert K)); refine wk ?_; repeat intro K hK) | refine wkg ?_))
        refine G.fin3 (by first | exact rvOk.tmp | exact rvOk.cellS | exact rvOk.cell1 | fail) (by first | exact rvOk.tmp | exact rvOk.cellS | exact rvOk.cell1 | fail) (by first | exact rvOk.tmp | exact rvOk.cellS | exact rvOk.cell1 | fail) rfl ?_
        simp only [splitV, h0, h1, cond_true, cond_false, spLo, spHi, if_neg hi]
        rfl
  · refine Fn.of Try.func67 Try.ntmps67 rfl (by kernel_rfl) (fun w o => ?_)
    (repeat (first | refine G.cW (chk_F _) ?_ | refine G.cgW (chk_F _) ?_ | refine GD.cW (chk_F _) ?_ | refine GD.cgW (chk_F _) ?_ | refine G.cW (end_F _) ?_ | refine G.cgW (end_F _) ?_ | refine GD.cW (end_F _) ?_ | refine GD.cgW (end_F _) ?_ | ((repeat (revert hK; revert K)); refine wk ?_; repeat intro K hK) | refine wkg ?_))
    refine G.fin3 (by first | exact rvOk.tmp | exact rvOk.cellS | exact rvOk.cell1 | fail) (by first | exact rvOk.tmp | exact rvOk.cellS | exact rvOk.cell1 | fail) (by first | exact rvOk.tmp | exact rvOk.cellS | exact rvOk.cell1 | fail) rfl ?_
    have h1 : (chkV x != 0) = true := by simp [ha]
    simp only [splitV, h1, cond_true]
    rfl

/-- What Cut answers. -/
def cutL (x : RV) (g c : Int) : List RV := (bif (splitV x g).2.2 == 0 then [(splitV x g).1] else []) ++ (bif (splitV x (g + c)).2.2 == 0 then [(splitV x (g + c)).2.1] else [])
def cutV (x : RV) (g c : Int) : List RV × Int := bif chkV x != 0 then ([], chkV x) else bif decide (c < 1) then ([], 1) else bif decide (g < 0) || decide (g > 512) || decide (c > 512 - g) then ([], 2) else bif decide (endV x ≤ g) || decide (g + c ≤ x.s) then ([x], 0) else (cutL x g c, 0)
def rws (l : List RV) : List (List D) := l.map RV.row
set_option maxHeartbeats 4000000 in
theorem cut_F (x : RV) (g c : Int) : Fn Try.prog 38 [.st x.row, .s (.int .i64 g), .s (.int .i64 c)] (· = .tup [.l (rws (cutV x g c).1), .s (.int .i64 (cutV x g c).2)]) := by
  by_cases ha : chkV x = 0
  · have hba := chkV_bd ha
    have he : endV x = x.s + x.p := by simp [endV, ha]
    have h0 : (chkV x != 0) = false := by simp [ha]
    by_cases hc : c < 1
    · have h1 : decide (c < 1) = true := by simpa using hc
      refine Fn.of Try.func38 Try.ntmps38 rfl (by kernel_rfl) (fun w o => ?_)
      (repeat (first | refine G.cW (chk_F _) ?_ | refine G.cgW (chk_F _) ?_ | refine GD.cW (chk_F _) ?_ | refine GD.cgW (chk_F _) ?_ | refine G.cW (end_F _) ?_ | refine G.cgW (end_F _) ?_ | refine GD.cW (end_F _) ?_ | refine GD.cgW (end_F _) ?_ | refine G.cW (split_F _ _) ?_ | refine G.cgW (split_F _ _) ?_ | refine GD.cW (split_F _ _) ?_ | refine GD.cgW (split_F _ _) ?_ | ((repeat (revert hK; revert K)); refine wk ?_; repeat intro K hK) | refine wkg ?_))
      (first | refine G.nilL 6 ?_ | refine G.frzB 6 ?_)
      refine G.fin2 (by first | exact rvOk.tmp | exact rvOk.cellS | exact rvOk.cell1 | fail) (by first | exact rvOk.tmp | exact rvOk.cellS | exact rvOk.cell1 | fail) rfl ?_
      simp only [cutV, h0, h1, cond_true, cond_false]
      rfl
    · have h1 : decide (c < 1) = false := by simpa using hc
      by_cases hg : g < 0 ∨ g > 512 ∨ c > 512 - g
      · have h2 : (decide (g < 0) || decide (g > 512) || decide (c > 512 - g)) = true := by simp; omega
        refine Fn.of Try.func38 Try.ntmps38 rfl (by kernel_rfl) (fun w o => ?_)
        (repeat (first | refine G.cW (chk_F _) ?_ | refine G.cgW (chk_F _) ?_ | refine GD.cW (chk_F _) ?_ | refine GD.cgW (chk_F _) ?_ | refine G.cW (end_F _) ?_ | refine G.cgW (end_F _) ?_ | refine GD.cW (end_F _) ?_ | refine GD.cgW (end_F _) ?_ | refine G.cW (split_F _ _) ?_ | refine G.cgW (split_F _ _) ?_ | refine GD.cW (split_F _ _) ?_ | refine GD.cgW (split_F _ _) ?_ | ((repeat (revert hK; revert K)); refine wk ?_; repeat intro K hK) | refine wkg ?_))
        first | (first | refine G.nilL 6 ?_ | refine G.frzB 6 ?_) | skip
        refine G.fin2 (by first | exact rvOk.tmp | exact rvOk.cellS | exact rvOk.cell1 | fail) (by first | exact rvOk.tmp | exact rvOk.cellS | exact rvOk.cell1 | fail) rfl ?_
        simp only [cutV, h0, h1, h2, cond_true, cond_false]
        rfl
      · have h2 : (decide (g < 0) || decide (g > 512) || decide (c > 512 - g)) = false := by simp; omega
        by_cases hk : endV x ≤ g ∨ g + c ≤ x.s
        · have h3 : (decide (endV x ≤ g) || decide (g + c ≤ x.s)) = true := by simpa using hk
          refine Fn.of Try.func38 Try.ntmps38 rfl (by kernel_rfl) (fun w o => ?_)
          (repeat (first | refine G.cW (chk_F _) ?_ | refine G.cgW (chk_F _) ?_ | refine GD.cW (chk_F _) ?_ | refine GD.cgW (chk_F _) ?_ | refine G.cW (end_F _) ?_ | refine G.cgW (end_F _) ?_ | refine GD.cW (end_F _) ?_ | refine GD.cgW (end_F _) ?_ | refine G.cW (split_F _ _) ?_ | refine G.cgW (split_F _ _) ?_ | refine GD.cW (split_F _ _) ?_ | refine GD.cgW (split_F _ _) ?_ | ((repeat (revert hK; revert K)); refine wk ?_; repeat intro K hK) | refine wkg ?_))
          first | (first | refine G.nilL 6 ?_ | refine G.frzB 6 ?_) | skip
          refine G.fin2 (by first | exact rvOk.tmp | exact rvOk.cellS | exact rvOk.cell1 | fail) (by first | exact rvOk.tmp | exact rvOk.cellS | exact rvOk.cell1 | fail) rfl ?_
          simp only [cutV, h0, h1, h2, h3, cond_true, cond_false]
          rfl
        · have h3 : (decide (endV x ≤ g) || decide (g + c ≤ x.s)) = false := by simpa using hk
          by_cases hl : (splitV x g).2.2 = 0
          · have h4 : ((splitV x g).2.2 == 0) = true := by simp [hl]
            by_cases hr : (splitV x (g + c)).2.2 = 0
            · have h5 : ((splitV x (g + c)).2.2 == 0) = true := by simp [hr]
              refine Fn.of Try.func38 Try.ntmps38 rfl (by kernel_rfl) (fun w o => ?_)
              (repeat (first | refine G.cW (chk_F _) ?_ | refine G.cgW (chk_F _) ?_ | refine GD.cW (chk_F _) ?_ | refine GD.cgW (chk_F _) ?_ | refine G.cW (end_F _) ?_ | refine G.cgW (end_F _) ?_ | refine GD.cW (end_F _) ?_ | refine GD.cgW (end_F _) ?_ | refine G.cW (split_F _ _) ?_ | refine G.cgW (split_F _ _) ?_ | refine GD.cW (split_F _ _) ?_ | refine GD.cgW (split_F _ _) ?_ | ((repeat (revert hK; revert K)); refine wk ?_; repeat intro K hK) | refine wkg ?_))
              first | (first | refine G.nilL 6 ?_ | refine G.frzB 6 ?_) | skip
              refine G.fin2 (by first | exact rvOk.tmp | exact rvOk.cellS | exact rvOk.cell1 | fail) (by first | exact rvOk.tmp | exact rvOk.cellS | exact rvOk.cell1 | fail) rfl ?_
              simp only [cutV, cutL, h0, h1, h2, h3, h4, h5, cond_true, cond_false]
              rfl
            · have h5 : ((splitV x (g + c)).2.2 == 0) = false := by simp [hr]
              refine Fn.of Try.func38 Try.ntmps38 rfl (by kernel_rfl) (fun w o => ?_)
              (repeat (first | refine G.cW (chk_F _) ?_ | refine G.cgW (chk_F _) ?_ | refine GD.cW (chk_F _) ?_ | refine GD.cgW (chk_F _) ?_ | refine G.cW (end_F _) ?_ | refine G.cgW (end_F _) ?_ | refine GD.cW (end_F _) ?_ | refine GD.cgW (end_F _) ?_ | refine G.cW (split_F _ _) ?_ | refine G.cgW (split_F _ _) ?_ | refine GD.cW (split_F _ _) ?_ | refine GD.cgW (split_F _ _) ?_ | ((repeat (revert hK; revert K)); refine wk ?_; repeat intro K hK) | refine wkg ?_))
              first | (first | refine G.nilL 6 ?_ | refine G.frzB 6 ?_) | skip
              refine G.fin2 (by first | exact rvOk.tmp | exact rvOk.cellS | exact rvOk.cell1 | fail) (by first | exact rvOk.tmp | exact rvOk.cellS | exact rvOk.cell1 | fail) rfl ?_
              simp only [cutV, cutL, h0, h1, h2, h3, h4, h5, cond_true, cond_false]
              rfl
          · have h4 : ((splitV x g).2.2 == 0) = false := by simp [hl]
            by_cases hr : (splitV x (g + c)).2.2 = 0
            · have h5 : ((splitV x (g + c)).2.2 == 0) = true := by simp [hr]
              refine Fn.of Try.func38 Try.ntmps38 rfl (by kernel_rfl) (fun w o => ?_)
              (repeat (first | refine G.cW (chk_F _) ?_ | refine G.cgW (chk_F _) ?_ | refine GD.cW (chk_F _) ?_ | refine GD.cgW (chk_F _) ?_ | refine G.cW (end_F _) ?_ | refine G.cgW (end_F _) ?_ | refine GD.cW (end_F _) ?_ | refine GD.cgW (end_F _) ?_ | refine G.cW (split_F _ _) ?_ | refine G.cgW (split_F _ _) ?_ | refine GD.cW (split_F _ _) ?_ | refine GD.cgW (split_F _ _) ?_ | ((repeat (revert hK; revert K)); refine wk ?_; repeat intro K hK) | refine wkg ?_))
              first | (first | refine G.nilL 6 ?_ | refine G.frzB 6 ?_) | skip
              refine G.fin2 (by first | exact rvOk.tmp | exact rvOk.cellS | exact rvOk.cell1 | fail) (by first | exact rvOk.tmp | exact rvOk.cellS | exact rvOk.cell1 | fail) rfl ?_
              simp only [cutV, cutL, h0, h1, h2, h3, h4, h5, cond_true, cond_false]
              rfl
            · have h5 : ((splitV x (g + c)).2.2 == 0) = false := by simp [hr]
              refine Fn.of Try.func38 Try.ntmps38 rfl (by kernel_rfl) (fun w o => ?_)
              (repeat (first | refine G.cW (chk_F _) ?_ | refine G.cgW (chk_F _) ?_ | refine GD.cW (chk_F _) ?_ | refine GD.cgW (chk_F _) ?_ | refine G.cW (end_F _) ?_ | refine G.cgW (end_F _) ?_ | refine GD.cW (end_F _) ?_ | refine GD.cgW (end_F _) ?_ | refine G.cW (split_F _ _) ?_ | refine G.cgW (split_F _ _) ?_ | refine GD.cW (split_F _ _) ?_ | refine GD.cgW (split_F _ _) ?_ | ((repeat (revert hK; revert K)); refine wk ?_; repeat intro K hK) | refine wkg ?_))
              first | (first | refine G.nilL 6 ?_ | refine G.frzB 6 ?_) | skip
              refine G.fin2 (by first | exact rvOk.tmp | exact rvOk.cellS | exact rvOk.cell1 | fail) (by first | exact rvOk.tmp | exact rvOk.cellS | exact rvOk.cell1 | fail) rfl ?_
              simp only [cutV, cutL, h0, h1, h2, h3, h4, h5, cond_true, cond_false]
              rfl
  · refine Fn.of Try.func38 Try.ntmps38 rfl (by kernel_rfl) (fun w o => ?_)
    (repeat (first | refine G.cW (chk_F _) ?_ | refine G.cgW (chk_F _) ?_ | refine GD.cW (chk_F _) ?_ | refine GD.cgW (chk_F _) ?_ | refine G.cW (end_F _) ?_ | refine G.cgW (end_F _) ?_ | refine GD.cW (end_F _) ?_ | refine GD.cgW (end_F _) ?_ | refine G.cW (split_F _ _) ?_ | refine G.cgW (split_F _ _) ?_ | refine GD.cW (split_F _ _) ?_ | refine GD.cgW (split_F _ _) ?_ | ((repeat (revert hK; revert K)); refine wk ?_; repeat intro K hK) | refine wkg ?_))
    (first | refine G.nilL 6 ?_ | refine G.frzB 6 ?_)
    refine G.fin2 (by first | exact rvOk.tmp | exact rvOk.cellS | exact rvOk.cell1 | fail) (by first | exact rvOk.tmp | exact rvOk.cellS | exact rvOk.cell1 | fail) rfl ?_
    have h1 : (chkV x != 0) = true := by simp [ha]
    simp only [cutV, h1, cond_true]
    rfl

end Go.Proofs.Ytmajkjkakciaiaa
