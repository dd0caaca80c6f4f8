/- Regions, the reference's side: Cut. -/
import Derived.Test.YtjdpignfdncebaaSdM
set_option linter.unusedSimpArgs false
set_option linter.unusedVariables false
namespace Go.Proofs.Ytjdpignfdncebaa
open Go.RowKit

attribute [local irreducible] Wp WL WO fin finB rnd Exit.then Exit.inBlock G GD LT Rd Fn FnB FvB Iter
theorem split_err {x : RV} (ha : chkV x = 0) (g : Int) : ((splitV x g).2.2 == 0) = (decide (x.s < g) && decide (g < x.s + x.p)) := by
  have h0 : (chkV x != 0) = false := by simp [ha]
  have he : endV x = x.s + x.p := by simp [endV, ha]
  simp only [splitV, h0, he, cond_false]
  by_cases h1 : g ≤ x.s
  · have h2 : ¬ x.s < g := by omega
    simp [h1, h2]
  · by_cases h2 : x.s + x.p ≤ g
    · have h3 : ¬ g < x.s + x.p := by omega
      simp [h2, h3]
    · have h3 : x.s < g := by omega
      have h4 : g < x.s + x.p := by omega
      simp [h1, h2, h3, h4]
set_option maxHeartbeats 4000000 in
theorem rcut_F (x : RV) (g c : Int) : Fn Try.prog 59 [.st x.row, .s (.int .i64 g), .s (.int .i64 c)] (· = .tup [.l (rws (cutV x g c).1), .s (.int .i64 (cutV x g c).2)]) := by
  by_cases ha : chkV x = 0
  · have hba := chkV_bd ha
    have he : endV x = x.s + x.p := by simp [endV, ha]
    have h0 : (chkV x != 0) = false := by simp [ha]
    by_cases hc : c < 1
    · have h1 : decide (c < 1) = true := by simpa using hc
      refine Fn.of Try.func59 Try.ntmps59 rfl (by kernel_rfl) (fun w o => ?_)
      (repeat (first | refine G.cW (rchk_F _) ?_ | refine G.cgW (rchk_F _) ?_ | refine GD.cW (rchk_F _) ?_ | refine GD.cgW (rchk_F _) ?_ | refine G.cW (rsplit_F _ _) ?_ | refine G.cgW (rsplit_F _ _) ?_ | refine GD.cW (rsplit_F _ _) ?_ | refine GD.cgW (rsplit_F _ _) ?_ | ((repeat (revert hK; revert K)); refine wk ?_; repeat intro K hK) | refine wkg ?_))
      (first | refine G.nilL 6 ?_ | refine G.frzB 6 ?_)
      refine G.fin2 (by first | exact rvOk.tmp | exact rvOk.cellS | exact rvOk.cell1 | fail) (by first | exact rvOk.tmp | exact rvOk.cellS | exact rvOk.cell1 | fail) rfl ?_
      simp only [cutV, h0, h1, cond_true, cond_false]
      rfl
    · have h1 : decide (c < 1) = false := by simpa using hc
      by_cases hg : g < 0 ∨ g > 512 ∨ c > 512 - g
      · have h2 : (decide (g < 0) || decide (g > 512) || decide (c > 512 - g)) = true := by simp; omega
        refine Fn.of Try.func59 Try.ntmps59 rfl (by kernel_rfl) (fun w o => ?_)
        (repeat (first | refine G.cW (rchk_F _) ?_ | refine G.cgW (rchk_F _) ?_ | refine GD.cW (rchk_F _) ?_ | refine GD.cgW (rchk_F _) ?_ | refine G.cW (rsplit_F _ _) ?_ | refine G.cgW (rsplit_F _ _) ?_ | refine GD.cW (rsplit_F _ _) ?_ | refine GD.cgW (rsplit_F _ _) ?_ | ((repeat (revert hK; revert K)); refine wk ?_; repeat intro K hK) | refine wkg ?_))
        first | (first | refine G.nilL 6 ?_ | refine G.frzB 6 ?_) | skip
        refine G.fin2 (by first | exact rvOk.tmp | exact rvOk.cellS | exact rvOk.cell1 | fail) (by first | exact rvOk.tmp | exact rvOk.cellS | exact rvOk.cell1 | fail) rfl ?_
        simp only [cutV, h0, h1, h2, cond_true, cond_false]
        rfl
      · have h2 : (decide (g < 0) || decide (g > 512) || decide (c > 512 - g)) = false := by simp; omega
        by_cases hk : x.s + x.p ≤ g ∨ g + c ≤ x.s
        · have h3 : (decide (endV x ≤ g) || decide (g + c ≤ x.s)) = true := by simpa [he] using hk
          refine Fn.of Try.func59 Try.ntmps59 rfl (by kernel_rfl) (fun w o => ?_)
          (repeat (first | refine G.cW (rchk_F _) ?_ | refine G.cgW (rchk_F _) ?_ | refine GD.cW (rchk_F _) ?_ | refine GD.cgW (rchk_F _) ?_ | refine G.cW (rsplit_F _ _) ?_ | refine G.cgW (rsplit_F _ _) ?_ | refine GD.cW (rsplit_F _ _) ?_ | refine GD.cgW (rsplit_F _ _) ?_ | ((repeat (revert hK; revert K)); refine wk ?_; repeat intro K hK) | refine wkg ?_))
          first | (first | refine G.nilL 6 ?_ | refine G.frzB 6 ?_) | skip
          refine G.fin2 (by first | exact rvOk.tmp | exact rvOk.cellS | exact rvOk.cell1 | fail) (by first | exact rvOk.tmp | exact rvOk.cellS | exact rvOk.cell1 | fail) rfl ?_
          simp only [cutV, h0, h1, h2, h3, cond_true, cond_false]
          rfl
        · have h3 : (decide (endV x ≤ g) || decide (g + c ≤ x.s)) = false := by simpa [he] using hk
          by_cases hl : x.s < g
          · have h4 : ((splitV x g).2.2 == 0) = true := by rw [split_err ha]; simp; omega
            by_cases hr : g + c < x.s + x.p
            · have h5 : ((splitV x (g + c)).2.2 == 0) = true := by rw [split_err ha]; simp; omega
              refine Fn.of Try.func59 Try.ntmps59 rfl (by kernel_rfl) (fun w o => ?_)
              (repeat (first | refine G.cW (rchk_F _) ?_ | refine G.cgW (rchk_F _) ?_ | refine GD.cW (rchk_F _) ?_ | refine GD.cgW (rchk_F _) ?_ | refine G.cW (rsplit_F _ _) ?_ | refine G.cgW (rsplit_F _ _) ?_ | refine GD.cW (rsplit_F _ _) ?_ | refine GD.cgW (rsplit_F _ _) ?_ | ((repeat (revert hK; revert K)); refine wk ?_; repeat intro K hK) | refine wkg ?_))
              first | (first | refine G.nilL 6 ?_ | refine G.frzB 6 ?_) | skip
              refine G.fin2 (by first | exact rvOk.tmp | exact rvOk.cellS | exact rvOk.cell1 | fail) (by first | exact rvOk.tmp | exact rvOk.cellS | exact rvOk.cell1 | fail) rfl ?_
              simp only [cutV, cutL, h0, h1, h2, h3, h4, h5, cond_true, cond_false]
              rfl
            · have h5 : ((splitV x (g + c)).2.2 == 0) = false := by rw [split_err ha]; simp; omega
              refine Fn.of Try.func59 Try.ntmps59 rfl (by kernel_rfl) (fun w o => ?_)
              (repeat (first | refine G.cW (rchk_F _) ?_ | refine G.cgW (rchk_F _) ?_ | refine GD.cW (rchk_F _) ?_ | refine GD.cgW (rchk_F _) ?_ | refine G.cW (rsplit_F _ _) ?_ | refine G.cgW (rsplit_F _ _) ?_ | refine GD.cW (rsplit_F _ _) ?_ | refine GD.cgW (rsplit_F _ _) ?_ | ((repeat (revert hK; revert K)); refine wk ?_; repeat intro K hK) | refine wkg ?_))
              first | (first | refine G.nilL 6 ?_ | refine G.frzB 6 ?_) | skip
              refine G.fin2 (by first | exact rvOk.tmp | exact rvOk.cellS | exact rvOk.cell1 | fail) (by first | exact rvOk.tmp | exact rvOk.cellS | exact rvOk.cell1 | fail) rfl ?_
              simp only [cutV, cutL, h0, h1, h2, h3, h4, h5, cond_true, cond_false]
              rfl
          · have h4 : ((splitV x g).2.2 == 0) = false := by rw [split_err ha]; simp; omega
            by_cases hr : g + c < x.s + x.p
            · have h5 : ((splitV x (g + c)).2.2 == 0) = true := by rw [split_err ha]; simp; omega
              refine Fn.of Try.func59 Try.ntmps59 rfl (by kernel_rfl) (fun w o => ?_)
              (repeat (first | refine G.cW (rchk_F _) ?_ | refine G.cgW (rchk_F _) ?_ | refine GD.cW (rchk_F _) ?_ | refine GD.cgW (rchk_F _) ?_ | refine G.cW (rsplit_F _ _) ?_ | refine G.cgW (rsplit_F _ _) ?_ | refine GD.cW (rsplit_F _ _) ?_ | refine GD.cgW (rsplit_F _ _) ?_ | ((repeat (revert hK; revert K)); refine wk ?_; repeat intro K hK) | refine wkg ?_))
              first | (first | refine G.nilL 6 ?_ | refine G.frzB 6 ?_) | skip
              refine G.fin2 (by first | exact rvOk.tmp | exact rvOk.cellS | exact rvOk.cell1 | fail) (by first | exact rvOk.tmp | exact rvOk.cellS | exact rvOk.cell1 | fail) rfl ?_
              simp only [cutV, cutL, h0, h1, h2, h3, h4, h5, cond_true, cond_false]
              rfl
            · have h5 : ((splitV x (g + c)).2.2 == 0) = false := by rw [split_err ha]; simp; omega
              refine Fn.of Try.func59 Try.ntmps59 rfl (by kernel_rfl) (fun w o => ?_)
              (repeat (first | refine G.cW (rchk_F _) ?_ | refine G.cgW (rchk_F _) ?_ | refine GD.cW (rchk_F _) ?_ | refine GD.cgW (rchk_F _) ?_ | refine G.cW (rsplit_F _ _) ?_ | refine G.cgW (rsplit_F _ _) ?_ | refine GD.cW (rsplit_F _ _) ?_ | refine GD.cgW (rsplit_F _ _) ?_ | ((repeat (revert hK; revert K)); refine wk ?_; repeat intro K hK) | refine wkg ?_))
              first | (first | refine G.nilL 6 ?_ | refine G.frzB 6 ?_) | skip
              refine G.fin2 (by first | exact rvOk.tmp | exact rvOk.cellS | exact rvOk.cell1 | fail) (by first | exact rvOk.tmp | exact rvOk.cellS | exact rvOk.cell1 | fail) rfl ?_
              simp only [cutV, cutL, h0, h1, h2, h3, h4, h5, cond_true, cond_false]
              rfl
  · refine Fn.of Try.func59 Try.ntmps59 rfl (by kernel_rfl) (fun w o => ?_)
    (repeat (first | refine G.cW (rchk_F _) ?_ | refine G.cgW (rchk_F _) ?_ | refine GD.cW (rchk_F _) ?_ | refine GD.cgW (rchk_F _) ?_ | ((repeat (revert hK; revert K)); refine wk ?_; repeat intro K hK) | refine wkg ?_))
    (first | refine G.nilL 6 ?_ | refine G.frzB 6 ?_)
    refine G.fin2 (by first | exact rvOk.tmp | exact rvOk.cellS | exact rvOk.cell1 | fail) (by first | exact rvOk.tmp | exact rvOk.cellS | exact rvOk.cell1 | fail) rfl ?_
    have h1 : (chkV x != 0) = true := by simp [ha]
    simp only [cutV, h1, cond_true]
    rfl

end Go.Proofs.Ytjdpignfdncebaa
