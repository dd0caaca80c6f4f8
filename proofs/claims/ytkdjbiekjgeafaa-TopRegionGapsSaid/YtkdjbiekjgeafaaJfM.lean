/- The law TopRegionGaps as a contract. -/
import Derived.Test.YtkdjbiekjgeafaaJeM
set_option linter.unusedSimpArgs false
set_option linter.unusedVariables false
namespace Go.Proofs.Ytkdjbiekjgeafaa
open Go.RowKit Iv

attribute [local irreducible] Wp WL WO fin finB rnd Exit.then Exit.inBlock G GD LT Rd Fn FnB FvB Iter
attribute [local go_sem] RV.row TD.row OV.row
set_option maxRecDepth 100000 in
set_option maxHeartbeats 4000000 in
theorem law_gaps (l : List OV) (q : Int × Int × Int) : Fn Try.prog 4 [.l (ows l), .st [.s (.int .i64 q.1), .s (.int .i64 q.2.1), .s (.int .i64 q.2.2)]] (· = .s (.bool true)) := by
  have hlen : ((ows l).length : Int) = l.length := by rw [ows_len']
  obtain ⟨lo, hi, N⟩ := q
  dsimp only
  by_cases h24 : 24 < l.length
  · have hb : decide (24 < ((ows l).length : Int)) = true := by rw [decide_eq_true_eq]; omega
    refine Fn.of Try.func4 Try.ntmps4 rfl (by kernel_rfl) (fun w o => ?_)
    (repeat (first | refine G.cW (dmapping_F) ?_ | refine G.cgW (dmapping_F) ?_ | refine GD.cW (dmapping_F) ?_ | refine GD.cgW (dmapping_F) ?_ | ((repeat (revert hK; revert K)); refine wk ?_; repeat intro K hK) | refine wkg ?_))
    refine G.fin1 (by first | exact rvOk.tmp | exact rvOk.cellS | exact rvOk.cell1 | fail) rfl ?_
    rfl
  · have hb : decide (24 < ((ows l).length : Int)) = false := by rw [decide_eq_false_iff_not]; omega
    have hm := dmap_F l (by omega)
    obtain ⟨hok, hle⟩ := runM_ok l l.length (Nat.le_refl _)
    generalize (runM l l.length).1 = p at *
    generalize (runM l l.length).2 = s at *
    obtain ⟨n, hn⟩ : ∃ n, IntKind.i64.wrap (1 + (IntKind.i64.wrap (N.tmod 60 + 60)).tmod 60) = n := ⟨_, rfl⟩
    have hn1 : 1 ≤ n ∧ n ≤ 60 := by
      have e1 : -59 ≤ Int.tmod N 60 ∧ Int.tmod N 60 ≤ 59 := by
        rcases Int.le_total 0 N with h | h
        · rw [Int.tmod_eq_emod_of_nonneg h]; omega
        · have := Int.neg_tmod (a := -N) (b := 60)
          rw [Int.neg_neg] at this
          rw [this, Int.tmod_eq_emod_of_nonneg (by omega)]; omega
      have e2 : IntKind.i64.wrap (N.tmod 60 + 60) = N.tmod 60 + 60 := Yq _ (by omega)
      have e3 : 0 ≤ Int.tmod (Int.tmod N 60 + 60) 60 ∧ Int.tmod (Int.tmod N 60 + 60) 60 ≤ 59 := by
        rw [Int.tmod_eq_emod_of_nonneg (by omega)]; omega
      rw [e2, Yq _ (by omega)] at hn
      omega
    have hp := hok.hp
    have f1 := fg_F s (by omega) 0 512 n
    obtain ⟨q1, q2⟩ := gap_first hok (lo := 0) (hi := 512) (n := n) (by omega) (by omega) (by omega) hn1.1 hn1.2
    have pl := place_P hp n
    have pg := pGap_P hp.g 0 512 n
    have pg2 := pGap_P hp.g lo hi n
    have f2 := fg_F s (by omega) lo hi n
    have hlh : (decide (lo < 0) || decide (hi < lo) || decide (512 < hi)) = false → (if (fgI s lo hi n (cutI (oneI (lo, hi)) s)).2 = 0 then (fgI s lo hi n (cutI (oneI (lo, hi)) s)).1 else -1) = GapF p lo hi n ∧ ((fgI s lo hi n (cutI (oneI (lo, hi)) s)).2 = 0 ∨ (fgI s lo hi n (cutI (oneI (lo, hi)) s)).2 = 6) := fun h => by
      simp only [Bool.or_eq_false_iff, decide_eq_false_iff_not] at h
      exact gap_first hok (by omega) (by omega) (by omega) hn1.1 hn1.2
    have hbad : (decide (lo < 0) || decide (hi < lo) || decide (512 < hi)) = true → GapF p lo hi n = -1 := fun h => GapF_bad (by unfold gapBad; rw [h]; rfl)
    generalize fgI s 0 512 n (cutI (oneI (0, 512)) s) = r1 at *
    generalize fgI s lo hi n (cutI (oneI (lo, hi)) s) = r2 at *
    generalize GapF p 0 512 n = G1 at *
    generalize GapF p lo hi n = G2 at *
    obtain ⟨a1, e1⟩ := r1
    obtain ⟨a2, e2⟩ := r2
    dsimp only at q1 q2 f1 f2 hlh
    rcases q2 with q2 | q2
    · subst q2
      rw [if_pos rfl] at q1
      subst q1
      have hbe : ((a1 != a1) || (a1 != a1)) = false := by simp
      cases hcd : (decide (lo < 0) || decide (hi < lo) || decide (512 < hi)) with
      | true =>
        have hG := hbad hcd
        subst hG
        refine Fn.of Try.func4 Try.ntmps4 rfl (by kernel_rfl) (fun w o => ?_)
        (repeat (first | refine GD.ctW (hm) ?_ | refine G.cW (hm) ?_ | refine G.cgW (hm) ?_ | refine GD.cW (hm) ?_ | refine GD.cgW (hm) ?_ | ((repeat (revert hK; revert K)); refine wkG ?_; repeat intro K hK) | refine wkg ?_))
        rw [hn]
        (repeat (first | refine GD.ctW (f1) ?_ | refine G.cW (f1) ?_ | refine G.cgW (f1) ?_ | refine GD.cW (f1) ?_ | refine GD.cgW (f1) ?_ | refine GD.ctW (pl) ?_ | refine G.cW (pl) ?_ | refine G.cgW (pl) ?_ | refine GD.cW (pl) ?_ | refine GD.cgW (pl) ?_ | refine GD.ctW (pg) ?_ | refine G.cW (pg) ?_ | refine G.cgW (pg) ?_ | refine GD.cW (pg) ?_ | refine GD.cgW (pg) ?_ | refine GD.ctW (pg2) ?_ | refine G.cW (pg2) ?_ | refine G.cgW (pg2) ?_ | refine GD.cW (pg2) ?_ | refine GD.cgW (pg2) ?_ | refine GD.ctW (dmapping_F) ?_ | refine G.cW (dmapping_F) ?_ | refine G.cgW (dmapping_F) ?_ | refine GD.cW (dmapping_F) ?_ | refine GD.cgW (dmapping_F) ?_ | ((repeat (revert hK; revert K)); refine wkG ?_; repeat intro K hK) | refine wkg ?_))
        refine G.fin1 (by first | exact rvOk.tmp | exact rvOk.cellS | exact rvOk.cell1 | fail) rfl ?_
        simp
      | false =>
        obtain ⟨s1, s2⟩ := hlh hcd
        rcases s2 with s2 | s2
        · subst s2
          rw [if_pos rfl] at s1
          subst s1
          refine Fn.of Try.func4 Try.ntmps4 rfl (by kernel_rfl) (fun w o => ?_)
          (repeat (first | refine GD.ctW (hm) ?_ | refine G.cW (hm) ?_ | refine G.cgW (hm) ?_ | refine GD.cW (hm) ?_ | refine GD.cgW (hm) ?_ | ((repeat (revert hK; revert K)); refine wkG ?_; repeat intro K hK) | refine wkg ?_))
          rw [hn]
          (repeat (first | refine GD.ctW (f1) ?_ | refine G.cW (f1) ?_ | refine G.cgW (f1) ?_ | refine GD.cW (f1) ?_ | refine GD.cgW (f1) ?_ | refine GD.ctW (pl) ?_ | refine G.cW (pl) ?_ | refine G.cgW (pl) ?_ | refine GD.cW (pl) ?_ | refine GD.cgW (pl) ?_ | refine GD.ctW (pg) ?_ | refine G.cW (pg) ?_ | refine G.cgW (pg) ?_ | refine GD.cW (pg) ?_ | refine GD.cgW (pg) ?_ | refine GD.ctW (f2) ?_ | refine G.cW (f2) ?_ | refine G.cgW (f2) ?_ | refine GD.cW (f2) ?_ | refine GD.cgW (f2) ?_ | refine GD.ctW (pg2) ?_ | refine G.cW (pg2) ?_ | refine G.cgW (pg2) ?_ | refine GD.cW (pg2) ?_ | refine GD.cgW (pg2) ?_ | refine GD.ctW (dmapping_F) ?_ | refine G.cW (dmapping_F) ?_ | refine G.cgW (dmapping_F) ?_ | refine GD.cW (dmapping_F) ?_ | refine GD.cgW (dmapping_F) ?_ | ((repeat (revert hK; revert K)); refine wkG ?_; repeat intro K hK) | refine wkg ?_))
          refine G.fin1 (by first | exact rvOk.tmp | exact rvOk.cellS | exact rvOk.cell1 | fail) rfl ?_
          simp
        · subst s2
          rw [if_neg (by decide)] at s1
          subst s1
          refine Fn.of Try.func4 Try.ntmps4 rfl (by kernel_rfl) (fun w o => ?_)
          (repeat (first | refine GD.ctW (hm) ?_ | refine G.cW (hm) ?_ | refine G.cgW (hm) ?_ | refine GD.cW (hm) ?_ | refine GD.cgW (hm) ?_ | ((repeat (revert hK; revert K)); refine wkG ?_; repeat intro K hK) | refine wkg ?_))
          rw [hn]
          (repeat (first | refine GD.ctW (f1) ?_ | refine G.cW (f1) ?_ | refine G.cgW (f1) ?_ | refine GD.cW (f1) ?_ | refine GD.cgW (f1) ?_ | refine GD.ctW (pl) ?_ | refine G.cW (pl) ?_ | refine G.cgW (pl) ?_ | refine GD.cW (pl) ?_ | refine GD.cgW (pl) ?_ | refine GD.ctW (pg) ?_ | refine G.cW (pg) ?_ | refine G.cgW (pg) ?_ | refine GD.cW (pg) ?_ | refine GD.cgW (pg) ?_ | refine GD.ctW (f2) ?_ | refine G.cW (f2) ?_ | refine G.cgW (f2) ?_ | refine GD.cW (f2) ?_ | refine GD.cgW (f2) ?_ | refine GD.ctW (pg2) ?_ | refine G.cW (pg2) ?_ | refine G.cgW (pg2) ?_ | refine GD.cW (pg2) ?_ | refine GD.cgW (pg2) ?_ | refine GD.ctW (dmapping_F) ?_ | refine G.cW (dmapping_F) ?_ | refine G.cgW (dmapping_F) ?_ | refine GD.cW (dmapping_F) ?_ | refine GD.cgW (dmapping_F) ?_ | ((repeat (revert hK; revert K)); refine wkG ?_; repeat intro K hK) | refine wkg ?_))
          refine G.fin1 (by first | exact rvOk.tmp | exact rvOk.cellS | exact rvOk.cell1 | fail) rfl ?_
          simp
    · subst q2
      rw [if_neg (by decide)] at q1
      subst q1
      have hbe : (((-1 : Int) != (-1 : Int)) || ((-1 : Int) != (-1 : Int))) = false := by simp
      cases hcd : (decide (lo < 0) || decide (hi < lo) || decide (512 < hi)) with
      | true =>
        have hG := hbad hcd
        subst hG
        refine Fn.of Try.func4 Try.ntmps4 rfl (by kernel_rfl) (fun w o => ?_)
        (repeat (first | refine GD.ctW (hm) ?_ | refine G.cW (hm) ?_ | refine G.cgW (hm) ?_ | refine GD.cW (hm) ?_ | refine GD.cgW (hm) ?_ | ((repeat (revert hK; revert K)); refine wkG ?_; repeat intro K hK) | refine wkg ?_))
        rw [hn]
        (repeat (first | refine GD.ctW (f1) ?_ | refine G.cW (f1) ?_ | refine G.cgW (f1) ?_ | refine GD.cW (f1) ?_ | refine GD.cgW (f1) ?_ | refine GD.ctW (pl) ?_ | refine G.cW (pl) ?_ | refine G.cgW (pl) ?_ | refine GD.cW (pl) ?_ | refine GD.cgW (pl) ?_ | refine GD.ctW (pg) ?_ | refine G.cW (pg) ?_ | refine G.cgW (pg) ?_ | refine GD.cW (pg) ?_ | refine GD.cgW (pg) ?_ | refine GD.ctW (pg2) ?_ | refine G.cW (pg2) ?_ | refine G.cgW (pg2) ?_ | refine GD.cW (pg2) ?_ | refine GD.cgW (pg2) ?_ | refine GD.ctW (dmapping_F) ?_ | refine G.cW (dmapping_F) ?_ | refine G.cgW (dmapping_F) ?_ | refine GD.cW (dmapping_F) ?_ | refine GD.cgW (dmapping_F) ?_ | ((repeat (revert hK; revert K)); refine wkG ?_; repeat intro K hK) | refine wkg ?_))
        refine G.fin1 (by first | exact rvOk.tmp | exact rvOk.cellS | exact rvOk.cell1 | fail) rfl ?_
        simp
      | false =>
        obtain ⟨s1, s2⟩ := hlh hcd
        rcases s2 with s2 | s2
        · subst s2
          rw [if_pos rfl] at s1
          subst s1
          refine Fn.of Try.func4 Try.ntmps4 rfl (by kernel_rfl) (fun w o => ?_)
          (repeat (first | refine GD.ctW (hm) ?_ | refine G.cW (hm) ?_ | refine G.cgW (hm) ?_ | refine GD.cW (hm) ?_ | refine GD.cgW (hm) ?_ | ((repeat (revert hK; revert K)); refine wkG ?_; repeat intro K hK) | refine wkg ?_))
          rw [hn]
          (repeat (first | refine GD.ctW (f1) ?_ | refine G.cW (f1) ?_ | refine G.cgW (f1) ?_ | refine GD.cW (f1) ?_ | refine GD.cgW (f1) ?_ | refine GD.ctW (pl) ?_ | refine G.cW (pl) ?_ | refine G.cgW (pl) ?_ | refine GD.cW (pl) ?_ | refine GD.cgW (pl) ?_ | refine GD.ctW (pg) ?_ | refine G.cW (pg) ?_ | refine G.cgW (pg) ?_ | refine GD.cW (pg) ?_ | refine GD.cgW (pg) ?_ | refine GD.ctW (f2) ?_ | refine G.cW (f2) ?_ | refine G.cgW (f2) ?_ | refine GD.cW (f2) ?_ | refine GD.cgW (f2) ?_ | refine GD.ctW (pg2) ?_ | refine G.cW (pg2) ?_ | refine G.cgW (pg2) ?_ | refine GD.cW (pg2) ?_ | refine GD.cgW (pg2) ?_ | refine GD.ctW (dmapping_F) ?_ | refine G.cW (dmapping_F) ?_ | refine G.cgW (dmapping_F) ?_ | refine GD.cW (dmapping_F) ?_ | refine GD.cgW (dmapping_F) ?_ | ((repeat (revert hK; revert K)); refine wkG ?_; repeat intro K hK) | refine wkg ?_))
          refine G.fin1 (by first | exact rvOk.tmp | exact rvOk.cellS | exact rvOk.cell1 | fail) rfl ?_
          simp
        · subst s2
          rw [if_neg (by decide)] at s1
          subst s1
          refine Fn.of Try.func4 Try.ntmps4 rfl (by kernel_rfl) (fun w o => ?_)
          (repeat (first | refine GD.ctW (hm) ?_ | refine G.cW (hm) ?_ | refine G.cgW (hm) ?_ | refine GD.cW (hm) ?_ | refine GD.cgW (hm) ?_ | ((repeat (revert hK; revert K)); refine wkG ?_; repeat intro K hK) | refine wkg ?_))
          rw [hn]
          (repeat (first | refine GD.ctW (f1) ?_ | refine G.cW (f1) ?_ | refine G.cgW (f1) ?_ | refine GD.cW (f1) ?_ | refine GD.cgW (f1) ?_ | refine GD.ctW (pl) ?_ | refine G.cW (pl) ?_ | refine G.cgW (pl) ?_ | refine GD.cW (pl) ?_ | refine GD.cgW (pl) ?_ | refine GD.ctW (pg) ?_ | refine G.cW (pg) ?_ | refine G.cgW (pg) ?_ | refine GD.cW (pg) ?_ | refine GD.cgW (pg) ?_ | refine GD.ctW (f2) ?_ | refine G.cW (f2) ?_ | refine G.cgW (f2) ?_ | refine GD.cW (f2) ?_ | refine GD.cgW (f2) ?_ | refine GD.ctW (pg2) ?_ | refine G.cW (pg2) ?_ | refine G.cgW (pg2) ?_ | refine GD.cW (pg2) ?_ | refine GD.cgW (pg2) ?_ | refine GD.ctW (dmapping_F) ?_ | refine G.cW (dmapping_F) ?_ | refine G.cgW (dmapping_F) ?_ | refine GD.cW (dmapping_F) ?_ | refine GD.cgW (dmapping_F) ?_ | ((repeat (revert hK; revert K)); refine wkG ?_; repeat intro K hK) | refine wkg ?_))
          refine G.fin1 (by first | exact rvOk.tmp | exact rvOk.cellS | exact rvOk.cell1 | fail) rfl ?_
          simp

end Go.Proofs.Ytkdjbiekjgeafaa
