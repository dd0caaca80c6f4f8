/- Layer 02: the reference's Fits, FirstGap. -/
import Derived.Test.YtlboakmiopnifaaIvz
set_option linter.unusedSimpArgs false
set_option linter.unusedVariables false
namespace Go.Proofs.Ytlboakmiopnifaa
open Go.RowKit

set_option maxHeartbeats 4000000 in
theorem fits_any (f t n : Int) (w : World) :
    Calls Try.prog 44 #[.agg #[.int .i64 f, .int .i64 t], .int .i64 n] w fun e w' => e = .returned (.bool (fitI f t n)) ∧ Ext w w' := by
  go_enter Try.func44, Try.ntmps44
  go_wp2_with fail
  all_goals go_ret
  all_goals exact ⟨rfl, by (exact Ext.of_below (by (repeat' (first | (with_reducible exact Below.refl _ _) | (with_reducible assumption) | (with_reducible refine Below.alloc ?_ ?_ _) | (with_reducible refine Below.wext ?_ ?_ _ _) | (with_reducible refine Below.drew ?_) | (with_reducible refine Below.setCell ?_ ?_ _) | (with_reducible exact Nat.le_refl _) | (with_reducible refine Below.drewN' ?_ _) | (simp; omega) | (simp; done)))))⟩

set_option maxRecDepth 100000 in
set_option maxHeartbeats 4000000 in
theorem rfg_any (s : List (Int × Int)) (lo hi n : Int) (v : Value) (w : World) (hv : isSl w v 2 s.length (ivF s)) (hl : s.length ≤ 200) :
    Calls Try.prog 25 #[v, .int .i64 lo, .int .i64 hi, .int .i64 n] w fun e w' => e = .returned (.tuple #[.int .i64 (fgI s lo hi n (combI (oneI (lo, hi)) s 2)).1, .int .i64 (fgI s lo hi n (combI (oneI (lo, hi)) s 2)).2]) ∧ Ext w w' := by
  have HV : Hid (isSl w v 2 s.length (ivF s)) := hv
  clear hv
  by_cases h0 : chkI s = 0
  · by_cases h1 : hi < lo
    · have HF : Hid (fgI s lo hi n (combI (oneI (lo, hi)) s 2) = (0, 2)) := by show fgI _ _ _ _ _ = _; unfold fgI; rw [if_pos h0, if_pos (Or.inl h1)]
      have HER : Hid (errI s lo hi = 2) := errI_2 h0 h1
      clear h0 h1
      go_enter Try.func25, Try.ntmps25
      go_upto_region 9999 with (first | (go_at_call 23; refine (rgaps_any s lo hi v _ (HV.out.ext (by (exact Ext.of_below (by (repeat' (first | (with_reducible exact Below.refl _ _) | (with_reducible assumption) | (with_reducible refine Below.alloc ?_ ?_ _) | (with_reducible refine Below.wext ?_ ?_ _ _) | (with_reducible refine Below.drew ?_) | (with_reducible refine Below.setCell ?_ ?_ _) | (with_reducible exact Nat.le_refl _) | (with_reducible refine Below.drewN' ?_ _) | (simp; omega) | (simp; done))))))) hl).mono ?_; intro e w1 hpp; obtain ⟨r1, hr, hown, hbel⟩ := hpp; subst hr; rw [HER.out] at hown; simp only [HER.out]; have HB1 : Hid (Ext w w1) := Ext.trans (by (exact Ext.of_below (by (repeat' (first | (with_reducible exact Below.refl _ _) | (with_reducible assumption) | (with_reducible refine Below.alloc ?_ ?_ _) | (with_reducible refine Below.wext ?_ ?_ _ _) | (with_reducible refine Below.drew ?_) | (with_reducible refine Below.setCell ?_ ?_ _) | (with_reducible exact Nat.le_refl _) | (with_reducible refine Below.drewN' ?_ _) | (simp; omega) | (simp; done)))))) (Ext.of_below hbel); clear hown hbel))
      all_goals go_ret2
      all_goals (rw [HF.out]; exact ⟨rfl, HB1.out.trans (by (exact Ext.of_below (by (repeat' (first | (with_reducible exact Below.refl _ _) | (with_reducible assumption) | (with_reducible refine Below.alloc ?_ ?_ _) | (with_reducible refine Below.wext ?_ ?_ _ _) | (with_reducible refine Below.drew ?_) | (with_reducible refine Below.setCell ?_ ?_ _) | (with_reducible exact Nat.le_refl _) | (with_reducible refine Below.drewN' ?_ _) | (simp; omega) | (simp; done))))))⟩)
    · have HER : Hid (errI s lo hi = 0) := errI_0 h0 h1
      obtain ⟨L, hL⟩ : ∃ L, combI (oneI (lo, hi)) s 2 = L := ⟨_, rfl⟩
      have HLL : Hid (combI (oneI (lo, hi)) s 2 = L) := hL
      by_cases h2 : n < 1
      · have HF : Hid (fgI s lo hi n (combI (oneI (lo, hi)) s 2) = (0, 2)) := by show fgI _ _ _ _ _ = _; unfold fgI; rw [if_pos h0, if_pos (Or.inr h2)]
        have e2 : decide (n < 1) = true := by simpa using h2
        clear h0 h1 h2 hL
        go_enter Try.func25, Try.ntmps25
        go_upto_region 9999 with (first | (go_at_call 23; refine (rgaps_any s lo hi v _ (HV.out.ext (by (exact Ext.of_below (by (repeat' (first | (with_reducible exact Below.refl _ _) | (with_reducible assumption) | (with_reducible refine Below.alloc ?_ ?_ _) | (with_reducible refine Below.wext ?_ ?_ _ _) | (with_reducible refine Below.drew ?_) | (with_reducible refine Below.setCell ?_ ?_ _) | (with_reducible exact Nat.le_refl _) | (with_reducible refine Below.drewN' ?_ _) | (simp; omega) | (simp; done))))))) hl).mono ?_; intro e w1 hpp; obtain ⟨r1, hr, hown, hbel⟩ := hpp; subst hr; rw [HER.out] at hown; simp only [HER.out]; have HB1 : Hid (Ext w w1) := Ext.trans (by (exact Ext.of_below (by (repeat' (first | (with_reducible exact Below.refl _ _) | (with_reducible assumption) | (with_reducible refine Below.alloc ?_ ?_ _) | (with_reducible refine Below.wext ?_ ?_ _ _) | (with_reducible refine Below.drew ?_) | (with_reducible refine Below.setCell ?_ ?_ _) | (with_reducible exact Nat.le_refl _) | (with_reducible refine Below.drewN' ?_ _) | (simp; omega) | (simp; done)))))) (Ext.of_below hbel); have HR1 : Hid (isSl w1 r1 2 L.length (ivF L)) := (by have h := isSl_of_own hown; rw [if_pos rfl, HLL.out] at h; exact h); obtain ⟨pr, cr, hrr⟩ := sl_form HR1.out; subst hrr; clear hown hbel))
        all_goals go_ret2
        all_goals (rw [HF.out]; exact ⟨rfl, HB1.out.trans (by (exact Ext.of_below (by (repeat' (first | (with_reducible exact Below.refl _ _) | (with_reducible assumption) | (with_reducible refine Below.alloc ?_ ?_ _) | (with_reducible refine Below.wext ?_ ?_ _ _) | (with_reducible refine Below.drew ?_) | (with_reducible refine Below.setCell ?_ ?_ _) | (with_reducible exact Nat.le_refl _) | (with_reducible refine Below.drewN' ?_ _) | (simp; omega) | (simp; done))))))⟩)
      · have HF : Hid (fgI s lo hi n (combI (oneI (lo, hi)) s 2) = firstG n L) := by show fgI _ _ _ _ _ = _; unfold fgI; rw [if_pos h0, if_neg (by omega), hL]
        have e2 : decide (n < 1) = false := by simpa using h2
        clear h0 h1 h2 hL
        go_enter Try.func25, Try.ntmps25
        go_upto_region 7 with (first | (go_at_call 23; refine (rgaps_any s lo hi v _ (HV.out.ext (by (exact Ext.of_below (by (repeat' (first | (with_reducible exact Below.refl _ _) | (with_reducible assumption) | (with_reducible refine Below.alloc ?_ ?_ _) | (with_reducible refine Below.wext ?_ ?_ _ _) | (with_reducible refine Below.drew ?_) | (with_reducible refine Below.setCell ?_ ?_ _) | (with_reducible exact Nat.le_refl _) | (with_reducible refine Below.drewN' ?_ _) | (simp; omega) | (simp; done))))))) hl).mono ?_; intro e w1 hpp; obtain ⟨r1, hr, hown, hbel⟩ := hpp; subst hr; rw [HER.out] at hown; simp only [HER.out]; have HB1 : Hid (Ext w w1) := Ext.trans (by (exact Ext.of_below (by (repeat' (first | (with_reducible exact Below.refl _ _) | (with_reducible assumption) | (with_reducible refine Below.alloc ?_ ?_ _) | (with_reducible refine Below.wext ?_ ?_ _ _) | (with_reducible refine Below.drew ?_) | (with_reducible refine Below.setCell ?_ ?_ _) | (with_reducible exact Nat.le_refl _) | (with_reducible refine Below.drewN' ?_ _) | (simp; omega) | (simp; done)))))) (Ext.of_below hbel); have HR1 : Hid (isSl w1 r1 2 L.length (ivF L)) := (by have h := isSl_of_own hown; rw [if_pos rfl, HLL.out] at h; exact h); obtain ⟨pr, cr, hrr⟩ := sl_form HR1.out; subst hrr; clear hown hbel))
        have hLm := sl_max HR1.out
        unfold maxLen at hLm
        go_loopw [12] (fun vi wr => ∃ i : Nat, vi = .int .i64 i ∧ i ≤ L.length ∧ firstG n L = firstG n (L.drop i) ∧ Ext w1 wr) (fun vi _ => L.length - (intOf vi).toNat)
        case atStart => exact ⟨0, rfl, by omega, rfl, by (exact Ext.of_below (by (repeat' (first | (with_reducible exact Below.refl _ _) | (with_reducible assumption) | (with_reducible refine Below.alloc ?_ ?_ _) | (with_reducible refine Below.wext ?_ ?_ _ _) | (with_reducible refine Below.drew ?_) | (with_reducible refine Below.setCell ?_ ?_ _) | (with_reducible exact Nat.le_refl _) | (with_reducible refine Below.drewN' ?_ _) | (simp; omega) | (simp; done)))))⟩
        case round =>
          obtain ⟨i, rfl, hi2, hE, hX⟩ := hrel
          have HE : Hid (firstG n L = firstG n (L.drop i)) := hE
          have HX1 : Hid (Ext w1 wr) := hX
          clear hE hX
          by_cases hlt : i < L.length
          · obtain ⟨b, o, c', hv', g1, g2, g3, g4⟩ := HR1.out.cell (by omega)
            obtain ⟨rfl, rfl⟩ : pr = some ⟨b, o, none⟩ ∧ cr = c' := by cases hv'; exact ⟨rfl, rfl⟩
            obtain ⟨a0, a1⟩ := iv_cells g4 i hlt
            obtain ⟨x1, hx1⟩ : ∃ x1, x1 = L[i].1 := ⟨_, rfl⟩
            obtain ⟨x2, hx2⟩ : ∃ x2, x2 = L[i].2 := ⟨_, rfl⟩
            rw [← hx1] at a0
            rw [← hx2] at a1
            have HX : Hid (L[i] = (x1, x2)) := by show L[i] = (x1, x2); rw [hx1, hx2]
            clear hx1 hx2
            have zb : LtD b wr.heap.size := Nat.lt_of_lt_of_le g3 HX1.out.below.size
            have k0 : wr.cell? ⟨b, o + i * 2, none⟩ = some (.int .i64 x1) := (HX1.out.below.cell (p := ⟨b, o + i * 2, none⟩) g3).trans a0
            have k1 : wr.cell? ⟨b, o + i * 2 + 1, none⟩ = some (.int .i64 x2) := (HX1.out.below.cell (p := ⟨b, o + i * 2 + 1, none⟩) g3).trans a1
            clear hv' g1 g2 g3 g4 a0 a1
            cases hf : fitI x1 x2 n with
            | true =>
              have HT := firstG_t hlt HX.out hf
              replace HT : Hid _ := HT
              go_wp2_with (first | (go_at_call 44; refine (fits_any x1 x2 n _).mono ?_; rintro e w2 ⟨rfl, os2, n2, rfl⟩))
              all_goals go_ret2
              all_goals (rw [HF.out, HE.out, HT.out]; exact ⟨rfl, HB1.out.trans (HX1.out.trans (by (exact Ext.of_below (by (repeat' (first | (with_reducible exact Below.refl _ _) | (with_reducible assumption) | (with_reducible refine Below.alloc ?_ ?_ _) | (with_reducible refine Below.wext ?_ ?_ _ _) | (with_reducible refine Below.drew ?_) | (with_reducible refine Below.setCell ?_ ?_ _) | (with_reducible exact Nat.le_refl _) | (with_reducible refine Below.drewN' ?_ _) | (simp; omega) | (simp; done)))))))⟩)
            | false =>
              have HT := firstG_f hlt HX.out hf
              replace HT : Hid _ := HT
              go_wp2_with (first | (go_at_call 44; refine (fits_any x1 x2 n _).mono ?_; rintro e w2 ⟨rfl, os2, n2, rfl⟩))
              go_roundw
              case rel => exact ⟨i + 1, by go_num, by omega, HE.out.trans HT.out, HX1.out.trans (by (exact Ext.of_below (by (repeat' (first | (with_reducible exact Below.refl _ _) | (with_reducible assumption) | (with_reducible refine Below.alloc ?_ ?_ _) | (with_reducible refine Below.wext ?_ ?_ _ _) | (with_reducible refine Below.drew ?_) | (with_reducible refine Below.setCell ?_ ?_ _) | (with_reducible exact Nat.le_refl _) | (with_reducible refine Below.drewN' ?_ _) | (simp; omega) | (simp; done))))))⟩
              case measure => simp [intOf]; omega
          · have HT := firstG_e (n := n) hlt
            replace HT : Hid _ := HT
            go_wp2_with fail
            all_goals go_ret2
            all_goals (rw [HF.out, HE.out, HT.out]; exact ⟨rfl, HB1.out.trans (HX1.out.trans (by (exact Ext.of_below (by (repeat' (first | (with_reducible exact Below.refl _ _) | (with_reducible assumption) | (with_reducible refine Below.alloc ?_ ?_ _) | (with_reducible refine Below.wext ?_ ?_ _ _) | (with_reducible refine Below.drew ?_) | (with_reducible refine Below.setCell ?_ ?_ _) | (with_reducible exact Nat.le_refl _) | (with_reducible refine Below.drewN' ?_ _) | (simp; omega) | (simp; done)))))))⟩)
  · have e1 : (chkI s != 0) = true := by simp [h0]
    have HF : Hid (fgI s lo hi n (combI (oneI (lo, hi)) s 2) = (0, chkI s)) := by show fgI _ _ _ _ _ = _; unfold fgI; rw [if_neg h0]
    have HER : Hid (errI s lo hi = chkI s) := errI_c h0
    clear h0
    go_enter Try.func25, Try.ntmps25
    go_upto_region 9999 with (first | (go_at_call 23; refine (rgaps_any s lo hi v _ (HV.out.ext (by (exact Ext.of_below (by (repeat' (first | (with_reducible exact Below.refl _ _) | (with_reducible assumption) | (with_reducible refine Below.alloc ?_ ?_ _) | (with_reducible refine Below.wext ?_ ?_ _ _) | (with_reducible refine Below.drew ?_) | (with_reducible refine Below.setCell ?_ ?_ _) | (with_reducible exact Nat.le_refl _) | (with_reducible refine Below.drewN' ?_ _) | (simp; omega) | (simp; done))))))) hl).mono ?_; intro e w1 hpp; obtain ⟨r1, hr, hown, hbel⟩ := hpp; subst hr; rw [HER.out] at hown; simp only [HER.out]; have HB1 : Hid (Ext w w1) := Ext.trans (by (exact Ext.of_below (by (repeat' (first | (with_reducible exact Below.refl _ _) | (with_reducible assumption) | (with_reducible refine Below.alloc ?_ ?_ _) | (with_reducible refine Below.wext ?_ ?_ _ _) | (with_reducible refine Below.drew ?_) | (with_reducible refine Below.setCell ?_ ?_ _) | (with_reducible exact Nat.le_refl _) | (with_reducible refine Below.drewN' ?_ _) | (simp; omega) | (simp; done)))))) (Ext.of_below hbel); clear hown hbel))
    all_goals go_ret2
    all_goals (rw [HF.out]; exact ⟨rfl, HB1.out.trans (by (exact Ext.of_below (by (repeat' (first | (with_reducible exact Below.refl _ _) | (with_reducible assumption) | (with_reducible refine Below.alloc ?_ ?_ _) | (with_reducible refine Below.wext ?_ ?_ _ _) | (with_reducible refine Below.drew ?_) | (with_reducible refine Below.setCell ?_ ?_ _) | (with_reducible exact Nat.le_refl _) | (with_reducible refine Below.drewN' ?_ _) | (simp; omega) | (simp; done))))))⟩)

end Go.Proofs.Ytlboakmiopnifaa
