/- Layer 02: FirstGap. -/
import Derived.Test.YtlboakmiopnifaaIvy
set_option linter.unusedSimpArgs false
set_option linter.unusedVariables false
namespace Go.Proofs.Ytlboakmiopnifaa
open Go.RowKit

/-- Whether an interval has n ints, as the code asks. -/
def fitI (f t n : Int) : Bool := decide (IntKind.u64.wrap n ≤ IntKind.u64.wrap (IntKind.u64.wrap t - IntKind.u64.wrap f))
/-- The first of the free intervals that serves. -/
def firstG (n : Int) : List (Int × Int) → Int × Int
  | [] => (0, 6)
  | x :: l => if fitI x.1 x.2 n then (x.1, 0) else firstG n l
def fgI (s : List (Int × Int)) (lo hi n : Int) (L : List (Int × Int)) : Int × Int := if chkI s = 0 then (if hi < lo ∨ n < 1 then (0, 2) else firstG n L) else (0, chkI s)
theorem firstG_t {n : Int} {L : List (Int × Int)} {i : Nat} {x1 x2 : Int} (h : i < L.length) (hx : L[i] = (x1, x2)) (hf : fitI x1 x2 n = true) : firstG n (L.drop i) = (x1, 0) := by
  rw [List.drop_eq_getElem_cons h, hx, firstG, if_pos hf]
theorem firstG_f {n : Int} {L : List (Int × Int)} {i : Nat} {x1 x2 : Int} (h : i < L.length) (hx : L[i] = (x1, x2)) (hf : fitI x1 x2 n = false) : firstG n (L.drop i) = firstG n (L.drop (i + 1)) := by
  rw [List.drop_eq_getElem_cons h, hx, firstG, if_neg (by rw [hf]; decide)]
theorem firstG_e {n : Int} {L : List (Int × Int)} {i : Nat} (h : ¬ i < L.length) : firstG n (L.drop i) = (0, 6) := by
  rw [List.drop_eq_nil_of_le (by omega)]; rfl

set_option maxRecDepth 100000 in
set_option maxHeartbeats 4000000 in
theorem fg_any (s : List (Int × Int)) (lo hi n : Int) (v : Value) (w : World) (hv : isSl w v 2 s.length (ivF s)) (hl : s.length ≤ 200) :
    Calls Try.prog 24 #[v, .int .i64 lo, .int .i64 hi, .int .i64 n] w fun e w' => e = .returned (.tuple #[.int .i64 (fgI s lo hi n (cutI (oneI (lo, hi)) s)).1, .int .i64 (fgI s lo hi n (cutI (oneI (lo, hi)) s)).2]) ∧ Ext w w' := by
  have HV : Hid (isSl w v 2 s.length (ivF s)) := hv
  clear hv
  by_cases h0 : chkI s = 0
  · have e1 : (chkI s != 0) = false := by simp [h0]
    by_cases h1 : hi < lo ∨ n < 1
    · have HF : Hid (fgI s lo hi n (cutI (oneI (lo, hi)) s) = (0, 2)) := by show fgI _ _ _ _ _ = _; unfold fgI; rw [if_pos h0, if_pos h1]
      by_cases h2 : hi < lo
      · have e2 : decide (hi < lo) = true := by simpa using h2
        clear h0 h1 h2
        go_enter Try.func24, Try.ntmps24
        go_upto_region 9999 with (first | (go_at_call 13; refine (chk_any s v _ (HV.out.ext (by (exact Ext.of_below (by (repeat' (first | (with_reducible exact Below.refl _ _) | (with_reducible assumption) | (with_reducible refine Below.alloc ?_ ?_ _) | (with_reducible refine Below.wext ?_ ?_ _ _) | (with_reducible refine Below.drew ?_) | (with_reducible refine Below.setCell ?_ ?_ _) | (with_reducible exact Nat.le_refl _) | (with_reducible refine Below.drewN' ?_ _) | (simp; omega) | (simp; done)))))))).mono ?_; rintro e w1 ⟨rfl, os1, n1, rfl⟩))
        all_goals go_ret2
        all_goals (rw [HF.out]; exact ⟨rfl, by (exact Ext.of_below (by (repeat' (first | (with_reducible exact Below.refl _ _) | (with_reducible assumption) | (with_reducible refine Below.alloc ?_ ?_ _) | (with_reducible refine Below.wext ?_ ?_ _ _) | (with_reducible refine Below.drew ?_) | (with_reducible refine Below.setCell ?_ ?_ _) | (with_reducible exact Nat.le_refl _) | (with_reducible refine Below.drewN' ?_ _) | (simp; omega) | (simp; done)))))⟩)
      · have e2 : decide (hi < lo) = false := by simpa using h2
        have e3 : decide (n < 1) = true := by simp; omega
        clear h0 h1 h2
        go_enter Try.func24, Try.ntmps24
        go_upto_region 9999 with (first | (go_at_call 13; refine (chk_any s v _ (HV.out.ext (by (exact Ext.of_below (by (repeat' (first | (with_reducible exact Below.refl _ _) | (with_reducible assumption) | (with_reducible refine Below.alloc ?_ ?_ _) | (with_reducible refine Below.wext ?_ ?_ _ _) | (with_reducible refine Below.drew ?_) | (with_reducible refine Below.setCell ?_ ?_ _) | (with_reducible exact Nat.le_refl _) | (with_reducible refine Below.drewN' ?_ _) | (simp; omega) | (simp; done)))))))).mono ?_; rintro e w1 ⟨rfl, os1, n1, rfl⟩))
        all_goals go_ret2
        all_goals (rw [HF.out]; exact ⟨rfl, by (exact Ext.of_below (by (repeat' (first | (with_reducible exact Below.refl _ _) | (with_reducible assumption) | (with_reducible refine Below.alloc ?_ ?_ _) | (with_reducible refine Below.wext ?_ ?_ _ _) | (with_reducible refine Below.drew ?_) | (with_reducible refine Below.setCell ?_ ?_ _) | (with_reducible exact Nat.le_refl _) | (with_reducible refine Below.drewN' ?_ _) | (simp; omega) | (simp; done)))))⟩)
    · obtain ⟨L, hL⟩ : ∃ L, cutI (oneI (lo, hi)) s = L := ⟨_, rfl⟩
      have HF : Hid (fgI s lo hi n (cutI (oneI (lo, hi)) s) = firstG n L) := by show fgI _ _ _ _ _ = _; unfold fgI; rw [if_pos h0, if_neg h1, hL]
      have HLL : Hid (cutI (oneI (lo, hi)) s = L) := hL
      have e2 : decide (hi < lo) = false := by simp; omega
      have e3 : decide (n < 1) = false := by simp; omega
      clear h0 h1 hL
      go_enter Try.func24, Try.ntmps24
      go_upto_region 7 with (first | (go_at_call 13; refine (chk_any s v _ (HV.out.ext (by (exact Ext.of_below (by (repeat' (first | (with_reducible exact Below.refl _ _) | (with_reducible assumption) | (with_reducible refine Below.alloc ?_ ?_ _) | (with_reducible refine Below.wext ?_ ?_ _ _) | (with_reducible refine Below.drew ?_) | (with_reducible refine Below.setCell ?_ ?_ _) | (with_reducible exact Nat.le_refl _) | (with_reducible refine Below.drewN' ?_ _) | (simp; omega) | (simp; done)))))))).mono ?_; rintro e w1 ⟨rfl, os1, n1, rfl⟩) | (go_at_call 40; refine (one_any lo hi _).mono ?_; rintro e w1 ⟨v1, rfl, hsl1, os2, n2, rfl⟩; replace hsl1 : Hid _ := hsl1) | (go_at_call 41; refine (cut_any (oneI (lo, hi)) s v1 v _ (isSl.ext hsl1.out (by (exact Ext.of_below (by (repeat' (first | (with_reducible exact Below.refl _ _) | (with_reducible assumption) | (with_reducible refine Below.alloc ?_ ?_ _) | (with_reducible refine Below.wext ?_ ?_ _ _) | (with_reducible refine Below.drew ?_) | (with_reducible refine Below.setCell ?_ ?_ _) | (with_reducible exact Nat.le_refl _) | (with_reducible refine Below.drewN' ?_ _) | (simp; omega) | (simp; done))))))) (HV.out.ext (by (exact Ext.of_below (by (repeat' (first | (with_reducible exact Below.refl _ _) | (with_reducible assumption) | (with_reducible refine Below.alloc ?_ ?_ _) | (with_reducible refine Below.wext ?_ ?_ _ _) | (with_reducible refine Below.drew ?_) | (with_reducible refine Below.setCell ?_ ?_ _) | (with_reducible exact Nat.le_refl _) | (with_reducible refine Below.drewN' ?_ _) | (simp; omega) | (simp; done))))))) (Nat.le_trans (oneI_le _) (by decide)) hl).mono ?_; intro e w1 hpp; obtain ⟨r1, hr, hown, hbel⟩ := hpp; subst hr; dsimp only; have HR1 : Hid (isSl w1 r1 2 L.length (ivF L)) := HLL.out ▸ isSl_of_own hown; have HB1 : Hid (Ext w w1) := Ext.trans (by (exact Ext.of_below (by (repeat' (first | (with_reducible exact Below.refl _ _) | (with_reducible assumption) | (with_reducible refine Below.alloc ?_ ?_ _) | (with_reducible refine Below.wext ?_ ?_ _ _) | (with_reducible refine Below.drew ?_) | (with_reducible refine Below.setCell ?_ ?_ _) | (with_reducible exact Nat.le_refl _) | (with_reducible refine Below.drewN' ?_ _) | (simp; omega) | (simp; done)))))) (Ext.of_below hbel); clear hown hbel hsl1; obtain ⟨pr, cr, hrr⟩ := sl_form HR1.out; subst hrr))
      have hLm := sl_max HR1.out
      unfold maxLen at hLm
      go_loopw [32] (fun vi wr => ∃ i : Nat, vi = .int .i64 i ∧ i ≤ L.length ∧ firstG n L = firstG n (L.drop i) ∧ Ext w1 wr) (fun vi _ => L.length - (intOf vi).toNat)
      case atStart => exact ⟨0, rfl, by omega, rfl, by (exact Ext.of_below (by (repeat' (first | (with_reducible exact Below.refl _ _) | (with_reducible assumption) | (with_reducible refine Below.alloc ?_ ?_ _) | (with_reducible refine Below.wext ?_ ?_ _ _) | (with_reducible refine Below.drew ?_) | (with_reducible refine Below.setCell ?_ ?_ _) | (with_reducible exact Nat.le_refl _) | (with_reducible refine Below.drewN' ?_ _) | (simp; omega) | (simp; done)))))⟩
      case round =>
        obtain ⟨i, rfl, hi2, hE, hX⟩ := hrel
        have HE : Hid (firstG n L = firstG n (L.drop i)) := hE
        have HX1 : Hid (Ext w1 wr) := hX
        clear hE hX
        by_cases hlt : i < L.length
        · obtain ⟨b, o, c', hv', g1, g2, g3, g4⟩ := HR1.out.cell (by omega)
          obtain ⟨rfl, rfl⟩ : pr = some ⟨b, o, none⟩ ∧ cr = c' := by cases hv'; exact ⟨rfl, rfl⟩
          obtain ⟨a0, a1⟩ := iv_cells g4 i hlt
          obtain ⟨x1, hx1⟩ : ∃ x1, x1 = L[i].1 := ⟨_, rfl⟩
          obtain ⟨x2, hx2⟩ : ∃ x2, x2 = L[i].2 := ⟨_, rfl⟩
          rw [← hx1] at a0
          rw [← hx2] at a1
          have HX : Hid (L[i] = (x1, x2)) := by show L[i] = (x1, x2); rw [hx1, hx2]
          clear hx1 hx2
          have zb : LtD b wr.heap.size := Nat.lt_of_lt_of_le g3 HX1.out.below.size
          have k0 : wr.cell? ⟨b, o + i * 2, none⟩ = some (.int .i64 x1) := (HX1.out.below.cell (p := ⟨b, o + i * 2, none⟩) g3).trans a0
          have k1 : wr.cell? ⟨b, o + i * 2 + 1, none⟩ = some (.int .i64 x2) := (HX1.out.below.cell (p := ⟨b, o + i * 2 + 1, none⟩) g3).trans a1
          clear hv' g1 g2 g3 g4 a0 a1
          cases hf : fitI x1 x2 n with
          | true =>
            have HT := firstG_t hlt HX.out hf
            replace HT : Hid _ := HT
            unfold fitI at hf
            go_wp2_with fail
            all_goals go_ret2
            all_goals (rw [HF.out, HE.out, HT.out]; exact ⟨rfl, HB1.out.trans (HX1.out.trans (by (exact Ext.of_below (by (repeat' (first | (with_reducible exact Below.refl _ _) | (with_reducible assumption) | (with_reducible refine Below.alloc ?_ ?_ _) | (with_reducible refine Below.wext ?_ ?_ _ _) | (with_reducible refine Below.drew ?_) | (with_reducible refine Below.setCell ?_ ?_ _) | (with_reducible exact Nat.le_refl _) | (with_reducible refine Below.drewN' ?_ _) | (simp; omega) | (simp; done)))))))⟩)
          | false =>
            have HT := firstG_f hlt HX.out hf
            replace HT : Hid _ := HT
            unfold fitI at hf
            go_wp2_with fail
            go_roundw
            case rel => exact ⟨i + 1, by go_num, by omega, HE.out.trans HT.out, HX1.out.trans (by (exact Ext.of_below (by (repeat' (first | (with_reducible exact Below.refl _ _) | (with_reducible assumption) | (with_reducible refine Below.alloc ?_ ?_ _) | (with_reducible refine Below.wext ?_ ?_ _ _) | (with_reducible refine Below.drew ?_) | (with_reducible refine Below.setCell ?_ ?_ _) | (with_reducible exact Nat.le_refl _) | (with_reducible refine Below.drewN' ?_ _) | (simp; omega) | (simp; done))))))⟩
            case measure => simp [intOf]; omega
        · have HT := firstG_e (n := n) hlt
          replace HT : Hid _ := HT
          go_wp2_with fail
          all_goals go_ret2
          all_goals (rw [HF.out, HE.out, HT.out]; exact ⟨rfl, HB1.out.trans (HX1.out.trans (by (exact Ext.of_below (by (repeat' (first | (with_reducible exact Below.refl _ _) | (with_reducible assumption) | (with_reducible refine Below.alloc ?_ ?_ _) | (with_reducible refine Below.wext ?_ ?_ _ _) | (with_reducible refine Below.drew ?_) | (with_reducible refine Below.setCell ?_ ?_ _) | (with_reducible exact Nat.le_refl _) | (with_reducible refine Below.drewN' ?_ _) | (simp; omega) | (simp; done)))))))⟩)
  · have e1 : (chkI s != 0) = true := by simp [h0]
    have HF : Hid (fgI s lo hi n (cutI (oneI (lo, hi)) s) = (0, chkI s)) := by show fgI _ _ _ _ _ = _; unfold fgI; rw [if_neg h0]
    clear h0
    go_enter Try.func24, Try.ntmps24
    go_upto_region 9999 with (first | (go_at_call 13; refine (chk_any s v _ (HV.out.ext (by (exact Ext.of_below (by (repeat' (first | (with_reducible exact Below.refl _ _) | (with_reducible assumption) | (with_reducible refine Below.alloc ?_ ?_ _) | (with_reducible refine Below.wext ?_ ?_ _ _) | (with_reducible refine Below.drew ?_) | (with_reducible refine Below.setCell ?_ ?_ _) | (with_reducible exact Nat.le_refl _) | (with_reducible refine Below.drewN' ?_ _) | (simp; omega) | (simp; done)))))))).mono ?_; rintro e w1 ⟨rfl, os1, n1, rfl⟩))
    all_goals go_ret2
    all_goals (rw [HF.out]; exact ⟨rfl, by (exact Ext.of_below (by (repeat' (first | (with_reducible exact Below.refl _ _) | (with_reducible assumption) | (with_reducible refine Below.alloc ?_ ?_ _) | (with_reducible refine Below.wext ?_ ?_ _ _) | (with_reducible refine Below.drew ?_) | (with_reducible refine Below.setCell ?_ ?_ _) | (with_reducible exact Nat.le_refl _) | (with_reducible refine Below.drewN' ?_ _) | (simp; omega) | (simp; done)))))⟩)

end Go.Proofs.Ytlboakmiopnifaa
