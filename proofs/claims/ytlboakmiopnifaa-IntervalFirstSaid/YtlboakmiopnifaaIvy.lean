/- Layer 02: the reference's two, one, and what stands on them. -/
import Derived.Test.YtlboakmiopnifaaIvx
set_option linter.unusedSimpArgs false
set_option linter.unusedVariables false
namespace Go.Proofs.Ytlboakmiopnifaa
open Go.RowKit

theorem both_a {a b : List (Int × Int)} (h : chkI a ≠ 0) : bothI a b = chkI a := by unfold bothI; rw [if_neg h]
theorem both_b {a b : List (Int × Int)} (h : chkI a = 0) : bothI a b = chkI b := by unfold bothI; rw [if_pos h]
theorem one_lt {f t : Int} (h : f < t) : oneI (f, t) = [(f, t)] := by unfold oneI; rw [if_neg (by simp; omega)]
theorem one_ge {f t : Int} (h : ¬ f < t) (h2 : ¬ t < f) : oneI (f, t) = [] := by unfold oneI; rw [if_pos (by simp; omega)]

set_option maxHeartbeats 4000000 in
theorem two_any (a b : List (Int × Int)) (op : Int) (v u : Value) (w : World) (hv : isSl w v 2 a.length (ivF a)) (hu : isSl w u 2 b.length (ivF b)) (hla : a.length ≤ 200) (hlb : b.length ≤ 200) :
    Calls Try.prog 47 #[v, u, .int .i64 op] w (resP w.heap.size (if bothI a b = 0 then combI a b op else []) (bothI a b) w) := by
  have HV : Hid (isSl w v 2 a.length (ivF a)) := hv
  have HU : Hid (isSl w u 2 b.length (ivF b)) := hu
  clear hv hu
  by_cases h0 : chkI a = 0
  · have e1 : (chkI a != 0) = false := by simp [h0]
    rw [both_b h0]
    by_cases h1 : chkI b = 0
    · have e2 : (chkI b != 0) = false := by simp [h1]
      rw [h1, if_pos rfl]
      clear h0 h1
      go_enter Try.func47, Try.ntmps47
      go_upto_region 4 with (first | (go_at_call_of 14 v; refine (rchk_any a v _ (HV.out.ext (by (exact Ext.of_below (by (repeat' (first | (with_reducible exact Below.refl _ _) | (with_reducible assumption) | (with_reducible refine Below.alloc ?_ ?_ _) | (with_reducible refine Below.wext ?_ ?_ _ _) | (with_reducible refine Below.drew ?_) | (with_reducible refine Below.setCell ?_ ?_ _) | (with_reducible exact Nat.le_refl _) | (with_reducible refine Below.drewN' ?_ _) | (simp; omega) | (simp; done)))))))).mono ?_; rintro e w1 ⟨rfl, os1, n1, rfl⟩))
      go_upto_region 9999 with (first | (go_at_call_of 14 u; refine (rchk_any b u _ (HU.out.ext (by (exact Ext.of_below (by (repeat' (first | (with_reducible exact Below.refl _ _) | (with_reducible assumption) | (with_reducible refine Below.alloc ?_ ?_ _) | (with_reducible refine Below.wext ?_ ?_ _ _) | (with_reducible refine Below.drew ?_) | (with_reducible refine Below.setCell ?_ ?_ _) | (with_reducible exact Nat.le_refl _) | (with_reducible refine Below.drewN' ?_ _) | (simp; omega) | (simp; done)))))))).mono ?_; rintro e w1 ⟨rfl, os2, n2, rfl⟩) | (go_at_call 43; refine (comb_any a b op v u _ (HV.out.ext (by (exact Ext.of_below (by (repeat' (first | (with_reducible exact Below.refl _ _) | (with_reducible assumption) | (with_reducible refine Below.alloc ?_ ?_ _) | (with_reducible refine Below.wext ?_ ?_ _ _) | (with_reducible refine Below.drew ?_) | (with_reducible refine Below.setCell ?_ ?_ _) | (with_reducible exact Nat.le_refl _) | (with_reducible refine Below.drewN' ?_ _) | (simp; omega) | (simp; done))))))) (HU.out.ext (by (exact Ext.of_below (by (repeat' (first | (with_reducible exact Below.refl _ _) | (with_reducible assumption) | (with_reducible refine Below.alloc ?_ ?_ _) | (with_reducible refine Below.wext ?_ ?_ _ _) | (with_reducible refine Below.drew ?_) | (with_reducible refine Below.setCell ?_ ?_ _) | (with_reducible exact Nat.le_refl _) | (with_reducible refine Below.drewN' ?_ _) | (simp; omega) | (simp; done))))))) hla hlb).mono ?_; rintro e w1 ⟨r1, rfl, hown, hbel⟩; obtain ⟨os3, n3, rfl⟩ := Ext.of_below hbel; replace hown : Hid _ := hown; clear hbel))
      all_goals go_ret2
      all_goals exact resP_own (own_ext hown.out (by (exact Ext.of_below (by (repeat' (first | (with_reducible exact Below.refl _ _) | (with_reducible assumption) | (with_reducible refine Below.alloc ?_ ?_ _) | (with_reducible refine Below.wext ?_ ?_ _ _) | (with_reducible refine Below.drew ?_) | (with_reducible refine Below.setCell ?_ ?_ _) | (with_reducible exact Nat.le_refl _) | (with_reducible refine Below.drewN' ?_ _) | (simp; omega) | (simp; done))))))) (by first | (simp; done) | (simp; omega)) (by (exact Ext.of_below (by (repeat' (first | (with_reducible exact Below.refl _ _) | (with_reducible assumption) | (with_reducible refine Below.alloc ?_ ?_ _) | (with_reducible refine Below.wext ?_ ?_ _ _) | (with_reducible refine Below.drew ?_) | (with_reducible refine Below.setCell ?_ ?_ _) | (with_reducible exact Nat.le_refl _) | (with_reducible refine Below.drewN' ?_ _) | (simp; omega) | (simp; done))))))
    · have e2 : (chkI b != 0) = true := by simp [h1]
      rw [if_neg h1]
      clear h0 h1
      go_enter Try.func47, Try.ntmps47
      go_upto_region 4 with (first | (go_at_call_of 14 v; refine (rchk_any a v _ (HV.out.ext (by (exact Ext.of_below (by (repeat' (first | (with_reducible exact Below.refl _ _) | (with_reducible assumption) | (with_reducible refine Below.alloc ?_ ?_ _) | (with_reducible refine Below.wext ?_ ?_ _ _) | (with_reducible refine Below.drew ?_) | (with_reducible refine Below.setCell ?_ ?_ _) | (with_reducible exact Nat.le_refl _) | (with_reducible refine Below.drewN' ?_ _) | (simp; omega) | (simp; done)))))))).mono ?_; rintro e w1 ⟨rfl, os1, n1, rfl⟩))
      go_upto_region 9999 with (first | (go_at_call_of 14 u; refine (rchk_any b u _ (HU.out.ext (by (exact Ext.of_below (by (repeat' (first | (with_reducible exact Below.refl _ _) | (with_reducible assumption) | (with_reducible refine Below.alloc ?_ ?_ _) | (with_reducible refine Below.wext ?_ ?_ _ _) | (with_reducible refine Below.drew ?_) | (with_reducible refine Below.setCell ?_ ?_ _) | (with_reducible exact Nat.le_refl _) | (with_reducible refine Below.drewN' ?_ _) | (simp; omega) | (simp; done)))))))).mono ?_; rintro e w1 ⟨rfl, os2, n2, rfl⟩))
      all_goals go_ret2
      all_goals exact resP_nil (by (exact Ext.of_below (by (repeat' (first | (with_reducible exact Below.refl _ _) | (with_reducible assumption) | (with_reducible refine Below.alloc ?_ ?_ _) | (with_reducible refine Below.wext ?_ ?_ _ _) | (with_reducible refine Below.drew ?_) | (with_reducible refine Below.setCell ?_ ?_ _) | (with_reducible exact Nat.le_refl _) | (with_reducible refine Below.drewN' ?_ _) | (simp; omega) | (simp; done))))))
  · have e1 : (chkI a != 0) = true := by simp [h0]
    rw [both_a h0, if_neg h0]
    clear h0
    go_enter Try.func47, Try.ntmps47
    go_upto_region 9999 with (first | (go_at_call_of 14 v; refine (rchk_any a v _ (HV.out.ext (by (exact Ext.of_below (by (repeat' (first | (with_reducible exact Below.refl _ _) | (with_reducible assumption) | (with_reducible refine Below.alloc ?_ ?_ _) | (with_reducible refine Below.wext ?_ ?_ _ _) | (with_reducible refine Below.drew ?_) | (with_reducible refine Below.setCell ?_ ?_ _) | (with_reducible exact Nat.le_refl _) | (with_reducible refine Below.drewN' ?_ _) | (simp; omega) | (simp; done)))))))).mono ?_; rintro e w1 ⟨rfl, os1, n1, rfl⟩))
    all_goals go_ret2
    all_goals exact resP_nil (by (exact Ext.of_below (by (repeat' (first | (with_reducible exact Below.refl _ _) | (with_reducible assumption) | (with_reducible refine Below.alloc ?_ ?_ _) | (with_reducible refine Below.wext ?_ ?_ _ _) | (with_reducible refine Below.drew ?_) | (with_reducible refine Below.setCell ?_ ?_ _) | (with_reducible exact Nat.le_refl _) | (with_reducible refine Below.drewN' ?_ _) | (simp; omega) | (simp; done))))))

set_option maxHeartbeats 4000000 in
theorem rone_any (s : List (Int × Int)) (f t : Int) (op : Int) (v : Value) (w : World) (hv : isSl w v 2 s.length (ivF s)) (hl : s.length ≤ 200) :
    Calls Try.prog 42 #[v, .agg #[.int .i64 f, .int .i64 t], .int .i64 op] w (resP w.heap.size (if errI s f t = 0 then combI s (oneI (f, t)) op else []) (errI s f t) w) := by
  have HV : Hid (isSl w v 2 s.length (ivF s)) := hv
  obtain ⟨i0, hi0, hz0, hs0, hy0⟩ := infoIv_parts
  clear hv
  by_cases h0 : chkI s = 0
  · have e1 : (chkI s != 0) = false := by simp [h0]
    by_cases h1 : t < f
    · have e2 : decide (t < f) = true := by simpa using h1
      rw [errI_2 h0 h1, if_neg (by decide)]
      clear h0 h1
      go_enter Try.func42, Try.ntmps42
      go_upto_region 9999 with (first | (go_at_call_of 14 v; refine (rchk_any s v _ (HV.out.ext (by (exact Ext.of_below (by (repeat' (first | (with_reducible exact Below.refl _ _) | (with_reducible assumption) | (with_reducible refine Below.alloc ?_ ?_ _) | (with_reducible refine Below.wext ?_ ?_ _ _) | (with_reducible refine Below.drew ?_) | (with_reducible refine Below.setCell ?_ ?_ _) | (with_reducible exact Nat.le_refl _) | (with_reducible refine Below.drewN' ?_ _) | (simp; omega) | (simp; done)))))))).mono ?_; rintro e w1 ⟨rfl, os1, n1, rfl⟩))
      all_goals go_ret2
      all_goals exact resP_nil (by (exact Ext.of_below (by (repeat' (first | (with_reducible exact Below.refl _ _) | (with_reducible assumption) | (with_reducible refine Below.alloc ?_ ?_ _) | (with_reducible refine Below.wext ?_ ?_ _ _) | (with_reducible refine Below.drew ?_) | (with_reducible refine Below.setCell ?_ ?_ _) | (with_reducible exact Nat.le_refl _) | (with_reducible refine Below.drewN' ?_ _) | (simp; omega) | (simp; done))))))
    · have e2 : decide (t < f) = false := by simpa using h1
      rw [errI_0 h0 h1, if_pos rfl]
      by_cases h2 : f < t
      · have e3 : decide (f < t) = true := by simpa using h2
        rw [one_lt h2]
        clear h0 h1 h2
        go_enter Try.func42, Try.ntmps42
        go_upto_region 9999 with (first | (go_at_call_of 14 v; refine (rchk_any s v _ (HV.out.ext (by (exact Ext.of_below (by (repeat' (first | (with_reducible exact Below.refl _ _) | (with_reducible assumption) | (with_reducible refine Below.alloc ?_ ?_ _) | (with_reducible refine Below.wext ?_ ?_ _ _) | (with_reducible refine Below.drew ?_) | (with_reducible refine Below.setCell ?_ ?_ _) | (with_reducible exact Nat.le_refl _) | (with_reducible refine Below.drewN' ?_ _) | (simp; omega) | (simp; done)))))))).mono ?_; rintro e w1 ⟨rfl, os1, n1, rfl⟩) | (at_builtin; have tokA : True := trivial; refine wpList_append_own _ rfl _ _ 22 rfl 0 28 i0 (.agg #[.int .i64 0, .int .i64 0]) 2 16 Try.underlying22 hi0 hz0 hs0 hy0 rfl (by decide) _ _ _ rfl (World.ownsRow_nil _ _ _ _) ⟨_, 0, none⟩ 1 1 [.int .i64 f, .int .i64 t] rfl rfl (cells_new2 _ _ _ _ (by simp)) (by simp [Value.oneCell']) (by unfold maxLen; omega) (by omega) (by omega) ?_; intro vA wA hownA hgrA _; obtain ⟨osA, nA, rfl⟩ := ext_of_grown hgrA; clear hgrA; replace hownA : Hid _ := hownA) | (go_at_call 43; refine (comb_any s [(f, t)] op v vA _ (HV.out.ext (by (exact Ext.of_below (by (repeat' (first | (with_reducible exact Below.refl _ _) | (with_reducible assumption) | (with_reducible refine Below.alloc ?_ ?_ _) | (with_reducible refine Below.wext ?_ ?_ _ _) | (with_reducible refine Below.drew ?_) | (with_reducible refine Below.setCell ?_ ?_ _) | (with_reducible exact Nat.le_refl _) | (with_reducible refine Below.drewN' ?_ _) | (simp; omega) | (simp; done))))))) (isSl_own hownA.out (by (exact Ext.of_below (by (repeat' (first | (with_reducible exact Below.refl _ _) | (with_reducible assumption) | (with_reducible refine Below.alloc ?_ ?_ _) | (with_reducible refine Below.wext ?_ ?_ _ _) | (with_reducible refine Below.drew ?_) | (with_reducible refine Below.setCell ?_ ?_ _) | (with_reducible exact Nat.le_refl _) | (with_reducible refine Below.drewN' ?_ _) | (simp; omega) | (simp; done))))))) hl (by simp)).mono ?_; rintro e w1 ⟨r1, rfl, hown, hbel⟩; obtain ⟨os3, n3, rfl⟩ := Ext.of_below hbel; replace hown : Hid _ := hown; clear hbel))
        all_goals go_ret2
        all_goals exact resP_own (own_ext hown.out (by (exact Ext.of_below (by (repeat' (first | (with_reducible exact Below.refl _ _) | (with_reducible assumption) | (with_reducible refine Below.alloc ?_ ?_ _) | (with_reducible refine Below.wext ?_ ?_ _ _) | (with_reducible refine Below.drew ?_) | (with_reducible refine Below.setCell ?_ ?_ _) | (with_reducible exact Nat.le_refl _) | (with_reducible refine Below.drewN' ?_ _) | (simp; omega) | (simp; done))))))) (by first | (simp; done) | (simp; omega)) (by (exact Ext.of_below (by (repeat' (first | (with_reducible exact Below.refl _ _) | (with_reducible assumption) | (with_reducible refine Below.alloc ?_ ?_ _) | (with_reducible refine Below.wext ?_ ?_ _ _) | (with_reducible refine Below.drew ?_) | (with_reducible refine Below.setCell ?_ ?_ _) | (with_reducible exact Nat.le_refl _) | (with_reducible refine Below.drewN' ?_ _) | (simp; omega) | (simp; done))))))
      · have e3 : decide (f < t) = false := by simpa using h2
        rw [one_ge h2 h1]
        clear h0 h1 h2
        go_enter Try.func42, Try.ntmps42
        go_upto_region 9999 with (first | (go_at_call_of 14 v; refine (rchk_any s v _ (HV.out.ext (by (exact Ext.of_below (by (repeat' (first | (with_reducible exact Below.refl _ _) | (with_reducible assumption) | (with_reducible refine Below.alloc ?_ ?_ _) | (with_reducible refine Below.wext ?_ ?_ _ _) | (with_reducible refine Below.drew ?_) | (with_reducible refine Below.setCell ?_ ?_ _) | (with_reducible exact Nat.le_refl _) | (with_reducible refine Below.drewN' ?_ _) | (simp; omega) | (simp; done)))))))).mono ?_; rintro e w1 ⟨rfl, os1, n1, rfl⟩) | (go_at_call 43; refine (comb_any s [] op v (.slice none 0 0) _ (HV.out.ext (by (exact Ext.of_below (by (repeat' (first | (with_reducible exact Below.refl _ _) | (with_reducible assumption) | (with_reducible refine Below.alloc ?_ ?_ _) | (with_reducible refine Below.wext ?_ ?_ _ _) | (with_reducible refine Below.drew ?_) | (with_reducible refine Below.setCell ?_ ?_ _) | (with_reducible exact Nat.le_refl _) | (with_reducible refine Below.drewN' ?_ _) | (simp; omega) | (simp; done))))))) (isSl_nil _ _) hl (by simp)).mono ?_; rintro e w1 ⟨r1, rfl, hown, hbel⟩; obtain ⟨os3, n3, rfl⟩ := Ext.of_below hbel; replace hown : Hid _ := hown; clear hbel))
        all_goals go_ret2
        all_goals exact resP_own (own_ext hown.out (by (exact Ext.of_below (by (repeat' (first | (with_reducible exact Below.refl _ _) | (with_reducible assumption) | (with_reducible refine Below.alloc ?_ ?_ _) | (with_reducible refine Below.wext ?_ ?_ _ _) | (with_reducible refine Below.drew ?_) | (with_reducible refine Below.setCell ?_ ?_ _) | (with_reducible exact Nat.le_refl _) | (with_reducible refine Below.drewN' ?_ _) | (simp; omega) | (simp; done))))))) (by first | (simp; done) | (simp; omega)) (by (exact Ext.of_below (by (repeat' (first | (with_reducible exact Below.refl _ _) | (with_reducible assumption) | (with_reducible refine Below.alloc ?_ ?_ _) | (with_reducible refine Below.wext ?_ ?_ _ _) | (with_reducible refine Below.drew ?_) | (with_reducible refine Below.setCell ?_ ?_ _) | (with_reducible exact Nat.le_refl _) | (with_reducible refine Below.drewN' ?_ _) | (simp; omega) | (simp; done))))))
  · have e1 : (chkI s != 0) = true := by simp [h0]
    rw [errI_c h0, if_neg h0]
    clear h0
    go_enter Try.func42, Try.ntmps42
    go_upto_region 9999 with (first | (go_at_call_of 14 v; refine (rchk_any s v _ (HV.out.ext (by (exact Ext.of_below (by (repeat' (first | (with_reducible exact Below.refl _ _) | (with_reducible assumption) | (with_reducible refine Below.alloc ?_ ?_ _) | (with_reducible refine Below.wext ?_ ?_ _ _) | (with_reducible refine Below.drew ?_) | (with_reducible refine Below.setCell ?_ ?_ _) | (with_reducible exact Nat.le_refl _) | (with_reducible refine Below.drewN' ?_ _) | (simp; omega) | (simp; done)))))))).mono ?_; rintro e w1 ⟨rfl, os1, n1, rfl⟩))
    all_goals go_ret2
    all_goals exact resP_nil (by (exact Ext.of_below (by (repeat' (first | (with_reducible exact Below.refl _ _) | (with_reducible assumption) | (with_reducible refine Below.alloc ?_ ?_ _) | (with_reducible refine Below.wext ?_ ?_ _ _) | (with_reducible refine Below.drew ?_) | (with_reducible refine Below.setCell ?_ ?_ _) | (with_reducible exact Nat.le_refl _) | (with_reducible refine Below.drewN' ?_ _) | (simp; omega) | (simp; done))))))

set_option maxHeartbeats 4000000 in
theorem rgaps_any (s : List (Int × Int)) (f t : Int) (v : Value) (w : World) (hv : isSl w v 2 s.length (ivF s)) (hl : s.length ≤ 200) :
    Calls Try.prog 23 #[v, .int .i64 f, .int .i64 t] w (resP w.heap.size (if errI s f t = 0 then combI (oneI (f, t)) s 2 else []) (errI s f t) w) := by
  have HV : Hid (isSl w v 2 s.length (ivF s)) := hv
  obtain ⟨i0, hi0, hz0, hs0, hy0⟩ := infoIv_parts
  clear hv
  by_cases h0 : chkI s = 0
  · have e1 : (chkI s != 0) = false := by simp [h0]
    by_cases h1 : t < f
    · have e2 : decide (t < f) = true := by simpa using h1
      rw [errI_2 h0 h1, if_neg (by decide)]
      clear h0 h1
      go_enter Try.func23, Try.ntmps23
      go_upto_region 9999 with (first | (go_at_call_of 14 v; refine (rchk_any s v _ (HV.out.ext (by (exact Ext.of_below (by (repeat' (first | (with_reducible exact Below.refl _ _) | (with_reducible assumption) | (with_reducible refine Below.alloc ?_ ?_ _) | (with_reducible refine Below.wext ?_ ?_ _ _) | (with_reducible refine Below.drew ?_) | (with_reducible refine Below.setCell ?_ ?_ _) | (with_reducible exact Nat.le_refl _) | (with_reducible refine Below.drewN' ?_ _) | (simp; omega) | (simp; done)))))))).mono ?_; rintro e w1 ⟨rfl, os1, n1, rfl⟩))
      all_goals go_ret2
      all_goals exact resP_nil (by (exact Ext.of_below (by (repeat' (first | (with_reducible exact Below.refl _ _) | (with_reducible assumption) | (with_reducible refine Below.alloc ?_ ?_ _) | (with_reducible refine Below.wext ?_ ?_ _ _) | (with_reducible refine Below.drew ?_) | (with_reducible refine Below.setCell ?_ ?_ _) | (with_reducible exact Nat.le_refl _) | (with_reducible refine Below.drewN' ?_ _) | (simp; omega) | (simp; done))))))
    · have e2 : decide (t < f) = false := by simpa using h1
      rw [errI_0 h0 h1, if_pos rfl]
      by_cases h2 : f < t
      · have e3 : decide (f < t) = true := by simpa using h2
        rw [one_lt h2]
        clear h0 h1 h2
        go_enter Try.func23, Try.ntmps23
        go_upto_region 9999 with (first | (go_at_call_of 14 v; refine (rchk_any s v _ (HV.out.ext (by (exact Ext.of_below (by (repeat' (first | (with_reducible exact Below.refl _ _) | (with_reducible assumption) | (with_reducible refine Below.alloc ?_ ?_ _) | (with_reducible refine Below.wext ?_ ?_ _ _) | (with_reducible refine Below.drew ?_) | (with_reducible refine Below.setCell ?_ ?_ _) | (with_reducible exact Nat.le_refl _) | (with_reducible refine Below.drewN' ?_ _) | (simp; omega) | (simp; done)))))))).mono ?_; rintro e w1 ⟨rfl, os1, n1, rfl⟩) | (at_builtin; have tokA : True := trivial; refine wpList_append_own _ rfl _ _ 22 rfl 0 28 i0 (.agg #[.int .i64 0, .int .i64 0]) 2 16 Try.underlying22 hi0 hz0 hs0 hy0 rfl (by decide) _ _ _ rfl (World.ownsRow_nil _ _ _ _) ⟨_, 0, none⟩ 1 1 [.int .i64 f, .int .i64 t] rfl rfl (cells_new2 _ _ _ _ (by simp)) (by simp [Value.oneCell']) (by unfold maxLen; omega) (by omega) (by omega) ?_; intro vA wA hownA hgrA _; obtain ⟨osA, nA, rfl⟩ := ext_of_grown hgrA; clear hgrA; replace hownA : Hid _ := hownA) | (go_at_call 43; refine (comb_any [(f, t)] s 2 vA v _ (isSl_own hownA.out (by (exact Ext.of_below (by (repeat' (first | (with_reducible exact Below.refl _ _) | (with_reducible assumption) | (with_reducible refine Below.alloc ?_ ?_ _) | (with_reducible refine Below.wext ?_ ?_ _ _) | (with_reducible refine Below.drew ?_) | (with_reducible refine Below.setCell ?_ ?_ _) | (with_reducible exact Nat.le_refl _) | (with_reducible refine Below.drewN' ?_ _) | (simp; omega) | (simp; done))))))) (HV.out.ext (by (exact Ext.of_below (by (repeat' (first | (with_reducible exact Below.refl _ _) | (with_reducible assumption) | (with_reducible refine Below.alloc ?_ ?_ _) | (with_reducible refine Below.wext ?_ ?_ _ _) | (with_reducible refine Below.drew ?_) | (with_reducible refine Below.setCell ?_ ?_ _) | (with_reducible exact Nat.le_refl _) | (with_reducible refine Below.drewN' ?_ _) | (simp; omega) | (simp; done))))))) (by simp) hl).mono ?_; rintro e w1 ⟨r1, rfl, hown, hbel⟩; obtain ⟨os3, n3, rfl⟩ := Ext.of_below hbel; replace hown : Hid _ := hown; clear hbel))
        all_goals go_ret2
        all_goals exact resP_own (own_ext hown.out (by (exact Ext.of_below (by (repeat' (first | (with_reducible exact Below.refl _ _) | (with_reducible assumption) | (with_reducible refine Below.alloc ?_ ?_ _) | (with_reducible refine Below.wext ?_ ?_ _ _) | (with_reducible refine Below.drew ?_) | (with_reducible refine Below.setCell ?_ ?_ _) | (with_reducible exact Nat.le_refl _) | (with_reducible refine Below.drewN' ?_ _) | (simp; omega) | (simp; done))))))) (by first | (simp; done) | (simp; omega)) (by (exact Ext.of_below (by (repeat' (first | (with_reducible exact Below.refl _ _) | (with_reducible assumption) | (with_reducible refine Below.alloc ?_ ?_ _) | (with_reducible refine Below.wext ?_ ?_ _ _) | (with_reducible refine Below.drew ?_) | (with_reducible refine Below.setCell ?_ ?_ _) | (with_reducible exact Nat.le_refl _) | (with_reducible refine Below.drewN' ?_ _) | (simp; omega) | (simp; done))))))
      · have e3 : decide (f < t) = false := by simpa using h2
        rw [one_ge h2 h1]
        clear h0 h1 h2
        go_enter Try.func23, Try.ntmps23
        go_upto_region 9999 with (first | (go_at_call_of 14 v; refine (rchk_any s v _ (HV.out.ext (by (exact Ext.of_below (by (repeat' (first | (with_reducible exact Below.refl _ _) | (with_reducible assumption) | (with_reducible refine Below.alloc ?_ ?_ _) | (with_reducible refine Below.wext ?_ ?_ _ _) | (with_reducible refine Below.drew ?_) | (with_reducible refine Below.setCell ?_ ?_ _) | (with_reducible exact Nat.le_refl _) | (with_reducible refine Below.drewN' ?_ _) | (simp; omega) | (simp; done)))))))).mono ?_; rintro e w1 ⟨rfl, os1, n1, rfl⟩) | (go_at_call 43; refine (comb_any [] s 2 (.slice none 0 0) v _ (isSl_nil _ _) (HV.out.ext (by (exact Ext.of_below (by (repeat' (first | (with_reducible exact Below.refl _ _) | (with_reducible assumption) | (with_reducible refine Below.alloc ?_ ?_ _) | (with_reducible refine Below.wext ?_ ?_ _ _) | (with_reducible refine Below.drew ?_) | (with_reducible refine Below.setCell ?_ ?_ _) | (with_reducible exact Nat.le_refl _) | (with_reducible refine Below.drewN' ?_ _) | (simp; omega) | (simp; done))))))) (by simp) hl).mono ?_; rintro e w1 ⟨r1, rfl, hown, hbel⟩; obtain ⟨os3, n3, rfl⟩ := Ext.of_below hbel; replace hown : Hid _ := hown; clear hbel))
        all_goals go_ret2
        all_goals exact resP_own (own_ext hown.out (by (exact Ext.of_below (by (repeat' (first | (with_reducible exact Below.refl _ _) | (with_reducible assumption) | (with_reducible refine Below.alloc ?_ ?_ _) | (with_reducible refine Below.wext ?_ ?_ _ _) | (with_reducible refine Below.drew ?_) | (with_reducible refine Below.setCell ?_ ?_ _) | (with_reducible exact Nat.le_refl _) | (with_reducible refine Below.drewN' ?_ _) | (simp; omega) | (simp; done))))))) (by first | (simp; done) | (simp; omega)) (by (exact Ext.of_below (by (repeat' (first | (with_reducible exact Below.refl _ _) | (with_reducible assumption) | (with_reducible refine Below.alloc ?_ ?_ _) | (with_reducible refine Below.wext ?_ ?_ _ _) | (with_reducible refine Below.drew ?_) | (with_reducible refine Below.setCell ?_ ?_ _) | (with_reducible exact Nat.le_refl _) | (with_reducible refine Below.drewN' ?_ _) | (simp; omega) | (simp; done))))))
  · have e1 : (chkI s != 0) = true := by simp [h0]
    rw [errI_c h0, if_neg h0]
    clear h0
    go_enter Try.func23, Try.ntmps23
    go_upto_region 9999 with (first | (go_at_call_of 14 v; refine (rchk_any s v _ (HV.out.ext (by (exact Ext.of_below (by (repeat' (first | (with_reducible exact Below.refl _ _) | (with_reducible assumption) | (with_reducible refine Below.alloc ?_ ?_ _) | (with_reducible refine Below.wext ?_ ?_ _ _) | (with_reducible refine Below.drew ?_) | (with_reducible refine Below.setCell ?_ ?_ _) | (with_reducible exact Nat.le_refl _) | (with_reducible refine Below.drewN' ?_ _) | (simp; omega) | (simp; done)))))))).mono ?_; rintro e w1 ⟨rfl, os1, n1, rfl⟩))
    all_goals go_ret2
    all_goals exact resP_nil (by (exact Ext.of_below (by (repeat' (first | (with_reducible exact Below.refl _ _) | (with_reducible assumption) | (with_reducible refine Below.alloc ?_ ?_ _) | (with_reducible refine Below.wext ?_ ?_ _ _) | (with_reducible refine Below.drew ?_) | (with_reducible refine Below.setCell ?_ ?_ _) | (with_reducible exact Nat.le_refl _) | (with_reducible refine Below.drewN' ?_ _) | (simp; omega) | (simp; done))))))

set_option maxHeartbeats 4000000 in
theorem runi_any (a b : List (Int × Int)) (v u : Value) (w : World) (hv : isSl w v 2 a.length (ivF a)) (hu : isSl w u 2 b.length (ivF b)) (hla : a.length ≤ 200) (hlb : b.length ≤ 200) :
    Calls Try.prog 31 #[v, u] w (resP w.heap.size (if bothI a b = 0 then combI a b 0 else []) (bothI a b) w) := by
  have HV : Hid (isSl w v 2 a.length (ivF a)) := hv
  have HU : Hid (isSl w u 2 b.length (ivF b)) := hu
  clear hv hu
  obtain ⟨x, hx⟩ : ∃ x, bothI a b = x := ⟨_, rfl⟩
  obtain ⟨L, hL⟩ : ∃ L, (if x = 0 then combI a b 0 else []) = L := ⟨_, rfl⟩
  rw [hx, hL]
  have HX : Hid (bothI a b = x) := hx
  have HL : Hid ((if x = 0 then combI a b 0 else []) = L) := hL
  clear hx hL
  go_enter Try.func31, Try.ntmps31
  go_wp2_with (first | (go_at_call 47; refine (two_any a b 0 v u _ (HV.out.ext (by (exact Ext.of_below (by (repeat' (first | (with_reducible exact Below.refl _ _) | (with_reducible assumption) | (with_reducible refine Below.alloc ?_ ?_ _) | (with_reducible refine Below.wext ?_ ?_ _ _) | (with_reducible refine Below.drew ?_) | (with_reducible refine Below.setCell ?_ ?_ _) | (with_reducible exact Nat.le_refl _) | (with_reducible refine Below.drewN' ?_ _) | (simp; omega) | (simp; done))))))) (HU.out.ext (by (exact Ext.of_below (by (repeat' (first | (with_reducible exact Below.refl _ _) | (with_reducible assumption) | (with_reducible refine Below.alloc ?_ ?_ _) | (with_reducible refine Below.wext ?_ ?_ _ _) | (with_reducible refine Below.drew ?_) | (with_reducible refine Below.setCell ?_ ?_ _) | (with_reducible exact Nat.le_refl _) | (with_reducible refine Below.drewN' ?_ _) | (simp; omega) | (simp; done))))))) hla hlb).mono ?_; rintro e w1 ⟨r1, rfl, hown, hbel⟩; obtain ⟨os3, n3, rfl⟩ := Ext.of_below hbel; rw [HX.out, HL.out] at hown; replace hown : Hid _ := hown; simp only [HX.out]; clear hbel))
  all_goals go_ret2
  all_goals exact resP_own (own_ext hown.out (by (exact Ext.of_below (by (repeat' (first | (with_reducible exact Below.refl _ _) | (with_reducible assumption) | (with_reducible refine Below.alloc ?_ ?_ _) | (with_reducible refine Below.wext ?_ ?_ _ _) | (with_reducible refine Below.drew ?_) | (with_reducible refine Below.setCell ?_ ?_ _) | (with_reducible exact Nat.le_refl _) | (with_reducible refine Below.drewN' ?_ _) | (simp; omega) | (simp; done))))))) (by first | (simp; done) | (simp; omega)) (by (exact Ext.of_below (by (repeat' (first | (with_reducible exact Below.refl _ _) | (with_reducible assumption) | (with_reducible refine Below.alloc ?_ ?_ _) | (with_reducible refine Below.wext ?_ ?_ _ _) | (with_reducible refine Below.drew ?_) | (with_reducible refine Below.setCell ?_ ?_ _) | (with_reducible exact Nat.le_refl _) | (with_reducible refine Below.drewN' ?_ _) | (simp; omega) | (simp; done))))))

set_option maxHeartbeats 4000000 in
theorem rint_any (a b : List (Int × Int)) (v u : Value) (w : World) (hv : isSl w v 2 a.length (ivF a)) (hu : isSl w u 2 b.length (ivF b)) (hla : a.length ≤ 200) (hlb : b.length ≤ 200) :
    Calls Try.prog 32 #[v, u] w (resP w.heap.size (if bothI a b = 0 then combI a b 1 else []) (bothI a b) w) := by
  have HV : Hid (isSl w v 2 a.length (ivF a)) := hv
  have HU : Hid (isSl w u 2 b.length (ivF b)) := hu
  clear hv hu
  obtain ⟨x, hx⟩ : ∃ x, bothI a b = x := ⟨_, rfl⟩
  obtain ⟨L, hL⟩ : ∃ L, (if x = 0 then combI a b 1 else []) = L := ⟨_, rfl⟩
  rw [hx, hL]
  have HX : Hid (bothI a b = x) := hx
  have HL : Hid ((if x = 0 then combI a b 1 else []) = L) := hL
  clear hx hL
  go_enter Try.func32, Try.ntmps32
  go_wp2_with (first | (go_at_call 47; refine (two_any a b 1 v u _ (HV.out.ext (by (exact Ext.of_below (by (repeat' (first | (with_reducible exact Below.refl _ _) | (with_reducible assumption) | (with_reducible refine Below.alloc ?_ ?_ _) | (with_reducible refine Below.wext ?_ ?_ _ _) | (with_reducible refine Below.drew ?_) | (with_reducible refine Below.setCell ?_ ?_ _) | (with_reducible exact Nat.le_refl _) | (with_reducible refine Below.drewN' ?_ _) | (simp; omega) | (simp; done))))))) (HU.out.ext (by (exact Ext.of_below (by (repeat' (first | (with_reducible exact Below.refl _ _) | (with_reducible assumption) | (with_reducible refine Below.alloc ?_ ?_ _) | (with_reducible refine Below.wext ?_ ?_ _ _) | (with_reducible refine Below.drew ?_) | (with_reducible refine Below.setCell ?_ ?_ _) | (with_reducible exact Nat.le_refl _) | (with_reducible refine Below.drewN' ?_ _) | (simp; omega) | (simp; done))))))) hla hlb).mono ?_; rintro e w1 ⟨r1, rfl, hown, hbel⟩; obtain ⟨os3, n3, rfl⟩ := Ext.of_below hbel; rw [HX.out, HL.out] at hown; replace hown : Hid _ := hown; simp only [HX.out]; clear hbel))
  all_goals go_ret2
  all_goals exact resP_own (own_ext hown.out (by (exact Ext.of_below (by (repeat' (first | (with_reducible exact Below.refl _ _) | (with_reducible assumption) | (with_reducible refine Below.alloc ?_ ?_ _) | (with_reducible refine Below.wext ?_ ?_ _ _) | (with_reducible refine Below.drew ?_) | (with_reducible refine Below.setCell ?_ ?_ _) | (with_reducible exact Nat.le_refl _) | (with_reducible refine Below.drewN' ?_ _) | (simp; omega) | (simp; done))))))) (by first | (simp; done) | (simp; omega)) (by (exact Ext.of_below (by (repeat' (first | (with_reducible exact Below.refl _ _) | (with_reducible assumption) | (with_reducible refine Below.alloc ?_ ?_ _) | (with_reducible refine Below.wext ?_ ?_ _ _) | (with_reducible refine Below.drew ?_) | (with_reducible refine Below.setCell ?_ ?_ _) | (with_reducible exact Nat.le_refl _) | (with_reducible refine Below.drewN' ?_ _) | (simp; omega) | (simp; done))))))

set_option maxHeartbeats 4000000 in
theorem rsub_any (a b : List (Int × Int)) (v u : Value) (w : World) (hv : isSl w v 2 a.length (ivF a)) (hu : isSl w u 2 b.length (ivF b)) (hla : a.length ≤ 200) (hlb : b.length ≤ 200) :
    Calls Try.prog 33 #[v, u] w (resP w.heap.size (if bothI a b = 0 then combI a b 2 else []) (bothI a b) w) := by
  have HV : Hid (isSl w v 2 a.length (ivF a)) := hv
  have HU : Hid (isSl w u 2 b.length (ivF b)) := hu
  clear hv hu
  obtain ⟨x, hx⟩ : ∃ x, bothI a b = x := ⟨_, rfl⟩
  obtain ⟨L, hL⟩ : ∃ L, (if x = 0 then combI a b 2 else []) = L := ⟨_, rfl⟩
  rw [hx, hL]
  have HX : Hid (bothI a b = x) := hx
  have HL : Hid ((if x = 0 then combI a b 2 else []) = L) := hL
  clear hx hL
  go_enter Try.func33, Try.ntmps33
  go_wp2_with (first | (go_at_call 47; refine (two_any a b 2 v u _ (HV.out.ext (by (exact Ext.of_below (by (repeat' (first | (with_reducible exact Below.refl _ _) | (with_reducible assumption) | (with_reducible refine Below.alloc ?_ ?_ _) | (with_reducible refine Below.wext ?_ ?_ _ _) | (with_reducible refine Below.drew ?_) | (with_reducible refine Below.setCell ?_ ?_ _) | (with_reducible exact Nat.le_refl _) | (with_reducible refine Below.drewN' ?_ _) | (simp; omega) | (simp; done))))))) (HU.out.ext (by (exact Ext.of_below (by (repeat' (first | (with_reducible exact Below.refl _ _) | (with_reducible assumption) | (with_reducible refine Below.alloc ?_ ?_ _) | (with_reducible refine Below.wext ?_ ?_ _ _) | (with_reducible refine Below.drew ?_) | (with_reducible refine Below.setCell ?_ ?_ _) | (with_reducible exact Nat.le_refl _) | (with_reducible refine Below.drewN' ?_ _) | (simp; omega) | (simp; done))))))) hla hlb).mono ?_; rintro e w1 ⟨r1, rfl, hown, hbel⟩; obtain ⟨os3, n3, rfl⟩ := Ext.of_below hbel; rw [HX.out, HL.out] at hown; replace hown : Hid _ := hown; simp only [HX.out]; clear hbel))
  all_goals go_ret2
  all_goals exact resP_own (own_ext hown.out (by (exact Ext.of_below (by (repeat' (first | (with_reducible exact Below.refl _ _) | (with_reducible assumption) | (with_reducible refine Below.alloc ?_ ?_ _) | (with_reducible refine Below.wext ?_ ?_ _ _) | (with_reducible refine Below.drew ?_) | (with_reducible refine Below.setCell ?_ ?_ _) | (with_reducible exact Nat.le_refl _) | (with_reducible refine Below.drewN' ?_ _) | (simp; omega) | (simp; done))))))) (by first | (simp; done) | (simp; omega)) (by (exact Ext.of_below (by (repeat' (first | (with_reducible exact Below.refl _ _) | (with_reducible assumption) | (with_reducible refine Below.alloc ?_ ?_ _) | (with_reducible refine Below.wext ?_ ?_ _ _) | (with_reducible refine Below.drew ?_) | (with_reducible refine Below.setCell ?_ ?_ _) | (with_reducible exact Nat.le_refl _) | (with_reducible refine Below.drewN' ?_ _) | (simp; omega) | (simp; done))))))

set_option maxHeartbeats 4000000 in
theorem radd_any (s : List (Int × Int)) (f t : Int) (v : Value) (w : World) (hv : isSl w v 2 s.length (ivF s)) (hl : s.length ≤ 200) :
    Calls Try.prog 19 #[v, .agg #[.int .i64 f, .int .i64 t]] w (resP w.heap.size (if errI s f t = 0 then combI s (oneI (f, t)) 0 else []) (errI s f t) w) := by
  have HV : Hid (isSl w v 2 s.length (ivF s)) := hv
  clear hv
  obtain ⟨x, hx⟩ : ∃ x, errI s f t = x := ⟨_, rfl⟩
  obtain ⟨L, hL⟩ : ∃ L, (if x = 0 then combI s (oneI (f, t)) 0 else []) = L := ⟨_, rfl⟩
  rw [hx, hL]
  have HX : Hid (errI s f t = x) := hx
  have HL : Hid ((if x = 0 then combI s (oneI (f, t)) 0 else []) = L) := hL
  clear hx hL
  go_enter Try.func19, Try.ntmps19
  go_wp2_with (first | (go_at_call 42; refine (rone_any s f t 0 v _ (HV.out.ext (by (exact Ext.of_below (by (repeat' (first | (with_reducible exact Below.refl _ _) | (with_reducible assumption) | (with_reducible refine Below.alloc ?_ ?_ _) | (with_reducible refine Below.wext ?_ ?_ _ _) | (with_reducible refine Below.drew ?_) | (with_reducible refine Below.setCell ?_ ?_ _) | (with_reducible exact Nat.le_refl _) | (with_reducible refine Below.drewN' ?_ _) | (simp; omega) | (simp; done))))))) hl).mono ?_; rintro e w1 ⟨r1, rfl, hown, hbel⟩; obtain ⟨os3, n3, rfl⟩ := Ext.of_below hbel; rw [HX.out, HL.out] at hown; replace hown : Hid _ := hown; simp only [HX.out]; clear hbel))
  all_goals go_ret2
  all_goals exact resP_own (own_ext hown.out (by (exact Ext.of_below (by (repeat' (first | (with_reducible exact Below.refl _ _) | (with_reducible assumption) | (with_reducible refine Below.alloc ?_ ?_ _) | (with_reducible refine Below.wext ?_ ?_ _ _) | (with_reducible refine Below.drew ?_) | (with_reducible refine Below.setCell ?_ ?_ _) | (with_reducible exact Nat.le_refl _) | (with_reducible refine Below.drewN' ?_ _) | (simp; omega) | (simp; done))))))) (by first | (simp; done) | (simp; omega)) (by (exact Ext.of_below (by (repeat' (first | (with_reducible exact Below.refl _ _) | (with_reducible assumption) | (with_reducible refine Below.alloc ?_ ?_ _) | (with_reducible refine Below.wext ?_ ?_ _ _) | (with_reducible refine Below.drew ?_) | (with_reducible refine Below.setCell ?_ ?_ _) | (with_reducible exact Nat.le_refl _) | (with_reducible refine Below.drewN' ?_ _) | (simp; omega) | (simp; done))))))

set_option maxHeartbeats 4000000 in
theorem rrem_any (s : List (Int × Int)) (f t : Int) (v : Value) (w : World) (hv : isSl w v 2 s.length (ivF s)) (hl : s.length ≤ 200) :
    Calls Try.prog 20 #[v, .agg #[.int .i64 f, .int .i64 t]] w (resP w.heap.size (if errI s f t = 0 then combI s (oneI (f, t)) 2 else []) (errI s f t) w) := by
  have HV : Hid (isSl w v 2 s.length (ivF s)) := hv
  clear hv
  obtain ⟨x, hx⟩ : ∃ x, errI s f t = x := ⟨_, rfl⟩
  obtain ⟨L, hL⟩ : ∃ L, (if x = 0 then combI s (oneI (f, t)) 2 else []) = L := ⟨_, rfl⟩
  rw [hx, hL]
  have HX : Hid (errI s f t = x) := hx
  have HL : Hid ((if x = 0 then combI s (oneI (f, t)) 2 else []) = L) := hL
  clear hx hL
  go_enter Try.func20, Try.ntmps20
  go_wp2_with (first | (go_at_call 42; refine (rone_any s f t 2 v _ (HV.out.ext (by (exact Ext.of_below (by (repeat' (first | (with_reducible exact Below.refl _ _) | (with_reducible assumption) | (with_reducible refine Below.alloc ?_ ?_ _) | (with_reducible refine Below.wext ?_ ?_ _ _) | (with_reducible refine Below.drew ?_) | (with_reducible refine Below.setCell ?_ ?_ _) | (with_reducible exact Nat.le_refl _) | (with_reducible refine Below.drewN' ?_ _) | (simp; omega) | (simp; done))))))) hl).mono ?_; rintro e w1 ⟨r1, rfl, hown, hbel⟩; obtain ⟨os3, n3, rfl⟩ := Ext.of_below hbel; rw [HX.out, HL.out] at hown; replace hown : Hid _ := hown; simp only [HX.out]; clear hbel))
  all_goals go_ret2
  all_goals exact resP_own (own_ext hown.out (by (exact Ext.of_below (by (repeat' (first | (with_reducible exact Below.refl _ _) | (with_reducible assumption) | (with_reducible refine Below.alloc ?_ ?_ _) | (with_reducible refine Below.wext ?_ ?_ _ _) | (with_reducible refine Below.drew ?_) | (with_reducible refine Below.setCell ?_ ?_ _) | (with_reducible exact Nat.le_refl _) | (with_reducible refine Below.drewN' ?_ _) | (simp; omega) | (simp; done))))))) (by first | (simp; done) | (simp; omega)) (by (exact Ext.of_below (by (repeat' (first | (with_reducible exact Below.refl _ _) | (with_reducible assumption) | (with_reducible refine Below.alloc ?_ ?_ _) | (with_reducible refine Below.wext ?_ ?_ _ _) | (with_reducible refine Below.drew ?_) | (with_reducible refine Below.setCell ?_ ?_ _) | (with_reducible exact Nat.le_refl _) | (with_reducible refine Below.drewN' ?_ _) | (simp; omega) | (simp; done))))))

end Go.Proofs.Ytlboakmiopnifaa
