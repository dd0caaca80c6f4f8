/- Layer 02: Union, Intersect, Subtract, Add, Remove, Gaps: what each answers. -/
import Derived.Test.YtlboakmiopnifaaIvs
set_option linter.unusedSimpArgs false
set_option linter.unusedVariables false
namespace Go.Proofs.Ytlboakmiopnifaa
open Go.RowKit

theorem own_mono {w : World} {base base' : Nat} {e : TypeId} {m n : Nat} {v : Value} {xs : List Value} (h : w.ownsRow base e m v n xs) (hb : base' ≤ base) : w.ownsRow base' e m v n xs := by
  obtain ⟨h1, h2⟩ := h
  refine ⟨h1, ?_⟩
  rcases h2 with h2 | ⟨g, cap, cur, hv, hg, hr⟩
  · exact .inl h2
  · exact .inr ⟨g, cap, cur, hv, by omega, hr⟩
/-- A list of the call's own, and an error. -/
def resP (base : Nat) (l : List (Int × Int)) (x : Int) (w : World) (e : Ending) (w' : World) : Prop :=
  ∃ r, e = .returned (.tuple #[r, .int .i64 x]) ∧ w'.ownsRow base 28 2 r l.length (ivF l) ∧ Below w.heap.size w w'
theorem resP_err {w w' : World} {base : Nat} {l : List (Int × Int)} {x y : Int} (h : x = y) (hy : y ≠ 0) (hE : Ext w w') :
    resP base (if x = 0 then l else []) x w (.returned (.tuple #[.slice none 0 0, .int .i64 y])) w' := by
  subst h
  rw [if_neg hy]
  exact ⟨_, rfl, World.ownsRow_nil _ _ _ _, hE.below⟩
theorem resP_nil {w w' : World} {base : Nat} {x : Int} (hE : Ext w w') : resP base [] x w (.returned (.tuple #[.slice none 0 0, .int .i64 x])) w' :=
  ⟨_, rfl, World.ownsRow_nil _ _ _ _, hE.below⟩
theorem resP_own {w w' : World} {base b' : Nat} {l : List (Int × Int)} {x : Int} {r : Value} (ho : w'.ownsRow b' 28 2 r l.length (ivF l)) (hb : base ≤ b') (hE : Ext w w') :
    resP base l x w (.returned (.tuple #[r, .int .i64 x])) w' :=
  ⟨_, rfl, own_mono ho hb, hE.below⟩
theorem resP_ok {w w' : World} {base b' : Nat} {l : List (Int × Int)} {x : Int} {r : Value} (h : x = 0) (ho : w'.ownsRow b' 28 2 r l.length (ivF l)) (hb : base ≤ b') (hE : Ext w w') :
    resP base (if x = 0 then l else []) x w (.returned (.tuple #[r, .int .i64 0])) w' := by
  subst h
  rw [if_pos rfl]
  exact ⟨_, rfl, own_mono ho hb, hE.below⟩
/-- The error of an edit. -/
def errI (s : List (Int × Int)) (f t : Int) : Int := if chkI s = 0 then (if t < f then 2 else 0) else chkI s
theorem errI_2 {s : List (Int × Int)} {f t : Int} (h : chkI s = 0) (h1 : t < f) : errI s f t = 2 := by unfold errI; rw [if_pos h, if_pos h1]
theorem errI_0 {s : List (Int × Int)} {f t : Int} (h : chkI s = 0) (h1 : ¬ t < f) : errI s f t = 0 := by unfold errI; rw [if_pos h, if_neg h1]
theorem errI_c {s : List (Int × Int)} {f t : Int} (h : chkI s ≠ 0) : errI s f t = chkI s := by unfold errI; rw [if_neg h]
theorem oneI_le (x : Int × Int) : (oneI x).length ≤ 1 := by unfold oneI; split <;> simp
theorem one_asc {f t : Int} (h : f ≤ t) : Asc none (oneI (f, t)) := by
  unfold oneI
  split
  · trivial
  · rename_i hne
    exact ⟨by simp, by simp at hne ⊢; omega, trivial⟩
theorem both_one {s : List (Int × Int)} {f t : Int} (hs : chkI s = 0) (h : f ≤ t) : bothI s (oneI (f, t)) = 0 := by
  unfold bothI
  rw [if_pos hs]
  exact (chkI_asc _).2 (one_asc h)

set_option maxHeartbeats 4000000 in
theorem int_bad (a b : List (Int × Int)) (v u : Value) (w : World) (hv : isSl w v 2 a.length (ivF a)) (hu : isSl w u 2 b.length (ivF b)) (h0 : bothI a b ≠ 0) :
    Calls Try.prog 29 #[v, u] w fun e w' => e = .returned (.tuple #[.slice none 0 0, .int .i64 (bothI a b)]) ∧ Ext w w' := by
  have HV : Hid (isSl w v 2 a.length (ivF a)) := hv
  have HU : Hid (isSl w u 2 b.length (ivF b)) := hu
  have e1 : (bothI a b != 0) = true := by simp [h0]
  clear hv hu h0
  go_enter Try.func29, Try.ntmps29
  go_wp2_with (first | (go_at_call 45; refine (both_any a b v u _ (HV.out.ext (by (exact Ext.of_below (by (repeat' (first | (with_reducible exact Below.refl _ _) | (with_reducible assumption) | (with_reducible refine Below.alloc ?_ ?_ _) | (with_reducible refine Below.wext ?_ ?_ _ _) | (with_reducible refine Below.drew ?_) | (with_reducible refine Below.setCell ?_ ?_ _) | (with_reducible exact Nat.le_refl _) | (with_reducible refine Below.drewN' ?_ _) | (simp; omega) | (simp; done))))))) (HU.out.ext (by (exact Ext.of_below (by (repeat' (first | (with_reducible exact Below.refl _ _) | (with_reducible assumption) | (with_reducible refine Below.alloc ?_ ?_ _) | (with_reducible refine Below.wext ?_ ?_ _ _) | (with_reducible refine Below.drew ?_) | (with_reducible refine Below.setCell ?_ ?_ _) | (with_reducible exact Nat.le_refl _) | (with_reducible refine Below.drewN' ?_ _) | (simp; omega) | (simp; done)))))))).mono ?_; rintro e w1 ⟨rfl, os1, n1, rfl⟩))
  all_goals go_ret2
  all_goals exact ⟨rfl, by (exact Ext.of_below (by (repeat' (first | (with_reducible exact Below.refl _ _) | (with_reducible assumption) | (with_reducible refine Below.alloc ?_ ?_ _) | (with_reducible refine Below.wext ?_ ?_ _ _) | (with_reducible refine Below.drew ?_) | (with_reducible refine Below.setCell ?_ ?_ _) | (with_reducible exact Nat.le_refl _) | (with_reducible refine Below.drewN' ?_ _) | (simp; omega) | (simp; done)))))⟩
set_option maxHeartbeats 4000000 in
theorem sub_bad (a b : List (Int × Int)) (v u : Value) (w : World) (hv : isSl w v 2 a.length (ivF a)) (hu : isSl w u 2 b.length (ivF b)) (h0 : bothI a b ≠ 0) :
    Calls Try.prog 30 #[v, u] w fun e w' => e = .returned (.tuple #[.slice none 0 0, .int .i64 (bothI a b)]) ∧ Ext w w' := by
  have HV : Hid (isSl w v 2 a.length (ivF a)) := hv
  have HU : Hid (isSl w u 2 b.length (ivF b)) := hu
  have e1 : (bothI a b != 0) = true := by simp [h0]
  clear hv hu h0
  go_enter Try.func30, Try.ntmps30
  go_wp2_with (first | (go_at_call 45; refine (both_any a b v u _ (HV.out.ext (by (exact Ext.of_below (by (repeat' (first | (with_reducible exact Below.refl _ _) | (with_reducible assumption) | (with_reducible refine Below.alloc ?_ ?_ _) | (with_reducible refine Below.wext ?_ ?_ _ _) | (with_reducible refine Below.drew ?_) | (with_reducible refine Below.setCell ?_ ?_ _) | (with_reducible exact Nat.le_refl _) | (with_reducible refine Below.drewN' ?_ _) | (simp; omega) | (simp; done))))))) (HU.out.ext (by (exact Ext.of_below (by (repeat' (first | (with_reducible exact Below.refl _ _) | (with_reducible assumption) | (with_reducible refine Below.alloc ?_ ?_ _) | (with_reducible refine Below.wext ?_ ?_ _ _) | (with_reducible refine Below.drew ?_) | (with_reducible refine Below.setCell ?_ ?_ _) | (with_reducible exact Nat.le_refl _) | (with_reducible refine Below.drewN' ?_ _) | (simp; omega) | (simp; done)))))))).mono ?_; rintro e w1 ⟨rfl, os1, n1, rfl⟩))
  all_goals go_ret2
  all_goals exact ⟨rfl, by (exact Ext.of_below (by (repeat' (first | (with_reducible exact Below.refl _ _) | (with_reducible assumption) | (with_reducible refine Below.alloc ?_ ?_ _) | (with_reducible refine Below.wext ?_ ?_ _ _) | (with_reducible refine Below.drew ?_) | (with_reducible refine Below.setCell ?_ ?_ _) | (with_reducible exact Nat.le_refl _) | (with_reducible refine Below.drewN' ?_ _) | (simp; omega) | (simp; done)))))⟩
theorem uni_any (a b : List (Int × Int)) (v u : Value) (w : World) (hv : isSl w v 2 a.length (ivF a)) (hu : isSl w u 2 b.length (ivF b)) (hab : a.length + b.length ≤ 200) :
    Calls Try.prog 28 #[v, u] w (resP w.heap.size (if bothI a b = 0 then uniL a b else []) (bothI a b) w) := by
  by_cases h0 : bothI a b = 0
  · refine (uni_ok a b v u w hv hu hab h0).mono ?_
    rintro e w' ⟨r, rfl, h1, h2⟩
    rw [h0]
    exact ⟨r, rfl, h1, h2⟩
  · refine (uni_bad a b v u w hv hu h0).mono ?_
    rintro e w' ⟨rfl, h⟩
    exact resP_err rfl h0 h
theorem int_any (a b : List (Int × Int)) (v u : Value) (w : World) (hv : isSl w v 2 a.length (ivF a)) (hu : isSl w u 2 b.length (ivF b)) (hab : a.length + b.length ≤ 200) :
    Calls Try.prog 29 #[v, u] w (resP w.heap.size (if bothI a b = 0 then intI a b else []) (bothI a b) w) := by
  by_cases h0 : bothI a b = 0
  · refine (int_ok a b v u w hv hu hab h0).mono ?_
    rintro e w' ⟨r, rfl, h1, h2⟩
    rw [h0]
    exact ⟨r, rfl, h1, h2⟩
  · refine (int_bad a b v u w hv hu h0).mono ?_
    rintro e w' ⟨rfl, h⟩
    exact resP_err rfl h0 h
set_option maxHeartbeats 4000000 in
theorem sub_any (a b : List (Int × Int)) (v u : Value) (w : World) (hv : isSl w v 2 a.length (ivF a)) (hu : isSl w u 2 b.length (ivF b)) (hla : a.length ≤ 200) (hlb : b.length ≤ 200) :
    Calls Try.prog 30 #[v, u] w (resP w.heap.size (if bothI a b = 0 then cutI a b else []) (bothI a b) w) := by
  by_cases h0 : bothI a b = 0
  · have HV : Hid (isSl w v 2 a.length (ivF a)) := hv
    have HU : Hid (isSl w u 2 b.length (ivF b)) := hu
    have e1 : (bothI a b != 0) = false := by simp [h0]
    have HE : Hid (bothI a b = 0) := h0
    rw [h0, if_pos rfl]
    clear hv hu h0
    go_enter Try.func30, Try.ntmps30
    go_wp2_with (first | (go_at_call 45; refine (both_any a b v u _ (HV.out.ext (by (exact Ext.of_below (by (repeat' (first | (with_reducible exact Below.refl _ _) | (with_reducible assumption) | (with_reducible refine Below.alloc ?_ ?_ _) | (with_reducible refine Below.wext ?_ ?_ _ _) | (with_reducible refine Below.drew ?_) | (with_reducible refine Below.setCell ?_ ?_ _) | (with_reducible exact Nat.le_refl _) | (with_reducible refine Below.drewN' ?_ _) | (simp; omega) | (simp; done))))))) (HU.out.ext (by (exact Ext.of_below (by (repeat' (first | (with_reducible exact Below.refl _ _) | (with_reducible assumption) | (with_reducible refine Below.alloc ?_ ?_ _) | (with_reducible refine Below.wext ?_ ?_ _ _) | (with_reducible refine Below.drew ?_) | (with_reducible refine Below.setCell ?_ ?_ _) | (with_reducible exact Nat.le_refl _) | (with_reducible refine Below.drewN' ?_ _) | (simp; omega) | (simp; done)))))))).mono ?_; rintro e w1 ⟨rfl, os1, n1, rfl⟩) | (go_at_call 41; refine (cut_any a b v u _ (HV.out.ext (by (exact Ext.of_below (by (repeat' (first | (with_reducible exact Below.refl _ _) | (with_reducible assumption) | (with_reducible refine Below.alloc ?_ ?_ _) | (with_reducible refine Below.wext ?_ ?_ _ _) | (with_reducible refine Below.drew ?_) | (with_reducible refine Below.setCell ?_ ?_ _) | (with_reducible exact Nat.le_refl _) | (with_reducible refine Below.drewN' ?_ _) | (simp; omega) | (simp; done))))))) (HU.out.ext (by (exact Ext.of_below (by (repeat' (first | (with_reducible exact Below.refl _ _) | (with_reducible assumption) | (with_reducible refine Below.alloc ?_ ?_ _) | (with_reducible refine Below.wext ?_ ?_ _ _) | (with_reducible refine Below.drew ?_) | (with_reducible refine Below.setCell ?_ ?_ _) | (with_reducible exact Nat.le_refl _) | (with_reducible refine Below.drewN' ?_ _) | (simp; omega) | (simp; done))))))) hla hlb).mono ?_; rintro e w1 ⟨r1, rfl, hown, hbel⟩; obtain ⟨os3, n3, rfl⟩ := Ext.of_below hbel; replace hown : Hid _ := hown; clear hbel))
    all_goals go_ret2
    all_goals exact resP_own (own_ext hown.out (by (exact Ext.of_below (by (repeat' (first | (with_reducible exact Below.refl _ _) | (with_reducible assumption) | (with_reducible refine Below.alloc ?_ ?_ _) | (with_reducible refine Below.wext ?_ ?_ _ _) | (with_reducible refine Below.drew ?_) | (with_reducible refine Below.setCell ?_ ?_ _) | (with_reducible exact Nat.le_refl _) | (with_reducible refine Below.drewN' ?_ _) | (simp; omega) | (simp; done))))))) (by first | (simp; done) | (simp; omega)) (by (exact Ext.of_below (by (repeat' (first | (with_reducible exact Below.refl _ _) | (with_reducible assumption) | (with_reducible refine Below.alloc ?_ ?_ _) | (with_reducible refine Below.wext ?_ ?_ _ _) | (with_reducible refine Below.drew ?_) | (with_reducible refine Below.setCell ?_ ?_ _) | (with_reducible exact Nat.le_refl _) | (with_reducible refine Below.drewN' ?_ _) | (simp; omega) | (simp; done))))))
  · refine (sub_bad a b v u w hv hu h0).mono ?_
    rintro e w' ⟨rfl, h⟩
    exact resP_err rfl h0 h

set_option maxHeartbeats 4000000 in
theorem add_any (s : List (Int × Int)) (f t : Int) (v : Value) (w : World) (hv : isSl w v 2 s.length (ivF s)) (hl : s.length ≤ 190) :
    Calls Try.prog 17 #[v, .agg #[.int .i64 f, .int .i64 t]] w (resP w.heap.size (if errI s f t = 0 then uniL s (oneI (f, t)) else []) (errI s f t) w) := by
  have HV : Hid (isSl w v 2 s.length (ivF s)) := hv
  have hl : s.length ≤ 200 := by omega
  clear hv
  by_cases h0 : chkI s = 0
  · have e1 : (chkI s != 0) = false := by simp [h0]
    have HC : Hid (chkI s = 0) := h0
    by_cases h1 : t < f
    · have e2 : decide (t < f) = true := by simpa using h1
      have HE : Hid (errI s f t = 2) := errI_2 h0 h1
      rw [HE.out, if_neg (by decide)]
      clear h0 h1
      go_enter Try.func17, Try.ntmps17
      go_upto_region 9999 with (first | (go_at_call 13; refine (chk_any s v _ (HV.out.ext (by (exact Ext.of_below (by (repeat' (first | (with_reducible exact Below.refl _ _) | (with_reducible assumption) | (with_reducible refine Below.alloc ?_ ?_ _) | (with_reducible refine Below.wext ?_ ?_ _ _) | (with_reducible refine Below.drew ?_) | (with_reducible refine Below.setCell ?_ ?_ _) | (with_reducible exact Nat.le_refl _) | (with_reducible refine Below.drewN' ?_ _) | (simp; omega) | (simp; done)))))))).mono ?_; rintro e w1 ⟨rfl, os1, n1, rfl⟩))
      all_goals go_ret2
      all_goals exact resP_nil (by (exact Ext.of_below (by (repeat' (first | (with_reducible exact Below.refl _ _) | (with_reducible assumption) | (with_reducible refine Below.alloc ?_ ?_ _) | (with_reducible refine Below.wext ?_ ?_ _ _) | (with_reducible refine Below.drew ?_) | (with_reducible refine Below.setCell ?_ ?_ _) | (with_reducible exact Nat.le_refl _) | (with_reducible refine Below.drewN' ?_ _) | (simp; omega) | (simp; done))))))
    · have e2 : decide (t < f) = false := by simpa using h1
      have HE : Hid (errI s f t = 0) := errI_0 h0 h1
      have HF : Hid (f ≤ t) := by show f ≤ t; omega
      rw [HE.out, if_pos rfl]
      clear h0 h1
      go_enter Try.func17, Try.ntmps17
      go_upto_region 6 with (first | (go_at_call 13; refine (chk_any s v _ (HV.out.ext (by (exact Ext.of_below (by (repeat' (first | (with_reducible exact Below.refl _ _) | (with_reducible assumption) | (with_reducible refine Below.alloc ?_ ?_ _) | (with_reducible refine Below.wext ?_ ?_ _ _) | (with_reducible refine Below.drew ?_) | (with_reducible refine Below.setCell ?_ ?_ _) | (with_reducible exact Nat.le_refl _) | (with_reducible refine Below.drewN' ?_ _) | (simp; omega) | (simp; done)))))))).mono ?_; rintro e w1 ⟨rfl, os1, n1, rfl⟩))
      go_upto_region 9999 with (first | (go_at_call 40; refine (one_any f t _).mono ?_; rintro e w1 ⟨v1, rfl, hsl1, os2, n2, rfl⟩; replace hsl1 : Hid _ := hsl1) | (go_at_call 28; refine (uni_ok s (oneI (f, t)) v v1 _ (HV.out.ext (by (exact Ext.of_below (by (repeat' (first | (with_reducible exact Below.refl _ _) | (with_reducible assumption) | (with_reducible refine Below.alloc ?_ ?_ _) | (with_reducible refine Below.wext ?_ ?_ _ _) | (with_reducible refine Below.drew ?_) | (with_reducible refine Below.setCell ?_ ?_ _) | (with_reducible exact Nat.le_refl _) | (with_reducible refine Below.drewN' ?_ _) | (simp; omega) | (simp; done))))))) (isSl.ext hsl1.out (by (exact Ext.of_below (by (repeat' (first | (with_reducible exact Below.refl _ _) | (with_reducible assumption) | (with_reducible refine Below.alloc ?_ ?_ _) | (with_reducible refine Below.wext ?_ ?_ _ _) | (with_reducible refine Below.drew ?_) | (with_reducible refine Below.setCell ?_ ?_ _) | (with_reducible exact Nat.le_refl _) | (with_reducible refine Below.drewN' ?_ _) | (simp; omega) | (simp; done))))))) (by have := oneI_le (f, t); omega) (both_one HC.out HF.out)).mono ?_; rintro e w1 ⟨r1, rfl, hown, hbel⟩; obtain ⟨os3, n3, rfl⟩ := Ext.of_below hbel; replace hown : Hid _ := hown; clear hbel))
      all_goals go_ret2
      all_goals exact resP_own (own_ext hown.out (by (exact Ext.of_below (by (repeat' (first | (with_reducible exact Below.refl _ _) | (with_reducible assumption) | (with_reducible refine Below.alloc ?_ ?_ _) | (with_reducible refine Below.wext ?_ ?_ _ _) | (with_reducible refine Below.drew ?_) | (with_reducible refine Below.setCell ?_ ?_ _) | (with_reducible exact Nat.le_refl _) | (with_reducible refine Below.drewN' ?_ _) | (simp; omega) | (simp; done))))))) (by first | (simp; done) | (simp; omega)) (by (exact Ext.of_below (by (repeat' (first | (with_reducible exact Below.refl _ _) | (with_reducible assumption) | (with_reducible refine Below.alloc ?_ ?_ _) | (with_reducible refine Below.wext ?_ ?_ _ _) | (with_reducible refine Below.drew ?_) | (with_reducible refine Below.setCell ?_ ?_ _) | (with_reducible exact Nat.le_refl _) | (with_reducible refine Below.drewN' ?_ _) | (simp; omega) | (simp; done))))))
  · have e1 : (chkI s != 0) = true := by simp [h0]
    have HE : Hid (errI s f t = chkI s) := errI_c h0
    have HN : Hid (chkI s ≠ 0) := h0
    rw [HE.out, if_neg h0]
    clear h0
    go_enter Try.func17, Try.ntmps17
    go_upto_region 9999 with (first | (go_at_call 13; refine (chk_any s v _ (HV.out.ext (by (exact Ext.of_below (by (repeat' (first | (with_reducible exact Below.refl _ _) | (with_reducible assumption) | (with_reducible refine Below.alloc ?_ ?_ _) | (with_reducible refine Below.wext ?_ ?_ _ _) | (with_reducible refine Below.drew ?_) | (with_reducible refine Below.setCell ?_ ?_ _) | (with_reducible exact Nat.le_refl _) | (with_reducible refine Below.drewN' ?_ _) | (simp; omega) | (simp; done)))))))).mono ?_; rintro e w1 ⟨rfl, os1, n1, rfl⟩))
    all_goals go_ret2
    all_goals exact resP_nil (by (exact Ext.of_below (by (repeat' (first | (with_reducible exact Below.refl _ _) | (with_reducible assumption) | (with_reducible refine Below.alloc ?_ ?_ _) | (with_reducible refine Below.wext ?_ ?_ _ _) | (with_reducible refine Below.drew ?_) | (with_reducible refine Below.setCell ?_ ?_ _) | (with_reducible exact Nat.le_refl _) | (with_reducible refine Below.drewN' ?_ _) | (simp; omega) | (simp; done))))))

set_option maxHeartbeats 4000000 in
theorem rem_any (s : List (Int × Int)) (f t : Int) (v : Value) (w : World) (hv : isSl w v 2 s.length (ivF s)) (hl : s.length ≤ 190) :
    Calls Try.prog 18 #[v, .agg #[.int .i64 f, .int .i64 t]] w (resP w.heap.size (if errI s f t = 0 then cutI s (oneI (f, t)) else []) (errI s f t) w) := by
  have HV : Hid (isSl w v 2 s.length (ivF s)) := hv
  have hl : s.length ≤ 200 := by omega
  clear hv
  by_cases h0 : chkI s = 0
  · have e1 : (chkI s != 0) = false := by simp [h0]
    have HC : Hid (chkI s = 0) := h0
    by_cases h1 : t < f
    · have e2 : decide (t < f) = true := by simpa using h1
      have HE : Hid (errI s f t = 2) := errI_2 h0 h1
      rw [HE.out, if_neg (by decide)]
      clear h0 h1
      go_enter Try.func18, Try.ntmps18
      go_upto_region 9999 with (first | (go_at_call 13; refine (chk_any s v _ (HV.out.ext (by (exact Ext.of_below (by (repeat' (first | (with_reducible exact Below.refl _ _) | (with_reducible assumption) | (with_reducible refine Below.alloc ?_ ?_ _) | (with_reducible refine Below.wext ?_ ?_ _ _) | (with_reducible refine Below.drew ?_) | (with_reducible refine Below.setCell ?_ ?_ _) | (with_reducible exact Nat.le_refl _) | (with_reducible refine Below.drewN' ?_ _) | (simp; omega) | (simp; done)))))))).mono ?_; rintro e w1 ⟨rfl, os1, n1, rfl⟩))
      all_goals go_ret2
      all_goals exact resP_nil (by (exact Ext.of_below (by (repeat' (first | (with_reducible exact Below.refl _ _) | (with_reducible assumption) | (with_reducible refine Below.alloc ?_ ?_ _) | (with_reducible refine Below.wext ?_ ?_ _ _) | (with_reducible refine Below.drew ?_) | (with_reducible refine Below.setCell ?_ ?_ _) | (with_reducible exact Nat.le_refl _) | (with_reducible refine Below.drewN' ?_ _) | (simp; omega) | (simp; done))))))
    · have e2 : decide (t < f) = false := by simpa using h1
      have HE : Hid (errI s f t = 0) := errI_0 h0 h1
      have HF : Hid (f ≤ t) := by show f ≤ t; omega
      rw [HE.out, if_pos rfl]
      clear h0 h1
      go_enter Try.func18, Try.ntmps18
      go_upto_region 6 with (first | (go_at_call 13; refine (chk_any s v _ (HV.out.ext (by (exact Ext.of_below (by (repeat' (first | (with_reducible exact Below.refl _ _) | (with_reducible assumption) | (with_reducible refine Below.alloc ?_ ?_ _) | (with_reducible refine Below.wext ?_ ?_ _ _) | (with_reducible refine Below.drew ?_) | (with_reducible refine Below.setCell ?_ ?_ _) | (with_reducible exact Nat.le_refl _) | (with_reducible refine Below.drewN' ?_ _) | (simp; omega) | (simp; done)))))))).mono ?_; rintro e w1 ⟨rfl, os1, n1, rfl⟩))
      go_upto_region 9999 with (first | (go_at_call 40; refine (one_any f t _).mono ?_; rintro e w1 ⟨v1, rfl, hsl1, os2, n2, rfl⟩; replace hsl1 : Hid _ := hsl1) | (go_at_call 41; refine (cut_any s (oneI (f, t)) v v1 _ (HV.out.ext (by (exact Ext.of_below (by (repeat' (first | (with_reducible exact Below.refl _ _) | (with_reducible assumption) | (with_reducible refine Below.alloc ?_ ?_ _) | (with_reducible refine Below.wext ?_ ?_ _ _) | (with_reducible refine Below.drew ?_) | (with_reducible refine Below.setCell ?_ ?_ _) | (with_reducible exact Nat.le_refl _) | (with_reducible refine Below.drewN' ?_ _) | (simp; omega) | (simp; done))))))) (isSl.ext hsl1.out (by (exact Ext.of_below (by (repeat' (first | (with_reducible exact Below.refl _ _) | (with_reducible assumption) | (with_reducible refine Below.alloc ?_ ?_ _) | (with_reducible refine Below.wext ?_ ?_ _ _) | (with_reducible refine Below.drew ?_) | (with_reducible refine Below.setCell ?_ ?_ _) | (with_reducible exact Nat.le_refl _) | (with_reducible refine Below.drewN' ?_ _) | (simp; omega) | (simp; done))))))) (by first | exact hl | exact Nat.le_trans (oneI_le _) (by decide)) (by first | exact hl | exact Nat.le_trans (oneI_le _) (by decide))).mono ?_; rintro e w1 ⟨r1, rfl, hown, hbel⟩; obtain ⟨os3, n3, rfl⟩ := Ext.of_below hbel; replace hown : Hid _ := hown; clear hbel))
      all_goals go_ret2
      all_goals exact resP_own (own_ext hown.out (by (exact Ext.of_below (by (repeat' (first | (with_reducible exact Below.refl _ _) | (with_reducible assumption) | (with_reducible refine Below.alloc ?_ ?_ _) | (with_reducible refine Below.wext ?_ ?_ _ _) | (with_reducible refine Below.drew ?_) | (with_reducible refine Below.setCell ?_ ?_ _) | (with_reducible exact Nat.le_refl _) | (with_reducible refine Below.drewN' ?_ _) | (simp; omega) | (simp; done))))))) (by first | (simp; done) | (simp; omega)) (by (exact Ext.of_below (by (repeat' (first | (with_reducible exact Below.refl _ _) | (with_reducible assumption) | (with_reducible refine Below.alloc ?_ ?_ _) | (with_reducible refine Below.wext ?_ ?_ _ _) | (with_reducible refine Below.drew ?_) | (with_reducible refine Below.setCell ?_ ?_ _) | (with_reducible exact Nat.le_refl _) | (with_reducible refine Below.drewN' ?_ _) | (simp; omega) | (simp; done))))))
  · have e1 : (chkI s != 0) = true := by simp [h0]
    have HE : Hid (errI s f t = chkI s) := errI_c h0
    have HN : Hid (chkI s ≠ 0) := h0
    rw [HE.out, if_neg h0]
    clear h0
    go_enter Try.func18, Try.ntmps18
    go_upto_region 9999 with (first | (go_at_call 13; refine (chk_any s v _ (HV.out.ext (by (exact Ext.of_below (by (repeat' (first | (with_reducible exact Below.refl _ _) | (with_reducible assumption) | (with_reducible refine Below.alloc ?_ ?_ _) | (with_reducible refine Below.wext ?_ ?_ _ _) | (with_reducible refine Below.drew ?_) | (with_reducible refine Below.setCell ?_ ?_ _) | (with_reducible exact Nat.le_refl _) | (with_reducible refine Below.drewN' ?_ _) | (simp; omega) | (simp; done)))))))).mono ?_; rintro e w1 ⟨rfl, os1, n1, rfl⟩))
    all_goals go_ret2
    all_goals exact resP_nil (by (exact Ext.of_below (by (repeat' (first | (with_reducible exact Below.refl _ _) | (with_reducible assumption) | (with_reducible refine Below.alloc ?_ ?_ _) | (with_reducible refine Below.wext ?_ ?_ _ _) | (with_reducible refine Below.drew ?_) | (with_reducible refine Below.setCell ?_ ?_ _) | (with_reducible exact Nat.le_refl _) | (with_reducible refine Below.drewN' ?_ _) | (simp; omega) | (simp; done))))))

set_option maxHeartbeats 4000000 in
theorem gaps_any (s : List (Int × Int)) (f t : Int) (v : Value) (w : World) (hv : isSl w v 2 s.length (ivF s)) (hl : s.length ≤ 190) :
    Calls Try.prog 22 #[v, .int .i64 f, .int .i64 t] w (resP w.heap.size (if errI s f t = 0 then cutI (oneI (f, t)) s else []) (errI s f t) w) := by
  have HV : Hid (isSl w v 2 s.length (ivF s)) := hv
  have hl : s.length ≤ 200 := by omega
  clear hv
  by_cases h0 : chkI s = 0
  · have e1 : (chkI s != 0) = false := by simp [h0]
    have HC : Hid (chkI s = 0) := h0
    by_cases h1 : t < f
    · have e2 : decide (t < f) = true := by simpa using h1
      have HE : Hid (errI s f t = 2) := errI_2 h0 h1
      rw [HE.out, if_neg (by decide)]
      clear h0 h1
      go_enter Try.func22, Try.ntmps22
      go_upto_region 9999 with (first | (go_at_call 13; refine (chk_any s v _ (HV.out.ext (by (exact Ext.of_below (by (repeat' (first | (with_reducible exact Below.refl _ _) | (with_reducible assumption) | (with_reducible refine Below.alloc ?_ ?_ _) | (with_reducible refine Below.wext ?_ ?_ _ _) | (with_reducible refine Below.drew ?_) | (with_reducible refine Below.setCell ?_ ?_ _) | (with_reducible exact Nat.le_refl _) | (with_reducible refine Below.drewN' ?_ _) | (simp; omega) | (simp; done)))))))).mono ?_; rintro e w1 ⟨rfl, os1, n1, rfl⟩))
      all_goals go_ret2
      all_goals exact resP_nil (by (exact Ext.of_below (by (repeat' (first | (with_reducible exact Below.refl _ _) | (with_reducible assumption) | (with_reducible refine Below.alloc ?_ ?_ _) | (with_reducible refine Below.wext ?_ ?_ _ _) | (with_reducible refine Below.drew ?_) | (with_reducible refine Below.setCell ?_ ?_ _) | (with_reducible exact Nat.le_refl _) | (with_reducible refine Below.drewN' ?_ _) | (simp; omega) | (simp; done))))))
    · have e2 : decide (t < f) = false := by simpa using h1
      have HE : Hid (errI s f t = 0) := errI_0 h0 h1
      have HF : Hid (f ≤ t) := by show f ≤ t; omega
      rw [HE.out, if_pos rfl]
      clear h0 h1
      go_enter Try.func22, Try.ntmps22
      go_upto_region 6 with (first | (go_at_call 13; refine (chk_any s v _ (HV.out.ext (by (exact Ext.of_below (by (repeat' (first | (with_reducible exact Below.refl _ _) | (with_reducible assumption) | (with_reducible refine Below.alloc ?_ ?_ _) | (with_reducible refine Below.wext ?_ ?_ _ _) | (with_reducible refine Below.drew ?_) | (with_reducible refine Below.setCell ?_ ?_ _) | (with_reducible exact Nat.le_refl _) | (with_reducible refine Below.drewN' ?_ _) | (simp; omega) | (simp; done)))))))).mono ?_; rintro e w1 ⟨rfl, os1, n1, rfl⟩))
      go_upto_region 9999 with (first | (go_at_call 40; refine (one_any f t _).mono ?_; rintro e w1 ⟨v1, rfl, hsl1, os2, n2, rfl⟩; replace hsl1 : Hid _ := hsl1) | (go_at_call 41; refine (cut_any (oneI (f, t)) s v1 v _ (isSl.ext hsl1.out (by (exact Ext.of_below (by (repeat' (first | (with_reducible exact Below.refl _ _) | (with_reducible assumption) | (with_reducible refine Below.alloc ?_ ?_ _) | (with_reducible refine Below.wext ?_ ?_ _ _) | (with_reducible refine Below.drew ?_) | (with_reducible refine Below.setCell ?_ ?_ _) | (with_reducible exact Nat.le_refl _) | (with_reducible refine Below.drewN' ?_ _) | (simp; omega) | (simp; done))))))) (HV.out.ext (by (exact Ext.of_below (by (repeat' (first | (with_reducible exact Below.refl _ _) | (with_reducible assumption) | (with_reducible refine Below.alloc ?_ ?_ _) | (with_reducible refine Below.wext ?_ ?_ _ _) | (with_reducible refine Below.drew ?_) | (with_reducible refine Below.setCell ?_ ?_ _) | (with_reducible exact Nat.le_refl _) | (with_reducible refine Below.drewN' ?_ _) | (simp; omega) | (simp; done))))))) (by first | exact hl | exact Nat.le_trans (oneI_le _) (by decide)) (by first | exact hl | exact Nat.le_trans (oneI_le _) (by decide))).mono ?_; rintro e w1 ⟨r1, rfl, hown, hbel⟩; obtain ⟨os3, n3, rfl⟩ := Ext.of_below hbel; replace hown : Hid _ := hown; clear hbel))
      all_goals go_ret2
      all_goals exact resP_own (own_ext hown.out (by (exact Ext.of_below (by (repeat' (first | (with_reducible exact Below.refl _ _) | (with_reducible assumption) | (with_reducible refine Below.alloc ?_ ?_ _) | (with_reducible refine Below.wext ?_ ?_ _ _) | (with_reducible refine Below.drew ?_) | (with_reducible refine Below.setCell ?_ ?_ _) | (with_reducible exact Nat.le_refl _) | (with_reducible refine Below.drewN' ?_ _) | (simp; omega) | (simp; done))))))) (by first | (simp; done) | (simp; omega)) (by (exact Ext.of_below (by (repeat' (first | (with_reducible exact Below.refl _ _) | (with_reducible assumption) | (with_reducible refine Below.alloc ?_ ?_ _) | (with_reducible refine Below.wext ?_ ?_ _ _) | (with_reducible refine Below.drew ?_) | (with_reducible refine Below.setCell ?_ ?_ _) | (with_reducible exact Nat.le_refl _) | (with_reducible refine Below.drewN' ?_ _) | (simp; omega) | (simp; done))))))
  · have e1 : (chkI s != 0) = true := by simp [h0]
    have HE : Hid (errI s f t = chkI s) := errI_c h0
    have HN : Hid (chkI s ≠ 0) := h0
    rw [HE.out, if_neg h0]
    clear h0
    go_enter Try.func22, Try.ntmps22
    go_upto_region 9999 with (first | (go_at_call 13; refine (chk_any s v _ (HV.out.ext (by (exact Ext.of_below (by (repeat' (first | (with_reducible exact Below.refl _ _) | (with_reducible assumption) | (with_reducible refine Below.alloc ?_ ?_ _) | (with_reducible refine Below.wext ?_ ?_ _ _) | (with_reducible refine Below.drew ?_) | (with_reducible refine Below.setCell ?_ ?_ _) | (with_reducible exact Nat.le_refl _) | (with_reducible refine Below.drewN' ?_ _) | (simp; omega) | (simp; done)))))))).mono ?_; rintro e w1 ⟨rfl, os1, n1, rfl⟩))
    all_goals go_ret2
    all_goals exact resP_nil (by (exact Ext.of_below (by (repeat' (first | (with_reducible exact Below.refl _ _) | (with_reducible assumption) | (with_reducible refine Below.alloc ?_ ?_ _) | (with_reducible refine Below.wext ?_ ?_ _ _) | (with_reducible refine Below.drew ?_) | (with_reducible refine Below.setCell ?_ ?_ _) | (with_reducible exact Nat.le_refl _) | (with_reducible refine Below.drewN' ?_ _) | (simp; omega) | (simp; done))))))

end Go.Proofs.Ytlboakmiopnifaa
