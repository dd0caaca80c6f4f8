/- Layer 02: the laws IntervalEdits, IntervalOperations, IntervalGaps. -/
import Derived.Test.YtlboakmiopnifaaIwd
set_option linter.unusedSimpArgs false
set_option linter.unusedVariables false
namespace Go.Proofs.Ytlboakmiopnifaa
open Go.RowKit

theorem few_t {a b : Option Addr} {n m c d : Nat} (h1 : n ≤ 12) (h2 : m ≤ 12) (w : World) : Calls Try.prog 11 #[.slice a n c, .slice b m d] w fun e w' => e = .returned (.bool true) ∧ Ext w w' := by
  have := few2_any a b n m c d w
  rw [show (decide ((n : Int) ≤ 12) && decide ((m : Int) ≤ 12)) = true by simp; omega] at this
  exact this
theorem few_f {a b : Option Addr} {n m c d : Nat} (h : ¬ (n ≤ 12 ∧ m ≤ 12)) (w : World) : Calls Try.prog 11 #[.slice a n c, .slice b m d] w fun e w' => e = .returned (.bool false) ∧ Ext w w' := by
  have := few2_any a b n m c d w
  rw [show (decide ((n : Int) ≤ 12) && decide ((m : Int) ≤ 12)) = false by simp; omega] at this
  exact this
theorem errI_ok {s : List (Int × Int)} {f t : Int} (h : errI s f t = 0) : chkI s = 0 ∧ f ≤ t := by
  unfold errI at h
  split at h
  · rename_i h0
    split at h
    · simp at h
    · exact ⟨h0, by omega⟩
  · contradiction
theorem bothI_ok {a b : List (Int × Int)} (h : bothI a b = 0) : chkI a = 0 ∧ chkI b = 0 := by
  unfold bothI at h
  split at h
  · rename_i h0; exact ⟨h0, h⟩
  · contradiction
theorem add_eq (s : List (Int × Int)) (f t : Int) : (if errI s f t = 0 then combI s (oneI (f, t)) 0 else []) = (if errI s f t = 0 then uniL s (oneI (f, t)) else []) := by
  split
  · rename_i h
    obtain ⟨h1, h2⟩ := errI_ok h
    exact (uni_comb ((chkI_asc s).1 h1) (one_asc h2)).symm
  · rfl
theorem rem_eq (s : List (Int × Int)) (f t : Int) : (if errI s f t = 0 then combI s (oneI (f, t)) 2 else []) = (if errI s f t = 0 then cutI s (oneI (f, t)) else []) := by
  split
  · rename_i h
    obtain ⟨h1, h2⟩ := errI_ok h
    exact (cut_comb ((chkI_asc s).1 h1) (one_asc h2)).symm
  · rfl
theorem gaps_eq (s : List (Int × Int)) (f t : Int) : (if errI s f t = 0 then combI (oneI (f, t)) s 2 else []) = (if errI s f t = 0 then cutI (oneI (f, t)) s else []) := by
  split
  · rename_i h
    obtain ⟨h1, h2⟩ := errI_ok h
    exact (cut_comb (one_asc h2) ((chkI_asc s).1 h1)).symm
  · rfl
theorem fg_eq (s : List (Int × Int)) (lo hi n : Int) : fgI s lo hi n (combI (oneI (lo, hi)) s 2) = fgI s lo hi n (cutI (oneI (lo, hi)) s) := by
  unfold fgI
  split
  · rename_i h
    split
    · rfl
    · rw [cut_comb (one_asc (by omega)) ((chkI_asc s).1 h)]
  · rfl
theorem uni_eq (a b : List (Int × Int)) : (if bothI a b = 0 then combI a b 0 else []) = (if bothI a b = 0 then uniL a b else []) := by
  split
  · rename_i h
    obtain ⟨h1, h2⟩ := bothI_ok h
    exact (uni_comb ((chkI_asc a).1 h1) ((chkI_asc b).1 h2)).symm
  · rfl
theorem int_eq (a b : List (Int × Int)) : (if bothI a b = 0 then combI a b 1 else []) = (if bothI a b = 0 then intI a b else []) := by
  split
  · rename_i h
    obtain ⟨h1, h2⟩ := bothI_ok h
    exact (int_comb ((chkI_asc a).1 h1) ((chkI_asc b).1 h2)).symm
  · rfl
theorem sub_eq (a b : List (Int × Int)) : (if bothI a b = 0 then combI a b 2 else []) = (if bothI a b = 0 then cutI a b else []) := by
  split
  · rename_i h
    obtain ⟨h1, h2⟩ := bothI_ok h
    exact (cut_comb ((chkI_asc a).1 h1) ((chkI_asc b).1 h2)).symm
  · rfl

theorem add_v {f t : Int} {s : List (Int × Int)} {A : List (Int × Int)} {x : Int} (hA : (if errI s f t = 0 then uniL s (oneI (f, t)) else []) = A) (hx : errI s f t = x) (v : Value) (w : World) (hv : isSl w v 2 s.length (ivF s)) (hl : s.length ≤ 12) :
    Calls Try.prog 17 #[v, .agg #[.int .i64 f, .int .i64 t]] w (resP w.heap.size A x w) := by
  subst hA hx
  exact add_any s f t v w hv (by omega)

theorem radd_v {f t : Int} {s : List (Int × Int)} {A : List (Int × Int)} {x : Int} (hA : (if errI s f t = 0 then uniL s (oneI (f, t)) else []) = A) (hx : errI s f t = x) (v : Value) (w : World) (hv : isSl w v 2 s.length (ivF s)) (hl : s.length ≤ 12) :
    Calls Try.prog 19 #[v, .agg #[.int .i64 f, .int .i64 t]] w (resP w.heap.size A x w) := by
  subst hA hx
  have := radd_any s f t v w hv (by omega)
  rw [add_eq] at this
  exact this

theorem rem_v {f t : Int} {s : List (Int × Int)} {A : List (Int × Int)} {x : Int} (hA : (if errI s f t = 0 then cutI s (oneI (f, t)) else []) = A) (hx : errI s f t = x) (v : Value) (w : World) (hv : isSl w v 2 s.length (ivF s)) (hl : s.length ≤ 12) :
    Calls Try.prog 18 #[v, .agg #[.int .i64 f, .int .i64 t]] w (resP w.heap.size A x w) := by
  subst hA hx
  exact rem_any s f t v w hv (by omega)

theorem rrem_v {f t : Int} {s : List (Int × Int)} {A : List (Int × Int)} {x : Int} (hA : (if errI s f t = 0 then cutI s (oneI (f, t)) else []) = A) (hx : errI s f t = x) (v : Value) (w : World) (hv : isSl w v 2 s.length (ivF s)) (hl : s.length ≤ 12) :
    Calls Try.prog 20 #[v, .agg #[.int .i64 f, .int .i64 t]] w (resP w.heap.size A x w) := by
  subst hA hx
  have := rrem_any s f t v w hv (by omega)
  rw [rem_eq] at this
  exact this

theorem gaps_v {f t : Int} {s : List (Int × Int)} {A : List (Int × Int)} {x : Int} (hA : (if errI s f t = 0 then cutI (oneI (f, t)) s else []) = A) (hx : errI s f t = x) (v : Value) (w : World) (hv : isSl w v 2 s.length (ivF s)) (hl : s.length ≤ 12) :
    Calls Try.prog 22 #[v, .int .i64 f, .int .i64 t] w (resP w.heap.size A x w) := by
  subst hA hx
  exact gaps_any s f t v w hv (by omega)

theorem rgaps_v {f t : Int} {s : List (Int × Int)} {A : List (Int × Int)} {x : Int} (hA : (if errI s f t = 0 then cutI (oneI (f, t)) s else []) = A) (hx : errI s f t = x) (v : Value) (w : World) (hv : isSl w v 2 s.length (ivF s)) (hl : s.length ≤ 12) :
    Calls Try.prog 23 #[v, .int .i64 f, .int .i64 t] w (resP w.heap.size A x w) := by
  subst hA hx
  have := rgaps_any s f t v w hv (by omega)
  rw [gaps_eq] at this
  exact this

theorem uni_v {a b A : List (Int × Int)} {x : Int} (hA : (if bothI a b = 0 then uniL a b else []) = A) (hx : bothI a b = x) (v u : Value) (w : World) (hv : isSl w v 2 a.length (ivF a)) (hu : isSl w u 2 b.length (ivF b)) (hla : a.length ≤ 60) (hlb : b.length ≤ 60) :
    Calls Try.prog 28 #[v, u] w (resP w.heap.size A x w) := by
  subst hA hx
  exact uni_any a b v u w hv hu (by omega)

theorem int_v {a b A : List (Int × Int)} {x : Int} (hA : (if bothI a b = 0 then intI a b else []) = A) (hx : bothI a b = x) (v u : Value) (w : World) (hv : isSl w v 2 a.length (ivF a)) (hu : isSl w u 2 b.length (ivF b)) (hla : a.length ≤ 60) (hlb : b.length ≤ 60) :
    Calls Try.prog 29 #[v, u] w (resP w.heap.size A x w) := by
  subst hA hx
  exact int_any a b v u w hv hu (by omega)

theorem sub_v {a b A : List (Int × Int)} {x : Int} (hA : (if bothI a b = 0 then cutI a b else []) = A) (hx : bothI a b = x) (v u : Value) (w : World) (hv : isSl w v 2 a.length (ivF a)) (hu : isSl w u 2 b.length (ivF b)) (hla : a.length ≤ 60) (hlb : b.length ≤ 60) :
    Calls Try.prog 30 #[v, u] w (resP w.heap.size A x w) := by
  subst hA hx
  exact sub_any a b v u w hv hu (by omega) (by omega)

theorem runi_v {a b A : List (Int × Int)} {x : Int} (hA : (if bothI a b = 0 then uniL a b else []) = A) (hx : bothI a b = x) (v u : Value) (w : World) (hv : isSl w v 2 a.length (ivF a)) (hu : isSl w u 2 b.length (ivF b)) (hla : a.length ≤ 60) (hlb : b.length ≤ 60) :
    Calls Try.prog 31 #[v, u] w (resP w.heap.size A x w) := by
  subst hA hx
  have := runi_any a b v u w hv hu (by omega) (by omega)
  rw [uni_eq] at this
  exact this

theorem rint_v {a b A : List (Int × Int)} {x : Int} (hA : (if bothI a b = 0 then intI a b else []) = A) (hx : bothI a b = x) (v u : Value) (w : World) (hv : isSl w v 2 a.length (ivF a)) (hu : isSl w u 2 b.length (ivF b)) (hla : a.length ≤ 60) (hlb : b.length ≤ 60) :
    Calls Try.prog 32 #[v, u] w (resP w.heap.size A x w) := by
  subst hA hx
  have := rint_any a b v u w hv hu (by omega) (by omega)
  rw [int_eq] at this
  exact this

theorem rsub_v {a b A : List (Int × Int)} {x : Int} (hA : (if bothI a b = 0 then cutI a b else []) = A) (hx : bothI a b = x) (v u : Value) (w : World) (hv : isSl w v 2 a.length (ivF a)) (hu : isSl w u 2 b.length (ivF b)) (hla : a.length ≤ 60) (hlb : b.length ≤ 60) :
    Calls Try.prog 33 #[v, u] w (resP w.heap.size A x w) := by
  subst hA hx
  have := rsub_any a b v u w hv hu (by omega) (by omega)
  rw [sub_eq] at this
  exact this

set_option maxRecDepth 100000 in
set_option maxHeartbeats 8000000 in
theorem edits_ok (s : List (Int × Int)) (f t : Int) (a : Option Addr) (c : Nat) (w : World) (h : isSl w (.slice a s.length c) 2 s.length (ivF s)) :
    Calls Try.prog 4 #[.slice a s.length c, .agg #[.int .i64 f, .int .i64 t]] w fun e w' => e = .returned (.bool true) ∧ Ext w w' := by
  have HV : Hid (isSl w (.slice a s.length c) 2 s.length (ivF s)) := h
  clear h
  by_cases hl : s.length ≤ 12
  · obtain ⟨x, hx⟩ : ∃ x, errI s f t = x := ⟨_, rfl⟩
    obtain ⟨A, hA⟩ : ∃ A, (if errI s f t = 0 then uniL s (oneI (f, t)) else []) = A := ⟨_, rfl⟩
    obtain ⟨B, hB⟩ : ∃ B, (if errI s f t = 0 then cutI s (oneI (f, t)) else []) = B := ⟨_, rfl⟩
    replace hx : Hid _ := hx
    replace hA : Hid _ := hA
    replace hB : Hid _ := hB
    go_enter Try.func4, Try.ntmps4
    go_upto_region 9999 with (first | (go_at_call 11; refine (few_t (by first | omega | (simp; omega)) (by first | omega | (simp; omega)) _).mono ?_; rintro e w1 ⟨rfl, osF, nF_, rfl⟩) | (go_at_call 17; refine (add_v hA.out hx.out _ _ (HV.out.ext (by (exact Ext.of_below (by (repeat' (first | (with_reducible exact Below.refl _ _) | (with_reducible assumption) | (with_reducible refine Below.alloc ?_ ?_ _) | (with_reducible refine Below.wext ?_ ?_ _ _) | (with_reducible refine Below.drew ?_) | (with_reducible refine Below.setCell ?_ ?_ _) | (with_reducible exact Nat.le_refl _) | (with_reducible refine Below.drewN' ?_ _) | (simp; omega) | (simp; done))))))) hl).mono ?_; rintro e w1 ⟨r1, rfl, hown, hbel⟩; obtain ⟨os_r1, n_r1, rfl⟩ := Ext.of_below hbel; have Hr1 : Hid (isSl _ r1 2 (A : List (Int × Int)).length (ivF A)) := isSl_of_own hown; clear hown hbel) | (go_at_call 18; refine (rem_v hB.out hx.out _ _ (HV.out.ext (by (exact Ext.of_below (by (repeat' (first | (with_reducible exact Below.refl _ _) | (with_reducible assumption) | (with_reducible refine Below.alloc ?_ ?_ _) | (with_reducible refine Below.wext ?_ ?_ _ _) | (with_reducible refine Below.drew ?_) | (with_reducible refine Below.setCell ?_ ?_ _) | (with_reducible exact Nat.le_refl _) | (with_reducible refine Below.drewN' ?_ _) | (simp; omega) | (simp; done))))))) hl).mono ?_; rintro e w1 ⟨r2, rfl, hown, hbel⟩; obtain ⟨os_r2, n_r2, rfl⟩ := Ext.of_below hbel; have Hr2 : Hid (isSl _ r2 2 (B : List (Int × Int)).length (ivF B)) := isSl_of_own hown; clear hown hbel) | (go_at_call 19; refine (radd_v hA.out hx.out _ _ (HV.out.ext (by (exact Ext.of_below (by (repeat' (first | (with_reducible exact Below.refl _ _) | (with_reducible assumption) | (with_reducible refine Below.alloc ?_ ?_ _) | (with_reducible refine Below.wext ?_ ?_ _ _) | (with_reducible refine Below.drew ?_) | (with_reducible refine Below.setCell ?_ ?_ _) | (with_reducible exact Nat.le_refl _) | (with_reducible refine Below.drewN' ?_ _) | (simp; omega) | (simp; done))))))) hl).mono ?_; rintro e w1 ⟨r3, rfl, hown, hbel⟩; obtain ⟨os_r3, n_r3, rfl⟩ := Ext.of_below hbel; have Hr3 : Hid (isSl _ r3 2 (A : List (Int × Int)).length (ivF A)) := isSl_of_own hown; clear hown hbel) | (go_at_call 20; refine (rrem_v hB.out hx.out _ _ (HV.out.ext (by (exact Ext.of_below (by (repeat' (first | (with_reducible exact Below.refl _ _) | (with_reducible assumption) | (with_reducible refine Below.alloc ?_ ?_ _) | (with_reducible refine Below.wext ?_ ?_ _ _) | (with_reducible refine Below.drew ?_) | (with_reducible refine Below.setCell ?_ ?_ _) | (with_reducible exact Nat.le_refl _) | (with_reducible refine Below.drewN' ?_ _) | (simp; omega) | (simp; done))))))) hl).mono ?_; rintro e w1 ⟨r4, rfl, hown, hbel⟩; obtain ⟨os_r4, n_r4, rfl⟩ := Ext.of_below hbel; have Hr4 : Hid (isSl _ r4 2 (B : List (Int × Int)).length (ivF B)) := isSl_of_own hown; clear hown hbel) | (go_at_call_of 21 r1; refine (same_c A r1 r3 _ (isSl.ext Hr1.out (by (exact Ext.of_below (by (repeat' (first | (with_reducible exact Below.refl _ _) | (with_reducible assumption) | (with_reducible refine Below.alloc ?_ ?_ _) | (with_reducible refine Below.wext ?_ ?_ _ _) | (with_reducible refine Below.drew ?_) | (with_reducible refine Below.setCell ?_ ?_ _) | (with_reducible exact Nat.le_refl _) | (with_reducible refine Below.drewN' ?_ _) | (simp; omega) | (simp; done))))))) (isSl.ext Hr3.out (by (exact Ext.of_below (by (repeat' (first | (with_reducible exact Below.refl _ _) | (with_reducible assumption) | (with_reducible refine Below.alloc ?_ ?_ _) | (with_reducible refine Below.wext ?_ ?_ _ _) | (with_reducible refine Below.drew ?_) | (with_reducible refine Below.setCell ?_ ?_ _) | (with_reducible exact Nat.le_refl _) | (with_reducible refine Below.drewN' ?_ _) | (simp; omega) | (simp; done)))))))).mono ?_; rintro e w1 ⟨rfl, os_v, n_v, rfl⟩) | (go_at_call_of 21 r2; refine (same_c B r2 r4 _ (isSl.ext Hr2.out (by (exact Ext.of_below (by (repeat' (first | (with_reducible exact Below.refl _ _) | (with_reducible assumption) | (with_reducible refine Below.alloc ?_ ?_ _) | (with_reducible refine Below.wext ?_ ?_ _ _) | (with_reducible refine Below.drew ?_) | (with_reducible refine Below.setCell ?_ ?_ _) | (with_reducible exact Nat.le_refl _) | (with_reducible refine Below.drewN' ?_ _) | (simp; omega) | (simp; done))))))) (isSl.ext Hr4.out (by (exact Ext.of_below (by (repeat' (first | (with_reducible exact Below.refl _ _) | (with_reducible assumption) | (with_reducible refine Below.alloc ?_ ?_ _) | (with_reducible refine Below.wext ?_ ?_ _ _) | (with_reducible refine Below.drew ?_) | (with_reducible refine Below.setCell ?_ ?_ _) | (with_reducible exact Nat.le_refl _) | (with_reducible refine Below.drewN' ?_ _) | (simp; omega) | (simp; done)))))))).mono ?_; rintro e w1 ⟨rfl, os_v, n_v, rfl⟩) | (go_at_call 12; refine (awake_ok _).mono ?_; rintro e w1 ⟨rfl, osW, nW, rfl⟩))
    all_goals go_ret
    all_goals exact ⟨rfl, by (exact Ext.of_below (by (repeat' (first | (with_reducible exact Below.refl _ _) | (with_reducible assumption) | (with_reducible refine Below.alloc ?_ ?_ _) | (with_reducible refine Below.wext ?_ ?_ _ _) | (with_reducible refine Below.drew ?_) | (with_reducible refine Below.setCell ?_ ?_ _) | (with_reducible exact Nat.le_refl _) | (with_reducible refine Below.drewN' ?_ _) | (simp; omega) | (simp; done)))))⟩
  · have hl' : 12 < s.length := by omega
    clear hl
    go_enter Try.func4, Try.ntmps4
    go_upto_region 9999 with (first | (go_at_call 11; refine (few_f (by first | omega | (simp; omega)) _).mono ?_; rintro e w1 ⟨rfl, osF, nF_, rfl⟩) | (go_at_call 12; refine (awake_ok _).mono ?_; rintro e w1 ⟨rfl, osW, nW, rfl⟩))
    all_goals go_ret
    all_goals exact ⟨rfl, by (exact Ext.of_below (by (repeat' (first | (with_reducible exact Below.refl _ _) | (with_reducible assumption) | (with_reducible refine Below.alloc ?_ ?_ _) | (with_reducible refine Below.wext ?_ ?_ _ _) | (with_reducible refine Below.drew ?_) | (with_reducible refine Below.setCell ?_ ?_ _) | (with_reducible exact Nat.le_refl _) | (with_reducible refine Below.drewN' ?_ _) | (simp; omega) | (simp; done)))))⟩

set_option maxRecDepth 100000 in
set_option maxHeartbeats 8000000 in
theorem opers_ok (a b : List (Int × Int)) (ad bd : Option Addr) (c d : Nat) (w : World) (h : isSl w (.slice ad a.length c) 2 a.length (ivF a)) (h2 : isSl w (.slice bd b.length d) 2 b.length (ivF b)) :
    Calls Try.prog 7 #[.slice ad a.length c, .slice bd b.length d] w fun e w' => e = .returned (.bool true) ∧ Ext w w' := by
  have HV : Hid (isSl w (.slice ad a.length c) 2 a.length (ivF a)) := h
  have HU : Hid (isSl w (.slice bd b.length d) 2 b.length (ivF b)) := h2
  clear h h2
  by_cases hl : a.length ≤ 12 ∧ b.length ≤ 12
  · obtain ⟨hl1, hl2⟩ := hl
    have hl3 : a.length ≤ 60 := by omega
    have hl4 : b.length ≤ 60 := by omega
    obtain ⟨x, hx⟩ : ∃ x, bothI a b = x := ⟨_, rfl⟩
    obtain ⟨A, hA⟩ : ∃ A, (if bothI a b = 0 then uniL a b else []) = A := ⟨_, rfl⟩
    obtain ⟨B, hB⟩ : ∃ B, (if bothI a b = 0 then intI a b else []) = B := ⟨_, rfl⟩
    obtain ⟨C, hC⟩ : ∃ C, (if bothI a b = 0 then cutI a b else []) = C := ⟨_, rfl⟩
    replace hx : Hid _ := hx
    replace hA : Hid _ := hA
    replace hB : Hid _ := hB
    replace hC : Hid _ := hC
    go_enter Try.func7, Try.ntmps7
    go_upto_region 9999 with (first | (go_at_call 11; refine (few_t (by first | omega | (simp; omega)) (by first | omega | (simp; omega)) _).mono ?_; rintro e w1 ⟨rfl, osF, nF_, rfl⟩) | (go_at_call 28; refine (uni_v hA.out hx.out _ _ _ (HV.out.ext (by (exact Ext.of_below (by (repeat' (first | (with_reducible exact Below.refl _ _) | (with_reducible assumption) | (with_reducible refine Below.alloc ?_ ?_ _) | (with_reducible refine Below.wext ?_ ?_ _ _) | (with_reducible refine Below.drew ?_) | (with_reducible refine Below.setCell ?_ ?_ _) | (with_reducible exact Nat.le_refl _) | (with_reducible refine Below.drewN' ?_ _) | (simp; omega) | (simp; done))))))) (HU.out.ext (by (exact Ext.of_below (by (repeat' (first | (with_reducible exact Below.refl _ _) | (with_reducible assumption) | (with_reducible refine Below.alloc ?_ ?_ _) | (with_reducible refine Below.wext ?_ ?_ _ _) | (with_reducible refine Below.drew ?_) | (with_reducible refine Below.setCell ?_ ?_ _) | (with_reducible exact Nat.le_refl _) | (with_reducible refine Below.drewN' ?_ _) | (simp; omega) | (simp; done))))))) hl3 hl4).mono ?_; rintro e w1 ⟨r1, rfl, hown, hbel⟩; obtain ⟨os_r1, n_r1, rfl⟩ := Ext.of_below hbel; have Hr1 : Hid (isSl _ r1 2 (A : List (Int × Int)).length (ivF A)) := isSl_of_own hown; clear hown hbel) | (go_at_call 29; refine (int_v hB.out hx.out _ _ _ (HV.out.ext (by (exact Ext.of_below (by (repeat' (first | (with_reducible exact Below.refl _ _) | (with_reducible assumption) | (with_reducible refine Below.alloc ?_ ?_ _) | (with_reducible refine Below.wext ?_ ?_ _ _) | (with_reducible refine Below.drew ?_) | (with_reducible refine Below.setCell ?_ ?_ _) | (with_reducible exact Nat.le_refl _) | (with_reducible refine Below.drewN' ?_ _) | (simp; omega) | (simp; done))))))) (HU.out.ext (by (exact Ext.of_below (by (repeat' (first | (with_reducible exact Below.refl _ _) | (with_reducible assumption) | (with_reducible refine Below.alloc ?_ ?_ _) | (with_reducible refine Below.wext ?_ ?_ _ _) | (with_reducible refine Below.drew ?_) | (with_reducible refine Below.setCell ?_ ?_ _) | (with_reducible exact Nat.le_refl _) | (with_reducible refine Below.drewN' ?_ _) | (simp; omega) | (simp; done))))))) hl3 hl4).mono ?_; rintro e w1 ⟨r2, rfl, hown, hbel⟩; obtain ⟨os_r2, n_r2, rfl⟩ := Ext.of_below hbel; have Hr2 : Hid (isSl _ r2 2 (B : List (Int × Int)).length (ivF B)) := isSl_of_own hown; clear hown hbel) | (go_at_call 30; refine (sub_v hC.out hx.out _ _ _ (HV.out.ext (by (exact Ext.of_below (by (repeat' (first | (with_reducible exact Below.refl _ _) | (with_reducible assumption) | (with_reducible refine Below.alloc ?_ ?_ _) | (with_reducible refine Below.wext ?_ ?_ _ _) | (with_reducible refine Below.drew ?_) | (with_reducible refine Below.setCell ?_ ?_ _) | (with_reducible exact Nat.le_refl _) | (with_reducible refine Below.drewN' ?_ _) | (simp; omega) | (simp; done))))))) (HU.out.ext (by (exact Ext.of_below (by (repeat' (first | (with_reducible exact Below.refl _ _) | (with_reducible assumption) | (with_reducible refine Below.alloc ?_ ?_ _) | (with_reducible refine Below.wext ?_ ?_ _ _) | (with_reducible refine Below.drew ?_) | (with_reducible refine Below.setCell ?_ ?_ _) | (with_reducible exact Nat.le_refl _) | (with_reducible refine Below.drewN' ?_ _) | (simp; omega) | (simp; done))))))) hl3 hl4).mono ?_; rintro e w1 ⟨r3, rfl, hown, hbel⟩; obtain ⟨os_r3, n_r3, rfl⟩ := Ext.of_below hbel; have Hr3 : Hid (isSl _ r3 2 (C : List (Int × Int)).length (ivF C)) := isSl_of_own hown; clear hown hbel) | (go_at_call 31; refine (runi_v hA.out hx.out _ _ _ (HV.out.ext (by (exact Ext.of_below (by (repeat' (first | (with_reducible exact Below.refl _ _) | (with_reducible assumption) | (with_reducible refine Below.alloc ?_ ?_ _) | (with_reducible refine Below.wext ?_ ?_ _ _) | (with_reducible refine Below.drew ?_) | (with_reducible refine Below.setCell ?_ ?_ _) | (with_reducible exact Nat.le_refl _) | (with_reducible refine Below.drewN' ?_ _) | (simp; omega) | (simp; done))))))) (HU.out.ext (by (exact Ext.of_below (by (repeat' (first | (with_reducible exact Below.refl _ _) | (with_reducible assumption) | (with_reducible refine Below.alloc ?_ ?_ _) | (with_reducible refine Below.wext ?_ ?_ _ _) | (with_reducible refine Below.drew ?_) | (with_reducible refine Below.setCell ?_ ?_ _) | (with_reducible exact Nat.le_refl _) | (with_reducible refine Below.drewN' ?_ _) | (simp; omega) | (simp; done))))))) hl3 hl4).mono ?_; rintro e w1 ⟨r4, rfl, hown, hbel⟩; obtain ⟨os_r4, n_r4, rfl⟩ := Ext.of_below hbel; have Hr4 : Hid (isSl _ r4 2 (A : List (Int × Int)).length (ivF A)) := isSl_of_own hown; clear hown hbel) | (go_at_call 32; refine (rint_v hB.out hx.out _ _ _ (HV.out.ext (by (exact Ext.of_below (by (repeat' (first | (with_reducible exact Below.refl _ _) | (with_reducible assumption) | (with_reducible refine Below.alloc ?_ ?_ _) | (with_reducible refine Below.wext ?_ ?_ _ _) | (with_reducible refine Below.drew ?_) | (with_reducible refine Below.setCell ?_ ?_ _) | (with_reducible exact Nat.le_refl _) | (with_reducible refine Below.drewN' ?_ _) | (simp; omega) | (simp; done))))))) (HU.out.ext (by (exact Ext.of_below (by (repeat' (first | (with_reducible exact Below.refl _ _) | (with_reducible assumption) | (with_reducible refine Below.alloc ?_ ?_ _) | (with_reducible refine Below.wext ?_ ?_ _ _) | (with_reducible refine Below.drew ?_) | (with_reducible refine Below.setCell ?_ ?_ _) | (with_reducible exact Nat.le_refl _) | (with_reducible refine Below.drewN' ?_ _) | (simp; omega) | (simp; done))))))) hl3 hl4).mono ?_; rintro e w1 ⟨r5, rfl, hown, hbel⟩; obtain ⟨os_r5, n_r5, rfl⟩ := Ext.of_below hbel; have Hr5 : Hid (isSl _ r5 2 (B : List (Int × Int)).length (ivF B)) := isSl_of_own hown; clear hown hbel) | (go_at_call 33; refine (rsub_v hC.out hx.out _ _ _ (HV.out.ext (by (exact Ext.of_below (by (repeat' (first | (with_reducible exact Below.refl _ _) | (with_reducible assumption) | (with_reducible refine Below.alloc ?_ ?_ _) | (with_reducible refine Below.wext ?_ ?_ _ _) | (with_reducible refine Below.drew ?_) | (with_reducible refine Below.setCell ?_ ?_ _) | (with_reducible exact Nat.le_refl _) | (with_reducible refine Below.drewN' ?_ _) | (simp; omega) | (simp; done))))))) (HU.out.ext (by (exact Ext.of_below (by (repeat' (first | (with_reducible exact Below.refl _ _) | (with_reducible assumption) | (with_reducible refine Below.alloc ?_ ?_ _) | (with_reducible refine Below.wext ?_ ?_ _ _) | (with_reducible refine Below.drew ?_) | (with_reducible refine Below.setCell ?_ ?_ _) | (with_reducible exact Nat.le_refl _) | (with_reducible refine Below.drewN' ?_ _) | (simp; omega) | (simp; done))))))) hl3 hl4).mono ?_; rintro e w1 ⟨r6, rfl, hown, hbel⟩; obtain ⟨os_r6, n_r6, rfl⟩ := Ext.of_below hbel; have Hr6 : Hid (isSl _ r6 2 (C : List (Int × Int)).length (ivF C)) := isSl_of_own hown; clear hown hbel) | (go_at_call_of 21 r1; refine (same_c A r1 r4 _ (isSl.ext Hr1.out (by (exact Ext.of_below (by (repeat' (first | (with_reducible exact Below.refl _ _) | (with_reducible assumption) | (with_reducible refine Below.alloc ?_ ?_ _) | (with_reducible refine Below.wext ?_ ?_ _ _) | (with_reducible refine Below.drew ?_) | (with_reducible refine Below.setCell ?_ ?_ _) | (with_reducible exact Nat.le_refl _) | (with_reducible refine Below.drewN' ?_ _) | (simp; omega) | (simp; done))))))) (isSl.ext Hr4.out (by (exact Ext.of_below (by (repeat' (first | (with_reducible exact Below.refl _ _) | (with_reducible assumption) | (with_reducible refine Below.alloc ?_ ?_ _) | (with_reducible refine Below.wext ?_ ?_ _ _) | (with_reducible refine Below.drew ?_) | (with_reducible refine Below.setCell ?_ ?_ _) | (with_reducible exact Nat.le_refl _) | (with_reducible refine Below.drewN' ?_ _) | (simp; omega) | (simp; done)))))))).mono ?_; rintro e w1 ⟨rfl, os_v, n_v, rfl⟩) | (go_at_call_of 21 r2; refine (same_c B r2 r5 _ (isSl.ext Hr2.out (by (exact Ext.of_below (by (repeat' (first | (with_reducible exact Below.refl _ _) | (with_reducible assumption) | (with_reducible refine Below.alloc ?_ ?_ _) | (with_reducible refine Below.wext ?_ ?_ _ _) | (with_reducible refine Below.drew ?_) | (with_reducible refine Below.setCell ?_ ?_ _) | (with_reducible exact Nat.le_refl _) | (with_reducible refine Below.drewN' ?_ _) | (simp; omega) | (simp; done))))))) (isSl.ext Hr5.out (by (exact Ext.of_below (by (repeat' (first | (with_reducible exact Below.refl _ _) | (with_reducible assumption) | (with_reducible refine Below.alloc ?_ ?_ _) | (with_reducible refine Below.wext ?_ ?_ _ _) | (with_reducible refine Below.drew ?_) | (with_reducible refine Below.setCell ?_ ?_ _) | (with_reducible exact Nat.le_refl _) | (with_reducible refine Below.drewN' ?_ _) | (simp; omega) | (simp; done)))))))).mono ?_; rintro e w1 ⟨rfl, os_v, n_v, rfl⟩) | (go_at_call_of 21 r3; refine (same_c C r3 r6 _ (isSl.ext Hr3.out (by (exact Ext.of_below (by (repeat' (first | (with_reducible exact Below.refl _ _) | (with_reducible assumption) | (with_reducible refine Below.alloc ?_ ?_ _) | (with_reducible refine Below.wext ?_ ?_ _ _) | (with_reducible refine Below.drew ?_) | (with_reducible refine Below.setCell ?_ ?_ _) | (with_reducible exact Nat.le_refl _) | (with_reducible refine Below.drewN' ?_ _) | (simp; omega) | (simp; done))))))) (isSl.ext Hr6.out (by (exact Ext.of_below (by (repeat' (first | (with_reducible exact Below.refl _ _) | (with_reducible assumption) | (with_reducible refine Below.alloc ?_ ?_ _) | (with_reducible refine Below.wext ?_ ?_ _ _) | (with_reducible refine Below.drew ?_) | (with_reducible refine Below.setCell ?_ ?_ _) | (with_reducible exact Nat.le_refl _) | (with_reducible refine Below.drewN' ?_ _) | (simp; omega) | (simp; done)))))))).mono ?_; rintro e w1 ⟨rfl, os_v, n_v, rfl⟩) | (go_at_call 12; refine (awake_ok _).mono ?_; rintro e w1 ⟨rfl, osW, nW, rfl⟩))
    all_goals go_ret
    all_goals exact ⟨rfl, by (exact Ext.of_below (by (repeat' (first | (with_reducible exact Below.refl _ _) | (with_reducible assumption) | (with_reducible refine Below.alloc ?_ ?_ _) | (with_reducible refine Below.wext ?_ ?_ _ _) | (with_reducible refine Below.drew ?_) | (with_reducible refine Below.setCell ?_ ?_ _) | (with_reducible exact Nat.le_refl _) | (with_reducible refine Below.drewN' ?_ _) | (simp; omega) | (simp; done)))))⟩
  · rcases Nat.lt_or_ge 12 a.length with h1 | h1
    · clear hl
      go_enter Try.func7, Try.ntmps7
      go_upto_region 9999 with (first | (go_at_call 11; refine (few_f (by first | omega | (simp; omega)) _).mono ?_; rintro e w1 ⟨rfl, osF, nF_, rfl⟩) | (go_at_call 12; refine (awake_ok _).mono ?_; rintro e w1 ⟨rfl, osW, nW, rfl⟩))
      all_goals go_ret
      all_goals exact ⟨rfl, by (exact Ext.of_below (by (repeat' (first | (with_reducible exact Below.refl _ _) | (with_reducible assumption) | (with_reducible refine Below.alloc ?_ ?_ _) | (with_reducible refine Below.wext ?_ ?_ _ _) | (with_reducible refine Below.drew ?_) | (with_reducible refine Below.setCell ?_ ?_ _) | (with_reducible exact Nat.le_refl _) | (with_reducible refine Below.drewN' ?_ _) | (simp; omega) | (simp; done)))))⟩
    · have h2' : 12 < b.length := by omega
      clear hl
      go_enter Try.func7, Try.ntmps7
      go_upto_region 9999 with (first | (go_at_call 11; refine (few_f (by first | omega | (simp; omega)) _).mono ?_; rintro e w1 ⟨rfl, osF, nF_, rfl⟩) | (go_at_call 12; refine (awake_ok _).mono ?_; rintro e w1 ⟨rfl, osW, nW, rfl⟩))
      all_goals go_ret
      all_goals exact ⟨rfl, by (exact Ext.of_below (by (repeat' (first | (with_reducible exact Below.refl _ _) | (with_reducible assumption) | (with_reducible refine Below.alloc ?_ ?_ _) | (with_reducible refine Below.wext ?_ ?_ _ _) | (with_reducible refine Below.drew ?_) | (with_reducible refine Below.setCell ?_ ?_ _) | (with_reducible exact Nat.le_refl _) | (with_reducible refine Below.drewN' ?_ _) | (simp; omega) | (simp; done)))))⟩

set_option maxRecDepth 100000 in
set_option maxHeartbeats 8000000 in
theorem gaps_ok (s : List (Int × Int)) (f t n : Int) (a : Option Addr) (c : Nat) (w : World) (h : isSl w (.slice a s.length c) 2 s.length (ivF s)) :
    Calls Try.prog 5 #[.slice a s.length c, .agg #[.int .i64 f, .int .i64 t, .int .i64 n]] w fun e w' => e = .returned (.bool true) ∧ Ext w w' := by
  have HV : Hid (isSl w (.slice a s.length c) 2 s.length (ivF s)) := h
  clear h
  by_cases hl : s.length ≤ 12
  · obtain ⟨x, hx⟩ : ∃ x, errI s f t = x := ⟨_, rfl⟩
    obtain ⟨A, hA⟩ : ∃ A, (if errI s f t = 0 then cutI (oneI (f, t)) s else []) = A := ⟨_, rfl⟩
    obtain ⟨⟨g1, g2⟩, hg⟩ : ∃ g, fgI s f t n (cutI (oneI (f, t)) s) = g := ⟨_, rfl⟩
    have hF : Hid (∀ (v : Value) (w : World), isSl w v 2 s.length (ivF s) → Calls Try.prog 24 #[v, .int .i64 f, .int .i64 t, .int .i64 n] w fun e w' => e = .returned (.tuple #[.int .i64 g1, .int .i64 g2]) ∧ Ext w w') := by
      intro v w h
      have := fg_any s f t n v w h (by omega)
      rw [hg] at this
      exact this
    have hG : Hid (∀ (v : Value) (w : World), isSl w v 2 s.length (ivF s) → Calls Try.prog 25 #[v, .int .i64 f, .int .i64 t, .int .i64 n] w fun e w' => e = .returned (.tuple #[.int .i64 g1, .int .i64 g2]) ∧ Ext w w') := by
      intro v w h
      have := rfg_any s f t n v w h (by omega)
      rw [fg_eq, hg] at this
      exact this
    replace hx : Hid _ := hx
    replace hA : Hid _ := hA
    clear hg
    go_enter Try.func5, Try.ntmps5
    go_upto_region 9999 with (first | (go_at_call 11; refine (few_t (by first | omega | (simp; omega)) (by first | omega | (simp; omega)) _).mono ?_; rintro e w1 ⟨rfl, osF, nF_, rfl⟩) | (go_at_call 22; refine (gaps_v hA.out hx.out _ _ (HV.out.ext (by (exact Ext.of_below (by (repeat' (first | (with_reducible exact Below.refl _ _) | (with_reducible assumption) | (with_reducible refine Below.alloc ?_ ?_ _) | (with_reducible refine Below.wext ?_ ?_ _ _) | (with_reducible refine Below.drew ?_) | (with_reducible refine Below.setCell ?_ ?_ _) | (with_reducible exact Nat.le_refl _) | (with_reducible refine Below.drewN' ?_ _) | (simp; omega) | (simp; done))))))) hl).mono ?_; rintro e w1 ⟨r1, rfl, hown, hbel⟩; obtain ⟨os_r1, n_r1, rfl⟩ := Ext.of_below hbel; have Hr1 : Hid (isSl _ r1 2 (A : List (Int × Int)).length (ivF A)) := isSl_of_own hown; clear hown hbel) | (go_at_call 23; refine (rgaps_v hA.out hx.out _ _ (HV.out.ext (by (exact Ext.of_below (by (repeat' (first | (with_reducible exact Below.refl _ _) | (with_reducible assumption) | (with_reducible refine Below.alloc ?_ ?_ _) | (with_reducible refine Below.wext ?_ ?_ _ _) | (with_reducible refine Below.drew ?_) | (with_reducible refine Below.setCell ?_ ?_ _) | (with_reducible exact Nat.le_refl _) | (with_reducible refine Below.drewN' ?_ _) | (simp; omega) | (simp; done))))))) hl).mono ?_; rintro e w1 ⟨r2, rfl, hown, hbel⟩; obtain ⟨os_r2, n_r2, rfl⟩ := Ext.of_below hbel; have Hr2 : Hid (isSl _ r2 2 (A : List (Int × Int)).length (ivF A)) := isSl_of_own hown; clear hown hbel) | (go_at_call 24; refine (hF.out _ _ (HV.out.ext (by (exact Ext.of_below (by (repeat' (first | (with_reducible exact Below.refl _ _) | (with_reducible assumption) | (with_reducible refine Below.alloc ?_ ?_ _) | (with_reducible refine Below.wext ?_ ?_ _ _) | (with_reducible refine Below.drew ?_) | (with_reducible refine Below.setCell ?_ ?_ _) | (with_reducible exact Nat.le_refl _) | (with_reducible refine Below.drewN' ?_ _) | (simp; omega) | (simp; done)))))))).mono ?_; rintro e w1 ⟨rfl, os_v, n_v, rfl⟩) | (go_at_call 25; refine (hG.out _ _ (HV.out.ext (by (exact Ext.of_below (by (repeat' (first | (with_reducible exact Below.refl _ _) | (with_reducible assumption) | (with_reducible refine Below.alloc ?_ ?_ _) | (with_reducible refine Below.wext ?_ ?_ _ _) | (with_reducible refine Below.drew ?_) | (with_reducible refine Below.setCell ?_ ?_ _) | (with_reducible exact Nat.le_refl _) | (with_reducible refine Below.drewN' ?_ _) | (simp; omega) | (simp; done)))))))).mono ?_; rintro e w1 ⟨rfl, os_v, n_v, rfl⟩) | (go_at_call_of 21 r1; refine (same_c A r1 r2 _ (isSl.ext Hr1.out (by (exact Ext.of_below (by (repeat' (first | (with_reducible exact Below.refl _ _) | (with_reducible assumption) | (with_reducible refine Below.alloc ?_ ?_ _) | (with_reducible refine Below.wext ?_ ?_ _ _) | (with_reducible refine Below.drew ?_) | (with_reducible refine Below.setCell ?_ ?_ _) | (with_reducible exact Nat.le_refl _) | (with_reducible refine Below.drewN' ?_ _) | (simp; omega) | (simp; done))))))) (isSl.ext Hr2.out (by (exact Ext.of_below (by (repeat' (first | (with_reducible exact Below.refl _ _) | (with_reducible assumption) | (with_reducible refine Below.alloc ?_ ?_ _) | (with_reducible refine Below.wext ?_ ?_ _ _) | (with_reducible refine Below.drew ?_) | (with_reducible refine Below.setCell ?_ ?_ _) | (with_reducible exact Nat.le_refl _) | (with_reducible refine Below.drewN' ?_ _) | (simp; omega) | (simp; done)))))))).mono ?_; rintro e w1 ⟨rfl, os_v, n_v, rfl⟩) | (go_at_call 12; refine (awake_ok _).mono ?_; rintro e w1 ⟨rfl, osW, nW, rfl⟩))
    all_goals go_ret
    all_goals exact ⟨rfl, by (exact Ext.of_below (by (repeat' (first | (with_reducible exact Below.refl _ _) | (with_reducible assumption) | (with_reducible refine Below.alloc ?_ ?_ _) | (with_reducible refine Below.wext ?_ ?_ _ _) | (with_reducible refine Below.drew ?_) | (with_reducible refine Below.setCell ?_ ?_ _) | (with_reducible exact Nat.le_refl _) | (with_reducible refine Below.drewN' ?_ _) | (simp; omega) | (simp; done)))))⟩
  · have hl' : 12 < s.length := by omega
    clear hl
    go_enter Try.func5, Try.ntmps5
    go_upto_region 9999 with (first | (go_at_call 11; refine (few_f (by first | omega | (simp; omega)) _).mono ?_; rintro e w1 ⟨rfl, osF, nF_, rfl⟩) | (go_at_call 12; refine (awake_ok _).mono ?_; rintro e w1 ⟨rfl, osW, nW, rfl⟩))
    all_goals go_ret
    all_goals exact ⟨rfl, by (exact Ext.of_below (by (repeat' (first | (with_reducible exact Below.refl _ _) | (with_reducible assumption) | (with_reducible refine Below.alloc ?_ ?_ _) | (with_reducible refine Below.wext ?_ ?_ _ _) | (with_reducible refine Below.drew ?_) | (with_reducible refine Below.setCell ?_ ?_ _) | (with_reducible exact Nat.le_refl _) | (with_reducible refine Below.drewN' ?_ _) | (simp; omega) | (simp; done)))))⟩

theorem law_edits (rows : List (List Value)) (hr : ∀ x ∈ rows, flatOK [some .i64, some .i64] x) (v : Value) (f t : Int) (w : World) (h : inSl w v 2 rows.length rows.flatten) :
    Calls Try.prog 4 #[v, .agg #[.int .i64 f, .int .i64 t]] w fun e w' => e = .returned (.bool true) ∧ Ext w w' := by
  obtain ⟨l, hl⟩ := iv_arg hr h
  obtain ⟨a, c, rfl⟩ := sl_form hl
  exact edits_ok l f t a c w hl
theorem law_gaps (rows : List (List Value)) (hr : ∀ x ∈ rows, flatOK [some .i64, some .i64] x) (v : Value) (f t n : Int) (w : World) (h : inSl w v 2 rows.length rows.flatten) :
    Calls Try.prog 5 #[v, .agg #[.int .i64 f, .int .i64 t, .int .i64 n]] w fun e w' => e = .returned (.bool true) ∧ Ext w w' := by
  obtain ⟨l, hl⟩ := iv_arg hr h
  obtain ⟨a, c, rfl⟩ := sl_form hl
  exact gaps_ok l f t n a c w hl
theorem law_opers (rows rows2 : List (List Value)) (hr : ∀ x ∈ rows, flatOK [some .i64, some .i64] x) (hr2 : ∀ x ∈ rows2, flatOK [some .i64, some .i64] x) (v u : Value) (w : World) (h : inSl w v 2 rows.length rows.flatten) (h2 : inSl w u 2 rows2.length rows2.flatten) :
    Calls Try.prog 7 #[v, u] w fun e w' => e = .returned (.bool true) ∧ Ext w w' := by
  obtain ⟨l, hl⟩ := iv_arg hr h
  obtain ⟨a, c, rfl⟩ := sl_form hl
  obtain ⟨l2, hl2⟩ := iv_arg hr2 h2
  obtain ⟨a2, c2, rfl⟩ := sl_form hl2
  exact opers_ok l l2 a a2 c c2 w hl hl2

end Go.Proofs.Ytlboakmiopnifaa
