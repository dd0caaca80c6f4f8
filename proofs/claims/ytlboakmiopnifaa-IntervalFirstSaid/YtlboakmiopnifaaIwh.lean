/- Layer 02: the law IntervalLaws. -/
import Derived.Test.YtlboakmiopnifaaIwg
set_option linter.unusedSimpArgs false
set_option linter.unusedVariables false
namespace Go.Proofs.Ytlboakmiopnifaa
open Go.RowKit

/-! ### Lengths -/
theorem int_len : ∀ (a b : List (Int × Int)), (intI a b).length ≤ a.length + b.length
  | [], b => by simp [intI]
  | x :: a, [] => by simp [intI]
  | x :: a, y :: b => by
    rw [intI]
    have h1 : ((if max x.1 y.1 < min x.2 y.2 then [(max x.1 y.1, min x.2 y.2)] else [] : List (Int × Int))).length ≤ 1 := by split <;> simp
    rw [List.length_append]
    by_cases h : x.2 ≤ y.2
    · have := int_len a (y :: b); rw [if_pos h]; simp only [List.length_cons] at this ⊢; omega
    · have := int_len (x :: a) b; rw [if_neg h]; simp only [List.length_cons] at this ⊢; omega
termination_by a b => a.length + b.length
theorem merge_len : ∀ (a b : List (Int × Int)), (mergeI a b).length = a.length + b.length
  | [], b => by simp [mergeI]
  | x :: a, [] => by simp [mergeI]
  | x :: a, y :: b => by
    rw [mergeI]
    split
    · have := merge_len a (y :: b); simp only [List.length_cons] at this ⊢; omega
    · have := merge_len (x :: a) b; simp only [List.length_cons] at this ⊢; omega
termination_by a b => a.length + b.length
theorem fold_len : ∀ (m acc : List (Int × Int)), (m.foldl putI acc).length ≤ acc.length + m.length
  | [], acc => by simp
  | x :: m, acc => by
    have h1 := fold_len m (putI acc x)
    have h2 := putI_len acc x
    simp only [List.foldl_cons, List.length_cons]
    omega
theorem uni_len (a b : List (Int × Int)) : (uniL a b).length ≤ a.length + b.length := by
  have := fold_len (mergeI a b) []
  rw [merge_len] at this
  simpa [uniL] using this
theorem skip_len (f : Int) : ∀ b : List (Int × Int), (skipI f b).length ≤ b.length
  | [] => by simp [skipI]
  | y :: b => by
    rw [skip_cons]
    have := skip_len f b
    split <;> simp; omega
theorem skip_skip {s t : Int} (h : s ≤ t) : ∀ b : List (Int × Int), skipI t (skipI s b) = skipI t b
  | [] => rfl
  | y :: b => by
    rw [skip_cons s]
    split
    · rw [skip_skip h b, skip_cons t, if_pos (by omega)]
    · rfl
theorem cut1_len {t' : Int} : ∀ (b : List (Int × Int)) (f t : Int), t ≤ t' → (cut1 f t b).length + (skipI t' b).length ≤ b.length + 1
  | [], f, t, _ => by unfold cut1; split <;> simp [skipI]
  | y :: b, f, t, ht => by
    unfold cut1
    by_cases h : t ≤ y.1 ∨ t ≤ f
    · rw [if_pos h]
      have := skip_len t' (y :: b)
      split <;> simp at this ⊢ <;> omega
    · rw [if_neg h]
      have h1 : ((if f < y.1 then [(f, y.1)] else [] : List (Int × Int))).length ≤ 1 := by split <;> simp
      rw [List.length_append]
      by_cases h2 : y.2 < t
      · have e : skipI t' (y :: b) = skipI t' b := by rw [skip_cons, if_pos (by omega)]
        rw [e]
        have := cut1_len b y.2 t ht
        simp only [List.length_cons]
        omega
      · have e : cut1 y.2 t b = [] := by
          cases b with
          | nil => unfold cut1; rw [if_neg h2]
          | cons z b => unfold cut1; rw [if_pos (Or.inr (by omega)), if_neg h2]
        rw [e]
        have := skip_len t' (y :: b)
        simp only [List.length_cons, List.length_nil] at this ⊢
        omega
theorem cutI_skip : ∀ {a : List (Int × Int)} {s : Int} (b : List (Int × Int)), Asc (some s) a → cutI a (skipI s b) = cutI a b
  | [], _, _, _ => rfl
  | x :: a, s, b, h => by
    have := h.1 s rfl
    rw [cutI, cutI, skip_skip (by omega)]
theorem cut_len : ∀ (a b : List (Int × Int)) (p : Option Int), Asc p a → (cutI a b).length ≤ a.length + b.length
  | [], b, _, _ => by simp [cutI]
  | x :: a, b, p, h => by
    rw [cutI, List.length_append, ← cutI_skip (s := x.2) (skipI x.1 b) h.2.2]
    have h1 := cut_len a (skipI x.2 (skipI x.1 b)) _ h.2.2
    have h2 := cut1_len (skipI x.1 b) x.1 x.2 (Int.le_refl x.2)
    have h3 := skip_len x.1 b
    simp only [List.length_cons]
    omega

/-! ### The laws of sets -/
section
variable {a b : List (Int × Int)} (ha : Asc none a) (hb : Asc none b)
include ha hb
theorem uni_comm : uniL b a = uniL a b := (uni_spec hb ha).1.uniq (uni_spec ha hb).1 fun n => by rw [(uni_spec hb ha).2, (uni_spec ha hb).2, Bool.or_comm]
theorem int_comm : intI b a = intI a b := (asc_int b a none none hb ha).1.uniq (asc_int a b none none ha hb).1 fun n => by rw [in_int b a none none n hb ha, in_int a b none none n ha hb, Bool.and_comm]
theorem uni_back : uniL (cutI a b) (intI a b) = a := by
  obtain ⟨c1, c2⟩ := cut_spec a b none none ha hb
  have i1 := (asc_int a b none none ha hb).1
  refine (uni_spec c1 i1).1.uniq ha fun n => ?_
  rw [(uni_spec c1 i1).2, c2, in_int a b none none n ha hb]
  cases inI a n <;> cases inI b n <;> rfl
theorem int_none : intI (cutI a b) (intI a b) = [] := by
  obtain ⟨c1, c2⟩ := cut_spec a b none none ha hb
  have i1 := (asc_int a b none none ha hb).1
  refine (asc_int _ _ none none c1 i1).1.uniq (q := none) (r := []) trivial fun n => ?_
  rw [in_int _ _ none none n c1 i1, c2, in_int a b none none n ha hb, inI_nil]
  cases inI a n <;> cases inI b n <;> rfl
theorem gaps_uni {o : List (Int × Int)} (ho : Asc none o) : intI (cutI o a) (cutI o b) = cutI o (uniL a b) := by
  obtain ⟨c1, c2⟩ := cut_spec o a none none ho ha
  obtain ⟨d1, d2⟩ := cut_spec o b none none ho hb
  obtain ⟨u1, u2⟩ := uni_spec ha hb
  obtain ⟨e1, e2⟩ := cut_spec o (uniL a b) none none ho u1
  refine (asc_int _ _ none none c1 d1).1.uniq e1 fun n => ?_
  rw [in_int _ _ none none n c1 d1, c2, d2, e2, u2]
  cases inI o n <;> cases inI a n <;> cases inI b n <;> rfl
end
theorem gaps_w {f t : Int} {s A : List (Int × Int)} {x : Int} (hA : (if errI s f t = 0 then cutI (oneI (f, t)) s else []) = A) (hx : errI s f t = x) (v : Value) (w : World) (hv : isSl w v 2 s.length (ivF s)) (hl : s.length ≤ 60) :
    Calls Try.prog 22 #[v, .int .i64 f, .int .i64 t] w (resP w.heap.size A x w) := by
  subst hA hx
  exact gaps_any s f t v w hv (by omega)

set_option maxRecDepth 100000 in
set_option maxHeartbeats 16000000 in
theorem laws_ok (a b : List (Int × Int)) (ad bd : Option Addr) (c d : Nat) (lo hi n : Int) (w : World) (h : isSl w (.slice ad a.length c) 2 a.length (ivF a)) (h2 : isSl w (.slice bd b.length d) 2 b.length (ivF b)) :
    Calls Try.prog 9 #[.slice ad a.length c, .slice bd b.length d, .agg #[.int .i64 lo, .int .i64 hi, .int .i64 n]] w fun e w' => e = .returned (.bool true) ∧ Ext w w' := by
  have HV : Hid (isSl w (.slice ad a.length c) 2 a.length (ivF a)) := h
  have HU : Hid (isSl w (.slice bd b.length d) 2 b.length (ivF b)) := h2
  clear h h2
  by_cases hl : a.length ≤ 12 ∧ b.length ≤ 12
  case neg =>
    rcases Nat.lt_or_ge 12 a.length with h1 | h1
    · clear hl
      go_enter Try.func9, Try.ntmps9
      go_upto_region 9999 with (first | (go_at_call 11; refine (few_f (by first | omega | (simp; omega)) _).mono ?_; rintro e w1 ⟨rfl, osF, nF_, rfl⟩) | (go_at_call 12; refine (awake_ok _).mono ?_; rintro e w1 ⟨rfl, osW, nW, rfl⟩))
      all_goals go_ret
      all_goals exact ⟨rfl, by (exact Ext.of_below (by (repeat' (first | (with_reducible exact Below.refl _ _) | (with_reducible assumption) | (with_reducible refine Below.alloc ?_ ?_ _) | (with_reducible refine Below.wext ?_ ?_ _ _) | (with_reducible refine Below.drew ?_) | (with_reducible refine Below.setCell ?_ ?_ _) | (with_reducible exact Nat.le_refl _) | (with_reducible refine Below.drewN' ?_ _) | (simp; omega) | (simp; done)))))⟩
    · have h2' : 12 < b.length := by omega
      clear hl
      go_enter Try.func9, Try.ntmps9
      go_upto_region 9999 with (first | (go_at_call 11; refine (few_f (by first | omega | (simp; omega)) _).mono ?_; rintro e w1 ⟨rfl, osF, nF_, rfl⟩) | (go_at_call 12; refine (awake_ok _).mono ?_; rintro e w1 ⟨rfl, osW, nW, rfl⟩))
      all_goals go_ret
      all_goals exact ⟨rfl, by (exact Ext.of_below (by (repeat' (first | (with_reducible exact Below.refl _ _) | (with_reducible assumption) | (with_reducible refine Below.alloc ?_ ?_ _) | (with_reducible refine Below.wext ?_ ?_ _ _) | (with_reducible refine Below.drew ?_) | (with_reducible refine Below.setCell ?_ ?_ _) | (with_reducible exact Nat.le_refl _) | (with_reducible refine Below.drewN' ?_ _) | (simp; omega) | (simp; done)))))⟩
  obtain ⟨hl1, hl2⟩ := hl
  by_cases ha : chkI a = 0
  case neg =>
    have ha1 : Hid (sndI a = false) := by show sndI a = false; simpa [sndI] using ha
    clear ha
    go_enter Try.func9, Try.ntmps9
    go_upto_region 9999 with (first | (go_at_call 11; refine (few_t (by first | omega | (simp; omega)) (by first | omega | (simp; omega)) _).mono ?_; rintro e w1 ⟨rfl, osF, nF_, rfl⟩) | (go_at_call_of 26 (Value.slice ad a.length c); refine (snd_v ha1.out _ _ (HV.out.ext (by (exact Ext.of_below (by (repeat' (first | (with_reducible exact Below.refl _ _) | (with_reducible assumption) | (with_reducible refine Below.alloc ?_ ?_ _) | (with_reducible refine Below.wext ?_ ?_ _ _) | (with_reducible refine Below.drew ?_) | (with_reducible refine Below.setCell ?_ ?_ _) | (with_reducible exact Nat.le_refl _) | (with_reducible refine Below.drewN' ?_ _) | (simp; omega) | (simp; done)))))))).mono ?_; rintro e w1 ⟨rfl, os_v, n_v, rfl⟩) | (go_at_call 12; refine (awake_ok _).mono ?_; rintro e w1 ⟨rfl, osW, nW, rfl⟩))
    all_goals go_ret
    all_goals exact ⟨rfl, by (exact Ext.of_below (by (repeat' (first | (with_reducible exact Below.refl _ _) | (with_reducible assumption) | (with_reducible refine Below.alloc ?_ ?_ _) | (with_reducible refine Below.wext ?_ ?_ _ _) | (with_reducible refine Below.drew ?_) | (with_reducible refine Below.setCell ?_ ?_ _) | (with_reducible exact Nat.le_refl _) | (with_reducible refine Below.drewN' ?_ _) | (simp; omega) | (simp; done)))))⟩
  by_cases hb : chkI b = 0
  case neg =>
    have ha1 : Hid (sndI a = true) := by show sndI a = true; simpa [sndI] using ha
    have hb1 : Hid (sndI b = false) := by show sndI b = false; simpa [sndI] using hb
    clear ha hb
    go_enter Try.func9, Try.ntmps9
    go_upto_region 9999 with (first | (go_at_call 11; refine (few_t (by first | omega | (simp; omega)) (by first | omega | (simp; omega)) _).mono ?_; rintro e w1 ⟨rfl, osF, nF_, rfl⟩) | (go_at_call_of 26 (Value.slice ad a.length c); refine (snd_v ha1.out _ _ (HV.out.ext (by (exact Ext.of_below (by (repeat' (first | (with_reducible exact Below.refl _ _) | (with_reducible assumption) | (with_reducible refine Below.alloc ?_ ?_ _) | (with_reducible refine Below.wext ?_ ?_ _ _) | (with_reducible refine Below.drew ?_) | (with_reducible refine Below.setCell ?_ ?_ _) | (with_reducible exact Nat.le_refl _) | (with_reducible refine Below.drewN' ?_ _) | (simp; omega) | (simp; done)))))))).mono ?_; rintro e w1 ⟨rfl, os_v, n_v, rfl⟩) | (go_at_call_of 26 (Value.slice bd b.length d); refine (snd_v hb1.out _ _ (HU.out.ext (by (exact Ext.of_below (by (repeat' (first | (with_reducible exact Below.refl _ _) | (with_reducible assumption) | (with_reducible refine Below.alloc ?_ ?_ _) | (with_reducible refine Below.wext ?_ ?_ _ _) | (with_reducible refine Below.drew ?_) | (with_reducible refine Below.setCell ?_ ?_ _) | (with_reducible exact Nat.le_refl _) | (with_reducible refine Below.drewN' ?_ _) | (simp; omega) | (simp; done)))))))).mono ?_; rintro e w1 ⟨rfl, os_v, n_v, rfl⟩) | (go_at_call 12; refine (awake_ok _).mono ?_; rintro e w1 ⟨rfl, osW, nW, rfl⟩))
    all_goals go_ret
    all_goals exact ⟨rfl, by (exact Ext.of_below (by (repeat' (first | (with_reducible exact Below.refl _ _) | (with_reducible assumption) | (with_reducible refine Below.alloc ?_ ?_ _) | (with_reducible refine Below.wext ?_ ?_ _ _) | (with_reducible refine Below.drew ?_) | (with_reducible refine Below.setCell ?_ ?_ _) | (with_reducible exact Nat.le_refl _) | (with_reducible refine Below.drewN' ?_ _) | (simp; omega) | (simp; done)))))⟩
  have ha1 : Hid (sndI a = true) := by show sndI a = true; simpa [sndI] using ha
  have hb1 : Hid (sndI b = true) := by show sndI b = true; simpa [sndI] using hb
  by_cases hlh : hi < lo
  case pos =>
    have e1 : decide (hi < lo) = true := by simpa using hlh
    clear hlh ha hb
    go_enter Try.func9, Try.ntmps9
    go_upto_region 9999 with (first | (go_at_call 11; refine (few_t (by first | omega | (simp; omega)) (by first | omega | (simp; omega)) _).mono ?_; rintro e w1 ⟨rfl, osF, nF_, rfl⟩) | (go_at_call_of 26 (Value.slice ad a.length c); refine (snd_v ha1.out _ _ (HV.out.ext (by (exact Ext.of_below (by (repeat' (first | (with_reducible exact Below.refl _ _) | (with_reducible assumption) | (with_reducible refine Below.alloc ?_ ?_ _) | (with_reducible refine Below.wext ?_ ?_ _ _) | (with_reducible refine Below.drew ?_) | (with_reducible refine Below.setCell ?_ ?_ _) | (with_reducible exact Nat.le_refl _) | (with_reducible refine Below.drewN' ?_ _) | (simp; omega) | (simp; done)))))))).mono ?_; rintro e w1 ⟨rfl, os_v, n_v, rfl⟩) | (go_at_call_of 26 (Value.slice bd b.length d); refine (snd_v hb1.out _ _ (HU.out.ext (by (exact Ext.of_below (by (repeat' (first | (with_reducible exact Below.refl _ _) | (with_reducible assumption) | (with_reducible refine Below.alloc ?_ ?_ _) | (with_reducible refine Below.wext ?_ ?_ _ _) | (with_reducible refine Below.drew ?_) | (with_reducible refine Below.setCell ?_ ?_ _) | (with_reducible exact Nat.le_refl _) | (with_reducible refine Below.drewN' ?_ _) | (simp; omega) | (simp; done)))))))).mono ?_; rintro e w1 ⟨rfl, os_v, n_v, rfl⟩) | (go_at_call 12; refine (awake_ok _).mono ?_; rintro e w1 ⟨rfl, osW, nW, rfl⟩))
    all_goals go_ret
    all_goals exact ⟨rfl, by (exact Ext.of_below (by (repeat' (first | (with_reducible exact Below.refl _ _) | (with_reducible assumption) | (with_reducible refine Below.alloc ?_ ?_ _) | (with_reducible refine Below.wext ?_ ?_ _ _) | (with_reducible refine Below.drew ?_) | (with_reducible refine Below.setCell ?_ ?_ _) | (with_reducible exact Nat.le_refl _) | (with_reducible refine Below.drewN' ?_ _) | (simp; omega) | (simp; done)))))⟩
  have e1 : decide (hi < lo) = false := by simpa using hlh
  have ga := (chkI_asc a).1 ha
  have gb := (chkI_asc b).1 hb
  have go : Asc none (oneI (lo, hi)) := one_asc (by omega)
  have u1 := (uni_spec ga gb).1
  have i1 := (asc_int a b none none ga gb).1
  have d1 := (cut_spec a b none none ga gb).1
  have x1 := (cut_spec _ a none none go ga).1
  have y1 := (cut_spec _ b none none go gb).1
  have lu := uni_len a b
  have li := int_len a b
  have ld := cut_len a b none ga
  have lx := cut_len _ a none go
  have ly := cut_len _ b none go
  have lo1 := oneI_le (lo, hi)
  have hl3 : a.length ≤ 60 := by omega
  have hl4 : b.length ≤ 60 := by omega
  have bz : ∀ {p q : List (Int × Int)}, Asc none p → Asc none q → bothI p q = 0 := fun {p q} hp hq => by unfold bothI; rw [if_pos ((chkI_asc p).2 hp), (chkI_asc q).2 hq]
  have ez : ∀ {p : List (Int × Int)}, Asc none p → errI p lo hi = 0 := fun {p} hp => errI_0 ((chkI_asc p).2 hp) hlh
  have q1 := uni_comm ga gb
  have q2 := int_comm ga gb
  have q3 := uni_back ga gb
  have q4 := int_none ga gb
  have q5 := gaps_uni ga gb go
  have hx : Hid (bothI a b = 0) := bz ga gb
  have hx2 : Hid (bothI b a = 0) := bz gb ga
  obtain ⟨A, hA⟩ : ∃ A, uniL a b = A := ⟨_, rfl⟩
  obtain ⟨B, hB⟩ : ∃ B, intI a b = B := ⟨_, rfl⟩
  obtain ⟨C, hC⟩ : ∃ C, cutI a b = C := ⟨_, rfl⟩
  obtain ⟨X, hX⟩ : ∃ X, cutI (oneI (lo, hi)) a = X := ⟨_, rfl⟩
  obtain ⟨Y, hY⟩ : ∃ Y, cutI (oneI (lo, hi)) b = Y := ⟨_, rfl⟩
  rw [hA] at u1 lu q1 q5
  rw [hB] at i1 li q2 q3 q4
  rw [hC] at d1 ld q3 q4
  rw [hX] at x1 lx q5
  rw [hY] at y1 ly q5
  obtain ⟨G, hG⟩ : ∃ G, cutI (oneI (lo, hi)) A = G := ⟨_, rfl⟩
  rw [hG] at q5
  have lA : A.length ≤ 60 := by omega
  have lB : B.length ≤ 60 := by omega
  have lC : C.length ≤ 60 := by omega
  have lX : X.length ≤ 60 := by omega
  have lY : Y.length ≤ 60 := by omega
  have hx3 : Hid (bothI C B = 0) := bz d1 i1
  have hx4 : Hid (bothI X Y = 0) := bz x1 y1
  have ex1 : Hid (errI A lo hi = 0) := ez u1
  have ex2 : Hid (errI a lo hi = 0) := ez ga
  have ex3 : Hid (errI b lo hi = 0) := ez gb
  have HA : Hid ((if bothI a b = 0 then uniL a b else []) = A) := by show _ = _; rw [if_pos hx.out, hA]
  have HA2 : Hid ((if bothI b a = 0 then uniL b a else []) = A) := by show _ = _; rw [if_pos hx2.out, q1]
  have HB : Hid ((if bothI a b = 0 then intI a b else []) = B) := by show _ = _; rw [if_pos hx.out, hB]
  have HB2 : Hid ((if bothI b a = 0 then intI b a else []) = B) := by show _ = _; rw [if_pos hx2.out, q2]
  have HC : Hid ((if bothI a b = 0 then cutI a b else []) = C) := by show _ = _; rw [if_pos hx.out, hC]
  have HD : Hid ((if bothI C B = 0 then uniL C B else []) = a) := by show _ = _; rw [if_pos hx3.out, q3]
  have HZ : Hid ((if bothI C B = 0 then intI C B else []) = []) := by show _ = _; rw [if_pos hx3.out, q4]
  have HG : Hid ((if errI A lo hi = 0 then cutI (oneI (lo, hi)) A else []) = G) := by show _ = _; rw [if_pos ex1.out, hG]
  have HX : Hid ((if errI a lo hi = 0 then cutI (oneI (lo, hi)) a else []) = X) := by show _ = _; rw [if_pos ex2.out, hX]
  have HY : Hid ((if errI b lo hi = 0 then cutI (oneI (lo, hi)) b else []) = Y) := by show _ = _; rw [if_pos ex3.out, hY]
  have HH : Hid ((if bothI X Y = 0 then intI X Y else []) = G) := by show _ = _; rw [if_pos hx4.out, q5]
  clear hlh ha hb ga gb go u1 i1 d1 x1 y1 lu li ld lx ly lo1 bz ez q1 q2 q3 q4 q5 hA hB hC hX hY hG
  have t1 : Hid True := trivial
  have t2 : Hid True := trivial
  have t3 : Hid True := trivial
  have t4 : Hid True := trivial
  have t5 : Hid True := trivial
  have t6 : Hid True := trivial
  have t7 : Hid True := trivial
  have t8 : Hid True := trivial
  have t9 : Hid True := trivial
  have t10 : Hid True := trivial
  have t11 : Hid True := trivial
  have t12 : Hid True := trivial
  have t13 : Hid True := trivial
  have t14 : Hid True := trivial
  have t15 : Hid True := trivial
  have t16 : Hid True := trivial
  have t17 : Hid True := trivial
  have t18 : Hid True := trivial
  go_enter Try.func9, Try.ntmps9
  go_upto_region 9999 with (first | (clear t1; go_at_call 11; refine (few_t (by first | omega | (simp; omega)) (by first | omega | (simp; omega)) _).mono ?_; rintro e w1 ⟨rfl, osF, nF_, rfl⟩) | (clear t2; go_at_call_of 26 (Value.slice ad a.length c); refine (snd_v ha1.out _ _ (HV.out.ext (by (exact Ext.of_below (by (repeat' (first | (with_reducible exact Below.refl _ _) | (with_reducible assumption) | (with_reducible refine Below.alloc ?_ ?_ _) | (with_reducible refine Below.wext ?_ ?_ _ _) | (with_reducible refine Below.drew ?_) | (with_reducible refine Below.setCell ?_ ?_ _) | (with_reducible exact Nat.le_refl _) | (with_reducible refine Below.drewN' ?_ _) | (simp; omega) | (simp; done)))))))).mono ?_; rintro e w1 ⟨rfl, os_v, n_v, rfl⟩) | (clear t3; go_at_call_of 26 (Value.slice bd b.length d); refine (snd_v hb1.out _ _ (HU.out.ext (by (exact Ext.of_below (by (repeat' (first | (with_reducible exact Below.refl _ _) | (with_reducible assumption) | (with_reducible refine Below.alloc ?_ ?_ _) | (with_reducible refine Below.wext ?_ ?_ _ _) | (with_reducible refine Below.drew ?_) | (with_reducible refine Below.setCell ?_ ?_ _) | (with_reducible exact Nat.le_refl _) | (with_reducible refine Below.drewN' ?_ _) | (simp; omega) | (simp; done)))))))).mono ?_; rintro e w1 ⟨rfl, os_v, n_v, rfl⟩) | (clear t4; go_at_call 28; refine (uni_v HA.out hx.out _ _ _ (HV.out.ext (by (exact Ext.of_below (by (repeat' (first | (with_reducible exact Below.refl _ _) | (with_reducible assumption) | (with_reducible refine Below.alloc ?_ ?_ _) | (with_reducible refine Below.wext ?_ ?_ _ _) | (with_reducible refine Below.drew ?_) | (with_reducible refine Below.setCell ?_ ?_ _) | (with_reducible exact Nat.le_refl _) | (with_reducible refine Below.drewN' ?_ _) | (simp; omega) | (simp; done))))))) (HU.out.ext (by (exact Ext.of_below (by (repeat' (first | (with_reducible exact Below.refl _ _) | (with_reducible assumption) | (with_reducible refine Below.alloc ?_ ?_ _) | (with_reducible refine Below.wext ?_ ?_ _ _) | (with_reducible refine Below.drew ?_) | (with_reducible refine Below.setCell ?_ ?_ _) | (with_reducible exact Nat.le_refl _) | (with_reducible refine Below.drewN' ?_ _) | (simp; omega) | (simp; done))))))) (by first | assumption | (simp; omega) | omega) (by first | assumption | (simp; omega) | omega)).mono ?_; rintro e w1 ⟨r1, rfl, hown, hbel⟩; obtain ⟨os_r1, n_r1, rfl⟩ := Ext.of_below hbel; have Hr1 : Hid (isSl _ r1 2 (A : List (Int × Int)).length (ivF A)) := isSl_of_own hown; clear hown hbel) | (clear t5; go_at_call 28; refine (uni_v HA2.out hx2.out _ _ _ (HU.out.ext (by (exact Ext.of_below (by (repeat' (first | (with_reducible exact Below.refl _ _) | (with_reducible assumption) | (with_reducible refine Below.alloc ?_ ?_ _) | (with_reducible refine Below.wext ?_ ?_ _ _) | (with_reducible refine Below.drew ?_) | (with_reducible refine Below.setCell ?_ ?_ _) | (with_reducible exact Nat.le_refl _) | (with_reducible refine Below.drewN' ?_ _) | (simp; omega) | (simp; done))))))) (HV.out.ext (by (exact Ext.of_below (by (repeat' (first | (with_reducible exact Below.refl _ _) | (with_reducible assumption) | (with_reducible refine Below.alloc ?_ ?_ _) | (with_reducible refine Below.wext ?_ ?_ _ _) | (with_reducible refine Below.drew ?_) | (with_reducible refine Below.setCell ?_ ?_ _) | (with_reducible exact Nat.le_refl _) | (with_reducible refine Below.drewN' ?_ _) | (simp; omega) | (simp; done))))))) (by first | assumption | (simp; omega) | omega) (by first | assumption | (simp; omega) | omega)).mono ?_; rintro e w1 ⟨r2, rfl, hown, hbel⟩; obtain ⟨os_r2, n_r2, rfl⟩ := Ext.of_below hbel; have Hr2 : Hid (isSl _ r2 2 (A : List (Int × Int)).length (ivF A)) := isSl_of_own hown; clear hown hbel) | (clear t6; go_at_call 29; refine (int_v HB.out hx.out _ _ _ (HV.out.ext (by (exact Ext.of_below (by (repeat' (first | (with_reducible exact Below.refl _ _) | (with_reducible assumption) | (with_reducible refine Below.alloc ?_ ?_ _) | (with_reducible refine Below.wext ?_ ?_ _ _) | (with_reducible refine Below.drew ?_) | (with_reducible refine Below.setCell ?_ ?_ _) | (with_reducible exact Nat.le_refl _) | (with_reducible refine Below.drewN' ?_ _) | (simp; omega) | (simp; done))))))) (HU.out.ext (by (exact Ext.of_below (by (repeat' (first | (with_reducible exact Below.refl _ _) | (with_reducible assumption) | (with_reducible refine Below.alloc ?_ ?_ _) | (with_reducible refine Below.wext ?_ ?_ _ _) | (with_reducible refine Below.drew ?_) | (with_reducible refine Below.setCell ?_ ?_ _) | (with_reducible exact Nat.le_refl _) | (with_reducible refine Below.drewN' ?_ _) | (simp; omega) | (simp; done))))))) (by first | assumption | (simp; omega) | omega) (by first | assumption | (simp; omega) | omega)).mono ?_; rintro e w1 ⟨r3, rfl, hown, hbel⟩; obtain ⟨os_r3, n_r3, rfl⟩ := Ext.of_below hbel; have Hr3 : Hid (isSl _ r3 2 (B : List (Int × Int)).length (ivF B)) := isSl_of_own hown; clear hown hbel) | (clear t7; go_at_call 29; refine (int_v HB2.out hx2.out _ _ _ (HU.out.ext (by (exact Ext.of_below (by (repeat' (first | (with_reducible exact Below.refl _ _) | (with_reducible assumption) | (with_reducible refine Below.alloc ?_ ?_ _) | (with_reducible refine Below.wext ?_ ?_ _ _) | (with_reducible refine Below.drew ?_) | (with_reducible refine Below.setCell ?_ ?_ _) | (with_reducible exact Nat.le_refl _) | (with_reducible refine Below.drewN' ?_ _) | (simp; omega) | (simp; done))))))) (HV.out.ext (by (exact Ext.of_below (by (repeat' (first | (with_reducible exact Below.refl _ _) | (with_reducible assumption) | (with_reducible refine Below.alloc ?_ ?_ _) | (with_reducible refine Below.wext ?_ ?_ _ _) | (with_reducible refine Below.drew ?_) | (with_reducible refine Below.setCell ?_ ?_ _) | (with_reducible exact Nat.le_refl _) | (with_reducible refine Below.drewN' ?_ _) | (simp; omega) | (simp; done))))))) (by first | assumption | (simp; omega) | omega) (by first | assumption | (simp; omega) | omega)).mono ?_; rintro e w1 ⟨r4, rfl, hown, hbel⟩; obtain ⟨os_r4, n_r4, rfl⟩ := Ext.of_below hbel; have Hr4 : Hid (isSl _ r4 2 (B : List (Int × Int)).length (ivF B)) := isSl_of_own hown; clear hown hbel) | (clear t8; go_at_call 30; refine (sub_v HC.out hx.out _ _ _ (HV.out.ext (by (exact Ext.of_below (by (repeat' (first | (with_reducible exact Below.refl _ _) | (with_reducible assumption) | (with_reducible refine Below.alloc ?_ ?_ _) | (with_reducible refine Below.wext ?_ ?_ _ _) | (with_reducible refine Below.drew ?_) | (with_reducible refine Below.setCell ?_ ?_ _) | (with_reducible exact Nat.le_refl _) | (with_reducible refine Below.drewN' ?_ _) | (simp; omega) | (simp; done))))))) (HU.out.ext (by (exact Ext.of_below (by (repeat' (first | (with_reducible exact Below.refl _ _) | (with_reducible assumption) | (with_reducible refine Below.alloc ?_ ?_ _) | (with_reducible refine Below.wext ?_ ?_ _ _) | (with_reducible refine Below.drew ?_) | (with_reducible refine Below.setCell ?_ ?_ _) | (with_reducible exact Nat.le_refl _) | (with_reducible refine Below.drewN' ?_ _) | (simp; omega) | (simp; done))))))) (by first | assumption | (simp; omega) | omega) (by first | assumption | (simp; omega) | omega)).mono ?_; rintro e w1 ⟨r5, rfl, hown, hbel⟩; obtain ⟨os_r5, n_r5, rfl⟩ := Ext.of_below hbel; have Hr5 : Hid (isSl _ r5 2 (C : List (Int × Int)).length (ivF C)) := isSl_of_own hown; clear hown hbel) | (clear t9; go_at_call 28; refine (uni_v HD.out hx3.out _ _ _ (isSl.ext Hr5.out (by (exact Ext.of_below (by (repeat' (first | (with_reducible exact Below.refl _ _) | (with_reducible assumption) | (with_reducible refine Below.alloc ?_ ?_ _) | (with_reducible refine Below.wext ?_ ?_ _ _) | (with_reducible refine Below.drew ?_) | (with_reducible refine Below.setCell ?_ ?_ _) | (with_reducible exact Nat.le_refl _) | (with_reducible refine Below.drewN' ?_ _) | (simp; omega) | (simp; done))))))) (isSl.ext Hr3.out (by (exact Ext.of_below (by (repeat' (first | (with_reducible exact Below.refl _ _) | (with_reducible assumption) | (with_reducible refine Below.alloc ?_ ?_ _) | (with_reducible refine Below.wext ?_ ?_ _ _) | (with_reducible refine Below.drew ?_) | (with_reducible refine Below.setCell ?_ ?_ _) | (with_reducible exact Nat.le_refl _) | (with_reducible refine Below.drewN' ?_ _) | (simp; omega) | (simp; done))))))) (by first | assumption | (simp; omega) | omega) (by first | assumption | (simp; omega) | omega)).mono ?_; rintro e w1 ⟨r6, rfl, hown, hbel⟩; obtain ⟨os_r6, n_r6, rfl⟩ := Ext.of_below hbel; have Hr6 : Hid (isSl _ r6 2 (a : List (Int × Int)).length (ivF a)) := isSl_of_own hown; clear hown hbel) | (clear t10; go_at_call 29; refine (int_v HZ.out hx3.out _ _ _ (isSl.ext Hr5.out (by (exact Ext.of_below (by (repeat' (first | (with_reducible exact Below.refl _ _) | (with_reducible assumption) | (with_reducible refine Below.alloc ?_ ?_ _) | (with_reducible refine Below.wext ?_ ?_ _ _) | (with_reducible refine Below.drew ?_) | (with_reducible refine Below.setCell ?_ ?_ _) | (with_reducible exact Nat.le_refl _) | (with_reducible refine Below.drewN' ?_ _) | (simp; omega) | (simp; done))))))) (isSl.ext Hr3.out (by (exact Ext.of_below (by (repeat' (first | (with_reducible exact Below.refl _ _) | (with_reducible assumption) | (with_reducible refine Below.alloc ?_ ?_ _) | (with_reducible refine Below.wext ?_ ?_ _ _) | (with_reducible refine Below.drew ?_) | (with_reducible refine Below.setCell ?_ ?_ _) | (with_reducible exact Nat.le_refl _) | (with_reducible refine Below.drewN' ?_ _) | (simp; omega) | (simp; done))))))) (by first | assumption | (simp; omega) | omega) (by first | assumption | (simp; omega) | omega)).mono ?_; rintro e w1 ⟨r7, rfl, hown, hbel⟩; obtain ⟨os_r7, n_r7, rfl⟩ := Ext.of_below hbel; have Hr7 : Hid (isSl _ r7 2 ([] : List (Int × Int)).length (ivF [])) := isSl_of_own hown; clear hown hbel; obtain ⟨pz, cz, hz⟩ := sl_form Hr7.out; subst hz) | (clear t11; go_at_call 22; refine (gaps_w HG.out ex1.out _ _ (isSl.ext Hr1.out (by (exact Ext.of_below (by (repeat' (first | (with_reducible exact Below.refl _ _) | (with_reducible assumption) | (with_reducible refine Below.alloc ?_ ?_ _) | (with_reducible refine Below.wext ?_ ?_ _ _) | (with_reducible refine Below.drew ?_) | (with_reducible refine Below.setCell ?_ ?_ _) | (with_reducible exact Nat.le_refl _) | (with_reducible refine Below.drewN' ?_ _) | (simp; omega) | (simp; done))))))) (by omega)).mono ?_; rintro e w1 ⟨r8, rfl, hown, hbel⟩; obtain ⟨os_r8, n_r8, rfl⟩ := Ext.of_below hbel; have Hr8 : Hid (isSl _ r8 2 (G : List (Int × Int)).length (ivF G)) := isSl_of_own hown; clear hown hbel) | (clear t12; go_at_call 22; refine (gaps_w HX.out ex2.out _ _ (HV.out.ext (by (exact Ext.of_below (by (repeat' (first | (with_reducible exact Below.refl _ _) | (with_reducible assumption) | (with_reducible refine Below.alloc ?_ ?_ _) | (with_reducible refine Below.wext ?_ ?_ _ _) | (with_reducible refine Below.drew ?_) | (with_reducible refine Below.setCell ?_ ?_ _) | (with_reducible exact Nat.le_refl _) | (with_reducible refine Below.drewN' ?_ _) | (simp; omega) | (simp; done))))))) (by omega)).mono ?_; rintro e w1 ⟨r9, rfl, hown, hbel⟩; obtain ⟨os_r9, n_r9, rfl⟩ := Ext.of_below hbel; have Hr9 : Hid (isSl _ r9 2 (X : List (Int × Int)).length (ivF X)) := isSl_of_own hown; clear hown hbel) | (clear t13; go_at_call 22; refine (gaps_w HY.out ex3.out _ _ (HU.out.ext (by (exact Ext.of_below (by (repeat' (first | (with_reducible exact Below.refl _ _) | (with_reducible assumption) | (with_reducible refine Below.alloc ?_ ?_ _) | (with_reducible refine Below.wext ?_ ?_ _ _) | (with_reducible refine Below.drew ?_) | (with_reducible refine Below.setCell ?_ ?_ _) | (with_reducible exact Nat.le_refl _) | (with_reducible refine Below.drewN' ?_ _) | (simp; omega) | (simp; done))))))) (by omega)).mono ?_; rintro e w1 ⟨r10, rfl, hown, hbel⟩; obtain ⟨os_r10, n_r10, rfl⟩ := Ext.of_below hbel; have Hr10 : Hid (isSl _ r10 2 (Y : List (Int × Int)).length (ivF Y)) := isSl_of_own hown; clear hown hbel) | (clear t14; go_at_call 29; refine (int_v HH.out hx4.out _ _ _ (isSl.ext Hr9.out (by (exact Ext.of_below (by (repeat' (first | (with_reducible exact Below.refl _ _) | (with_reducible assumption) | (with_reducible refine Below.alloc ?_ ?_ _) | (with_reducible refine Below.wext ?_ ?_ _ _) | (with_reducible refine Below.drew ?_) | (with_reducible refine Below.setCell ?_ ?_ _) | (with_reducible exact Nat.le_refl _) | (with_reducible refine Below.drewN' ?_ _) | (simp; omega) | (simp; done))))))) (isSl.ext Hr10.out (by (exact Ext.of_below (by (repeat' (first | (with_reducible exact Below.refl _ _) | (with_reducible assumption) | (with_reducible refine Below.alloc ?_ ?_ _) | (with_reducible refine Below.wext ?_ ?_ _ _) | (with_reducible refine Below.drew ?_) | (with_reducible refine Below.setCell ?_ ?_ _) | (with_reducible exact Nat.le_refl _) | (with_reducible refine Below.drewN' ?_ _) | (simp; omega) | (simp; done))))))) (by first | assumption | (simp; omega) | omega) (by first | assumption | (simp; omega) | omega)).mono ?_; rintro e w1 ⟨r11, rfl, hown, hbel⟩; obtain ⟨os_r11, n_r11, rfl⟩ := Ext.of_below hbel; have Hr11 : Hid (isSl _ r11 2 (G : List (Int × Int)).length (ivF G)) := isSl_of_own hown; clear hown hbel) | (clear t15; go_at_call 21; refine (same_c A r1 r2 _ (isSl.ext Hr1.out (by (exact Ext.of_below (by (repeat' (first | (with_reducible exact Below.refl _ _) | (with_reducible assumption) | (with_reducible refine Below.alloc ?_ ?_ _) | (with_reducible refine Below.wext ?_ ?_ _ _) | (with_reducible refine Below.drew ?_) | (with_reducible refine Below.setCell ?_ ?_ _) | (with_reducible exact Nat.le_refl _) | (with_reducible refine Below.drewN' ?_ _) | (simp; omega) | (simp; done))))))) (isSl.ext Hr2.out (by (exact Ext.of_below (by (repeat' (first | (with_reducible exact Below.refl _ _) | (with_reducible assumption) | (with_reducible refine Below.alloc ?_ ?_ _) | (with_reducible refine Below.wext ?_ ?_ _ _) | (with_reducible refine Below.drew ?_) | (with_reducible refine Below.setCell ?_ ?_ _) | (with_reducible exact Nat.le_refl _) | (with_reducible refine Below.drewN' ?_ _) | (simp; omega) | (simp; done)))))))).mono ?_; rintro e w1 ⟨rfl, os_v, n_v, rfl⟩) | (clear t16; go_at_call 21; refine (same_c B r3 r4 _ (isSl.ext Hr3.out (by (exact Ext.of_below (by (repeat' (first | (with_reducible exact Below.refl _ _) | (with_reducible assumption) | (with_reducible refine Below.alloc ?_ ?_ _) | (with_reducible refine Below.wext ?_ ?_ _ _) | (with_reducible refine Below.drew ?_) | (with_reducible refine Below.setCell ?_ ?_ _) | (with_reducible exact Nat.le_refl _) | (with_reducible refine Below.drewN' ?_ _) | (simp; omega) | (simp; done))))))) (isSl.ext Hr4.out (by (exact Ext.of_below (by (repeat' (first | (with_reducible exact Below.refl _ _) | (with_reducible assumption) | (with_reducible refine Below.alloc ?_ ?_ _) | (with_reducible refine Below.wext ?_ ?_ _ _) | (with_reducible refine Below.drew ?_) | (with_reducible refine Below.setCell ?_ ?_ _) | (with_reducible exact Nat.le_refl _) | (with_reducible refine Below.drewN' ?_ _) | (simp; omega) | (simp; done)))))))).mono ?_; rintro e w1 ⟨rfl, os_v, n_v, rfl⟩) | (clear t17; go_at_call 21; refine (same_c a r6 (Value.slice ad a.length c) _ (isSl.ext Hr6.out (by (exact Ext.of_below (by (repeat' (first | (with_reducible exact Below.refl _ _) | (with_reducible assumption) | (with_reducible refine Below.alloc ?_ ?_ _) | (with_reducible refine Below.wext ?_ ?_ _ _) | (with_reducible refine Below.drew ?_) | (with_reducible refine Below.setCell ?_ ?_ _) | (with_reducible exact Nat.le_refl _) | (with_reducible refine Below.drewN' ?_ _) | (simp; omega) | (simp; done))))))) (HV.out.ext (by (exact Ext.of_below (by (repeat' (first | (with_reducible exact Below.refl _ _) | (with_reducible assumption) | (with_reducible refine Below.alloc ?_ ?_ _) | (with_reducible refine Below.wext ?_ ?_ _ _) | (with_reducible refine Below.drew ?_) | (with_reducible refine Below.setCell ?_ ?_ _) | (with_reducible exact Nat.le_refl _) | (with_reducible refine Below.drewN' ?_ _) | (simp; omega) | (simp; done)))))))).mono ?_; rintro e w1 ⟨rfl, os_v, n_v, rfl⟩) | (clear t18; go_at_call 21; refine (same_c G r8 r11 _ (isSl.ext Hr8.out (by (exact Ext.of_below (by (repeat' (first | (with_reducible exact Below.refl _ _) | (with_reducible assumption) | (with_reducible refine Below.alloc ?_ ?_ _) | (with_reducible refine Below.wext ?_ ?_ _ _) | (with_reducible refine Below.drew ?_) | (with_reducible refine Below.setCell ?_ ?_ _) | (with_reducible exact Nat.le_refl _) | (with_reducible refine Below.drewN' ?_ _) | (simp; omega) | (simp; done))))))) (isSl.ext Hr11.out (by (exact Ext.of_below (by (repeat' (first | (with_reducible exact Below.refl _ _) | (with_reducible assumption) | (with_reducible refine Below.alloc ?_ ?_ _) | (with_reducible refine Below.wext ?_ ?_ _ _) | (with_reducible refine Below.drew ?_) | (with_reducible refine Below.setCell ?_ ?_ _) | (with_reducible exact Nat.le_refl _) | (with_reducible refine Below.drewN' ?_ _) | (simp; omega) | (simp; done)))))))).mono ?_; rintro e w1 ⟨rfl, os_v, n_v, rfl⟩) | (go_at_call 12; refine (awake_ok _).mono ?_; rintro e w1 ⟨rfl, osW, nW, rfl⟩))
  all_goals go_ret
  all_goals exact ⟨rfl, by (exact Ext.of_below (by (repeat' (first | (with_reducible exact Below.refl _ _) | (with_reducible assumption) | (with_reducible refine Below.alloc ?_ ?_ _) | (with_reducible refine Below.wext ?_ ?_ _ _) | (with_reducible refine Below.drew ?_) | (with_reducible refine Below.setCell ?_ ?_ _) | (with_reducible exact Nat.le_refl _) | (with_reducible refine Below.drewN' ?_ _) | (simp; omega) | (simp; done)))))⟩

theorem law_laws (rows rows2 : List (List Value)) (hr : ∀ x ∈ rows, flatOK [some .i64, some .i64] x) (hr2 : ∀ x ∈ rows2, flatOK [some .i64, some .i64] x) (v u : Value) (lo hi n : Int) (w : World) (h : inSl w v 2 rows.length rows.flatten) (h2 : inSl w u 2 rows2.length rows2.flatten) :
    Calls Try.prog 9 #[v, u, .agg #[.int .i64 lo, .int .i64 hi, .int .i64 n]] w fun e w' => e = .returned (.bool true) ∧ Ext w w' := by
  obtain ⟨l, hl⟩ := iv_arg hr h
  obtain ⟨a, c, rfl⟩ := sl_form hl
  obtain ⟨l2, hl2⟩ := iv_arg hr2 h2
  obtain ⟨a2, c2, rfl⟩ := sl_form hl2
  exact laws_ok l l2 a a2 c c2 lo hi n w hl hl2

end Go.Proofs.Ytlboakmiopnifaa
