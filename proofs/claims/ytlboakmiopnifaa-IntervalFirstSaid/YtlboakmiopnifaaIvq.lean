/- Layer 02: plain: the reference's lists: all ends, and what is held between them. -/
import Derived.Test.YtlboakmiopnifaaIvp
set_option linter.unusedSimpArgs false
set_option linter.unusedVariables false
namespace Go.Proofs.Ytlboakmiopnifaa
open Go.RowKit

/-- An int put into an ascending list, once. -/
def putN (n : Int) : List Int → List Int
  | [] => [n]
  | y :: l => if n ≤ y then (if n < y then n :: y :: l else y :: l) else y :: putN n l
def putEnds (l : List Int) (a : List (Int × Int)) : List Int := a.foldl (fun l x => putN x.2 (putN x.1 l)) l
def endsI (a b : List (Int × Int)) : List Int := putEnds (putEnds [] a) b
/-- Ascending. -/
def Up : List Int → Prop
  | [] => True
  | x :: l => (∀ y, y ∈ l → x < y) ∧ Up l
theorem mem_putN (n : Int) : ∀ (l : List Int) (m : Int), m ∈ putN n l ↔ m = n ∨ m ∈ l
  | [], m => by simp [putN]
  | y :: l, m => by
    unfold putN
    split
    · split
      · simp
      · have : n = y := by omega
        subst this; simp
    · rw [List.mem_cons, mem_putN n l m, List.mem_cons]
      constructor
      · rintro (h | h | h) <;> simp [h]
      · rintro (h | h | h) <;> simp [h]
theorem up_putN (n : Int) : ∀ (l : List Int), Up l → Up (putN n l)
  | [], _ => ⟨by simp, trivial⟩
  | y :: l, h => by
    unfold putN
    split
    · split
      · rename_i h2
        refine ⟨fun z hz => ?_, h⟩
        rcases List.mem_cons.1 hz with e | e
        · subst e; exact h2
        · have := h.1 z e; omega
      · exact h
    · rename_i h2
      refine ⟨fun z hz => ?_, up_putN n l h.2⟩
      rcases (mem_putN n l z).1 hz with e | e
      · subst e; omega
      · exact h.1 z e
theorem putEnds_up : ∀ (a : List (Int × Int)) (l : List Int), Up l → Up (putEnds l a)
  | [], l, h => h
  | x :: a, l, h => putEnds_up a _ (up_putN _ _ (up_putN _ _ h))
theorem mem_putEnds : ∀ (a : List (Int × Int)) (l : List Int) (m : Int), m ∈ putEnds l a ↔ m ∈ l ∨ ∃ x, x ∈ a ∧ (m = x.1 ∨ m = x.2)
  | [], l, m => by simp [putEnds]
  | x :: a, l, m => by
    have := mem_putEnds a (putN x.2 (putN x.1 l)) m
    unfold putEnds at this ⊢
    rw [List.foldl_cons, this, mem_putN, mem_putN]
    constructor
    · rintro ((h | h | h) | ⟨z, hz, h⟩)
      · exact .inr ⟨x, List.mem_cons_self .., .inr h⟩
      · exact .inr ⟨x, List.mem_cons_self .., .inl h⟩
      · exact .inl h
      · exact .inr ⟨z, List.mem_cons_of_mem _ hz, h⟩
    · rintro (h | ⟨z, hz, h⟩)
      · exact .inl (.inr (.inr h))
      · rcases List.mem_cons.1 hz with e | e
        · subst e
          rcases h with h | h
          · exact .inl (.inr (.inl h))
          · exact .inl (.inl h)
        · exact .inr ⟨z, e, h⟩
theorem ends_up (a b : List (Int × Int)) : Up (endsI a b) := putEnds_up b _ (putEnds_up a _ trivial)
theorem mem_ends (a b : List (Int × Int)) (m : Int) : m ∈ endsI a b ↔ (∃ x, x ∈ a ∧ (m = x.1 ∨ m = x.2)) ∨ ∃ x, x ∈ b ∧ (m = x.1 ∨ m = x.2) := by
  unfold endsI
  rw [mem_putEnds, mem_putEnds]
  simp

/-- What is held: 0 union, 1 intersection, 2 difference. -/
def holdI (a b : List (Int × Int)) (n op : Int) : Bool := if op = 0 then inI a n || inI b n else if op = 1 then inI a n && inI b n else inI a n && !inI b n
/-- An interval put behind a list, joined if they touch. -/
def joinI (acc : List (Int × Int)) (p q : Int) : List (Int × Int) :=
  match acc.getLast? with
  | some y => if y.2 = p then acc.dropLast ++ [(y.1, q)] else acc ++ [(p, q)]
  | none => [(p, q)]
theorem joinI_nil (p q : Int) : joinI [] p q = [(p, q)] := rfl
theorem joinI_app (l : List (Int × Int)) (y : Int × Int) (p q : Int) : joinI (l ++ [y]) p q = if y.2 = p then l ++ [(y.1, q)] else l ++ [y] ++ [(p, q)] := by
  simp [joinI]
theorem joinI_len (l : List (Int × Int)) (p q : Int) : (joinI l p q).length ≤ l.length + 1 := by
  rcases List.eq_nil_or_concat l with rfl | ⟨l', y, rfl⟩
  · simp [joinI]
  · rw [List.concat_eq_append, joinI_app]
    split <;> simp
def combF (h : Int → Bool) : List (Int × Int) → List Int → List (Int × Int)
  | acc, [] => acc
  | acc, [_] => acc
  | acc, p :: q :: r => combF h (if h p then joinI acc p q else acc) (q :: r)
def combI (a b : List (Int × Int)) (op : Int) : List (Int × Int) := combF (fun n => holdI a b n op) [] (endsI a b)

theorem asc_app : ∀ (l : List (Int × Int)) (p : Option Int) (y : Int × Int), Asc p (l ++ [y]) ↔ (Asc p l ∧ y.1 < y.2 ∧ (∀ b, p = some b → b < y.1) ∧ ∀ x, x ∈ l → x.2 < y.1)
  | [], p, y => by
    simp only [List.nil_append, Asc]
    constructor
    · rintro ⟨h1, h2, _⟩; exact ⟨trivial, h2, h1, by simp⟩
    · rintro ⟨_, h2, h1, _⟩; exact ⟨h1, h2, trivial⟩
  | x :: l, p, y => by
    rw [List.cons_append, Asc, asc_app l (some x.2) y, Asc]
    constructor
    · rintro ⟨h1, h2, h3, h4, h5, h6⟩
      have h7 := h5 _ rfl
      refine ⟨⟨h1, h2, h3⟩, h4, fun b hb => by have := h1 b hb; omega, fun z hz => ?_⟩
      rcases List.mem_cons.1 hz with e | e
      · subst e; exact h7
      · exact h6 z e
    · rintro ⟨⟨h1, h2, h3⟩, h4, h5, h6⟩
      exact ⟨h1, h2, h3, h4, fun b hb => by cases hb; exact h6 x (List.mem_cons_self ..), fun z hz => h6 z (List.mem_cons_of_mem _ hz)⟩
/-- All ends of a list lie at or ahead of p. -/
def Under (l : List (Int × Int)) (p : Int) : Prop := ∀ x, x ∈ l → x.2 ≤ p
theorem join_spec (acc : List (Int × Int)) (p q : Int) (ha : Asc none acc) (hu : Under acc p) (hpq : p < q) :
    Asc none (joinI acc p q) ∧ Under (joinI acc p q) q ∧ ∀ n, inI (joinI acc p q) n = (inI acc n || (decide (p ≤ n) && decide (n < q))) := by
  rcases List.eq_nil_or_concat acc with rfl | ⟨l, y, rfl⟩
  · rw [joinI_nil]
    exact ⟨⟨by simp, hpq, trivial⟩, fun x hx => by simp at hx; subst hx; exact Int.le_refl _, fun n => by simp [inI]⟩
  · rw [List.concat_eq_append] at ha hu ⊢
    rw [joinI_app]
    obtain ⟨h1, h2, _, h3⟩ := (asc_app l none y).1 ha
    have hy := hu y (by simp)
    split
    · rename_i e
      subst e
      refine ⟨(asc_app l none _).2 ⟨h1, by show y.1 < q; omega, by simp, h3⟩, fun x hx => ?_, fun n => ?_⟩
      · rcases List.mem_append.1 hx with e | e
        · have := h3 x e; omega
        · simp at e; subst e; exact Int.le_refl _
      · rw [inI_app, inI_app, Bool.or_assoc]
        congr 1
        rw [Bool.eq_iff_iff]
        simp [inI]; omega
    · rename_i e
      refine ⟨(asc_app _ none _).2 ⟨ha, hpq, by simp, fun x hx => ?_⟩, fun x hx => ?_, fun n => ?_⟩
      · rcases List.mem_append.1 hx with e' | e'
        · have := h3 x e'; show x.2 < p; omega
        · simp at e'; subst e'; show x.2 < p; omega
      · rcases List.mem_append.1 hx with e' | e'
        · have := hu x e'; omega
        · simp at e'; subst e'; exact Int.le_refl _
      · rw [inI_app]
        congr 1
        simp [inI]
theorem comb_spec (h : Int → Bool) : ∀ (r : List Int) (acc : List (Int × Int)) (p : Int), Asc none acc → Under acc p → Up (p :: r) →
    Asc none (combF h acc (p :: r)) ∧ ∀ n, (inI (combF h acc (p :: r)) n = true ↔ inI acc n = true ∨ ∃ s q, s ∈ p :: r ∧ q ∈ r ∧ s ≤ n ∧ n < q ∧ h s = true ∧ ∀ t, t ∈ p :: r → t ≤ s ∨ q ≤ t)
  | [], acc, p, ha, _, _ => by
    refine ⟨ha, fun n => ⟨fun hn => .inl hn, ?_⟩⟩
    rintro (hn | ⟨s, q, _, hq, _⟩)
    · exact hn
    · simp at hq
  | q :: r, acc, p, ha, hu, hup => by
    have hpq : p < q := hup.1 q (List.mem_cons_self ..)
    unfold combF
    have hpr : ∀ z, z ∈ r → q < z := hup.2.1
    by_cases hh : h p = true
    · rw [if_pos hh]
      obtain ⟨j1, j2, j3⟩ := join_spec acc p q ha hu hpq
      obtain ⟨i1, i2⟩ := comb_spec h r (joinI acc p q) q j1 j2 hup.2
      refine ⟨i1, fun n => ?_⟩
      rw [i2 n, j3 n]
      constructor
      · rintro (hn | ⟨s, t, hs, ht, h1, h2, h3, h4⟩)
        · rcases Bool.or_eq_true_iff.1 hn with hn | hn
          · exact .inl hn
          · simp at hn
            refine .inr ⟨p, q, List.mem_cons_self .., List.mem_cons_self .., hn.1, hn.2, hh, fun t ht => ?_⟩
            rcases List.mem_cons.1 ht with e | e
            · subst e; exact .inl (Int.le_refl _)
            · rcases List.mem_cons.1 e with e | e
              · subst e; exact .inr (Int.le_refl _)
              · have := hpr t e; exact .inr (by omega)
        · refine .inr ⟨s, t, List.mem_cons_of_mem _ hs, List.mem_cons_of_mem _ ht, h1, h2, h3, fun z hz => ?_⟩
          rcases List.mem_cons.1 hz with e | e
          · subst e
            left
            rcases List.mem_cons.1 hs with e | e
            · subst e; omega
            · have := hpr s e; omega
          · exact h4 z e
      · rintro (hn | ⟨s, t, hs, ht, h1, h2, h3, h4⟩)
        · exact .inl (by rw [hn]; rfl)
        · rcases List.mem_cons.1 hs with e | e
          · subst e
            have := h4 q (List.mem_cons_of_mem _ (List.mem_cons_self ..))
            have ht2 : q ≤ t := by
              rcases List.mem_cons.1 ht with e | e
              · omega
              · have := hpr t e; omega
            have hte : t = q := by
              rcases List.mem_cons.1 ht with e | e
              · exact e
              · have := hpr t e; omega
            subst hte
            left
            simp [h1, h2]
          · right
            refine ⟨s, t, e, ?_, h1, h2, h3, fun z hz => h4 z (List.mem_cons_of_mem _ hz)⟩
            rcases List.mem_cons.1 ht with e' | e'
            · subst e'
              rcases List.mem_cons.1 e with e'' | e''
              · omega
              · have := hpr s e''; omega
            · exact e'
    · rw [if_neg hh]
      obtain ⟨i1, i2⟩ := comb_spec h r acc q ha (fun x hx => by have := hu x hx; omega) hup.2
      refine ⟨i1, fun n => ?_⟩
      rw [i2 n]
      constructor
      · rintro (hn | ⟨s, t, hs, ht, h1, h2, h3, h4⟩)
        · exact .inl hn
        · refine .inr ⟨s, t, List.mem_cons_of_mem _ hs, List.mem_cons_of_mem _ ht, h1, h2, h3, fun z hz => ?_⟩
          rcases List.mem_cons.1 hz with e | e
          · subst e
            left
            rcases List.mem_cons.1 hs with e | e
            · subst e; omega
            · have := hpr s e; omega
          · exact h4 z e
      · rintro (hn | ⟨s, t, hs, ht, h1, h2, h3, h4⟩)
        · exact .inl hn
        · rcases List.mem_cons.1 hs with e | e
          · subst e; exact absurd h3 hh
          · right
            refine ⟨s, t, e, ?_, h1, h2, h3, fun z hz => h4 z (List.mem_cons_of_mem _ hz)⟩
            rcases List.mem_cons.1 ht with e' | e'
            · subst e'
              rcases List.mem_cons.1 e with e'' | e''
              · omega
              · have := hpr s e''; omega
            · exact e'
/-- Between two neighbours nothing changes. -/
theorem in_const {a : List (Int × Int)} {s q n : Int} (h1 : s ≤ n) (h2 : n < q) (h : ∀ x, x ∈ a → (x.1 ≤ s ∨ q ≤ x.1) ∧ (x.2 ≤ s ∨ q ≤ x.2)) : inI a s = inI a n := by
  unfold inI
  rw [Bool.eq_iff_iff, List.any_eq_true, List.any_eq_true]
  constructor
  · rintro ⟨x, hx, e⟩
    have := h x hx
    refine ⟨x, hx, ?_⟩
    simp at e ⊢; omega
  · rintro ⟨x, hx, e⟩
    have := h x hx
    refine ⟨x, hx, ?_⟩
    simp at e ⊢; omega
/-- Neighbours around an int. -/
theorem near : ∀ (l : List Int), Up l → ∀ (n lo hi : Int), lo ∈ l → hi ∈ l → lo ≤ n → n < hi → ∃ s q, s ∈ l ∧ q ∈ l ∧ s ≤ n ∧ n < q ∧ ∀ t, t ∈ l → t ≤ s ∨ q ≤ t
  | [], _, _, _, _, h, _, _, _ => by simp at h
  | x :: l, hu, n, lo, hi, hlo, hhi, h1, h2 => by
    by_cases hx : ∃ z, z ∈ l ∧ z ≤ n
    · obtain ⟨z, hz, hzn⟩ := hx
      have hhi' : hi ∈ l := by
        rcases List.mem_cons.1 hhi with e | e
        · subst e; have := hu.1 z hz; omega
        · exact e
      obtain ⟨s, q, hs, hq, a1, a2, a3⟩ := near l hu.2 n z hi hz hhi' hzn h2
      refine ⟨s, q, List.mem_cons_of_mem _ hs, List.mem_cons_of_mem _ hq, a1, a2, fun t ht => ?_⟩
      rcases List.mem_cons.1 ht with e | e
      · subst e; have := hu.1 s hs; left; omega
      · exact a3 t e
    · have hlo' : lo = x := by
        rcases List.mem_cons.1 hlo with e | e
        · exact e
        · exact absurd ⟨lo, e, h1⟩ hx
      subst hlo'
      cases l with
      | nil => simp at hhi; omega
      | cons q r =>
        refine ⟨lo, q, List.mem_cons_self .., List.mem_cons_of_mem _ (List.mem_cons_self ..), h1, ?_, fun t ht => ?_⟩
        · by_cases hq : n < q
          · exact hq
          · exact absurd ⟨q, List.mem_cons_self .., by omega⟩ hx
        · rcases List.mem_cons.1 ht with e | e
          · subst e; left; omega
          · rcases List.mem_cons.1 e with e | e
            · subst e; right; omega
            · have := hu.2.1 t e; right; omega
theorem combI_spec (a b : List (Int × Int)) (op : Int) : Asc none (combI a b op) ∧ ∀ n, inI (combI a b op) n = holdI a b n op := by
  unfold combI
  have hU := ends_up a b
  have hM := mem_ends a b
  have key : ∀ s q n, s ≤ n → n < q → (∀ t, t ∈ endsI a b → t ≤ s ∨ q ≤ t) → holdI a b s op = holdI a b n op := by
    intro s q n h1 h2 h3
    unfold holdI
    rw [in_const (a := a) h1 h2 (fun x hx => ⟨h3 _ ((hM _).2 (.inl ⟨x, hx, .inl rfl⟩)), h3 _ ((hM _).2 (.inl ⟨x, hx, .inr rfl⟩))⟩),
      in_const (a := b) h1 h2 (fun x hx => ⟨h3 _ ((hM _).2 (.inr ⟨x, hx, .inl rfl⟩)), h3 _ ((hM _).2 (.inr ⟨x, hx, .inr rfl⟩))⟩)]
  have some_in : ∀ n, holdI a b n op = true → ∃ lo hi, lo ∈ endsI a b ∧ hi ∈ endsI a b ∧ lo ≤ n ∧ n < hi := by
    intro n hn
    have : inI a n = true ∨ inI b n = true := by
      unfold holdI at hn
      split at hn
      · exact Bool.or_eq_true_iff.1 hn
      · split at hn
        · exact .inl (Bool.and_eq_true_iff.1 hn).1
        · exact .inl (Bool.and_eq_true_iff.1 hn).1
    rcases this with h | h
    · obtain ⟨x, hx, e⟩ := List.any_eq_true.1 h
      simp at e
      exact ⟨x.1, x.2, (hM _).2 (.inl ⟨x, hx, .inl rfl⟩), (hM _).2 (.inl ⟨x, hx, .inr rfl⟩), e.1, e.2⟩
    · obtain ⟨x, hx, e⟩ := List.any_eq_true.1 h
      simp at e
      exact ⟨x.1, x.2, (hM _).2 (.inr ⟨x, hx, .inl rfl⟩), (hM _).2 (.inr ⟨x, hx, .inr rfl⟩), e.1, e.2⟩
  generalize endsI a b = l at *
  cases l with
  | nil =>
    refine ⟨trivial, fun n => ?_⟩
    cases h : holdI a b n op with
    | false => rfl
    | true => obtain ⟨lo, hi, h1, _⟩ := some_in n h; simp at h1
  | cons p r =>
    obtain ⟨i1, i2⟩ := comb_spec (fun n => holdI a b n op) r [] p trivial (fun x hx => by simp at hx) hU
    refine ⟨i1, fun n => ?_⟩
    rw [Bool.eq_iff_iff, i2 n]
    constructor
    · rintro (hn | ⟨s, q, hs, hq, h1, h2, h3, h4⟩)
      · simp [inI] at hn
      · rw [← key s q n h1 h2 h4]; exact h3
    · intro hn
      obtain ⟨lo, hi, h1, h2, h3, h4⟩ := some_in n hn
      obtain ⟨s, q, hs, hq, g1, g2, g3⟩ := near _ hU n lo hi h1 h2 h3 h4
      refine .inr ⟨s, q, hs, ?_, g1, g2, ?_, g3⟩
      · rcases List.mem_cons.1 hq with e | e
        · subst e
          rcases List.mem_cons.1 hs with e' | e'
          · omega
          · have := hU.1 s e'; omega
        · exact e
      · rw [key s q n g1 g2 g3]; exact hn

/-- The code's lists are the reference's. -/
theorem uni_comb {a b : List (Int × Int)} (ha : Asc none a) (hb : Asc none b) : uniL a b = combI a b 0 :=
  (uni_spec ha hb).1.uniq (combI_spec a b 0).1 fun n => by rw [(uni_spec ha hb).2, (combI_spec a b 0).2]; rfl
theorem int_comb {a b : List (Int × Int)} (ha : Asc none a) (hb : Asc none b) : intI a b = combI a b 1 :=
  (asc_int a b none none ha hb).1.uniq (combI_spec a b 1).1 fun n => by rw [in_int a b none none n ha hb, (combI_spec a b 1).2]; rfl
theorem cut_comb {a b : List (Int × Int)} (ha : Asc none a) (hb : Asc none b) : cutI a b = combI a b 2 :=
  (cut_spec a b none none ha hb).1.uniq (combI_spec a b 2).1 fun n => by rw [(cut_spec a b none none ha hb).2, (combI_spec a b 2).2]; rfl

end Go.Proofs.Ytlboakmiopnifaa
