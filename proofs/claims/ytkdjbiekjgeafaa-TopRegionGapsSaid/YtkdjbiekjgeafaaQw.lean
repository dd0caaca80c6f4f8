/- Layer 02: plain: the reference's lists: all ends, and what is held between them. -/
/- Layer 02: the reference's put: an int into an ascending list. -/
/- Layer 02: the reference's ends. -/
/- Layer 02: the reference's holds. -/
/- Layer 02: the reference's combine. -/
/- Layer 02: the reference's two, one, and what stands on them. -/
/- Layer 02: FirstGap. -/
/- Lists of intervals: lengths. -/
import Derived.Test.YtkdjbiekjgeafaaQu
import Derived.Test.YtkdjbiekjgeafaaQv
import Derived.Deep.RegionHeld3
set_option linter.unusedSimpArgs false
set_option linter.unusedVariables false
namespace Go.Proofs.Ytkdjbiekjgeafaa.Iv
open Go.RowKit

/-- An int put into an ascending list, once. -/
def putN (n : Int) : List Int → List Int
  | [] => [n]
  | y :: l => if n ≤ y then (if n < y then n :: y :: l else y :: l) else y :: putN n l
def putEnds (l : List Int) (a : List (Int × Int)) : List Int := a.foldl (fun l x => putN x.2 (putN x.1 l)) l
def endsI (a b : List (Int × Int)) : List Int := putEnds (putEnds [] a) b
/-- Ascending. -/
def Up : List Int → Prop
  | [] => True
  | x :: l => (∀ y, y ∈ l → x < y) ∧ Up l
set_option maxRecDepth 100000 in
theorem mem_putN (n : Int) : ∀ (l : List Int) (m : Int), m ∈ putN n l ↔ m = n ∨ m ∈ l
  | [], m => by simp [putN]
  | y :: l, m => by
    unfold putN
    split
    · split
      · simp
      · have : n = y := by omega
        subst this; simp
    · rw [List.mem_cons, mem_putN n l m, List.mem_cons]
      constructor
      · rintro (h | h | h) <;> simp [h]
      · rintro (h | h | h) <;> simp [h]
set_option maxRecDepth 100000 in
theorem up_putN (n : Int) : ∀ (l : List Int), Up l → Up (putN n l)
  | [], _ => ⟨by simp, trivial⟩
  | y :: l, h => by
    unfold putN
    split
    · split
      · rename_i h2
        refine ⟨fun z hz => ?_, h⟩
        rcases List.mem_cons.1 hz with e | e
        · subst e; exact h2
        · have := h.1 z e; omega
      · exact h
    · rename_i h2
      refine ⟨fun z hz => ?_, up_putN n l h.2⟩
      rcases (mem_putN n l z).1 hz with e | e
      · subst e; omega
      · exact h.1 z e
set_option maxRecDepth 100000 in
theorem putEnds_up : ∀ (a : List (Int × Int)) (l : List Int), Up l → Up (putEnds l a)
  | [], l, h => h
  | x :: a, l, h => putEnds_up a _ (up_putN _ _ (up_putN _ _ h))
set_option maxRecDepth 100000 in
theorem mem_putEnds : ∀ (a : List (Int × Int)) (l : List Int) (m : Int), m ∈ putEnds l a ↔ m ∈ l ∨ ∃ x, x ∈ a ∧ (m = x.1 ∨ m = x.2)
  | [], l, m => by simp [putEnds]
  | x :: a, l, m => by
    have := mem_putEnds a (putN x.2 (putN x.1 l)) m
    unfold putEnds at this ⊢
    rw [List.foldl_cons, this, mem_putN, mem_putN]
    constructor
    · rintro ((h | h | h) | ⟨z, hz, h⟩)
      · exact .inr ⟨x, List.mem_cons_self .., .inr h⟩
      · exact .inr ⟨x, List.mem_cons_self .., .inl h⟩
      · exact .inl h
      · exact .inr ⟨z, List.mem_cons_of_mem _ hz, h⟩
    · rintro (h | ⟨z, hz, h⟩)
      · exact .inl (.inr (.inr h))
      · rcases List.mem_cons.1 hz with e | e
        · subst e
          rcases h with h | h
          · exact .inl (.inr (.inl h))
          · exact .inl (.inl h)
        · exact .inr ⟨z, e, h⟩
set_option maxRecDepth 100000 in
theorem ends_up (a b : List (Int × Int)) : Up (endsI a b) := putEnds_up b _ (putEnds_up a _ trivial)
set_option maxRecDepth 100000 in
theorem mem_ends (a b : List (Int × Int)) (m : Int) : m ∈ endsI a b ↔ (∃ x, x ∈ a ∧ (m = x.1 ∨ m = x.2)) ∨ ∃ x, x ∈ b ∧ (m = x.1 ∨ m = x.2) := by
  unfold endsI
  rw [mem_putEnds, mem_putEnds]
  simp

/-- What is held: 0 union, 1 intersection, 2 difference. -/
def holdI (a b : List (Int × Int)) (n op : Int) : Bool := if op = 0 then inI a n || inI b n else if op = 1 then inI a n && inI b n else inI a n && !inI b n
/-- An interval put behind a list, joined if they touch. -/
def joinI (acc : List (Int × Int)) (p q : Int) : List (Int × Int) :=
  match acc.getLast? with
  | some y => if y.2 = p then acc.dropLast ++ [(y.1, q)] else acc ++ [(p, q)]
  | none => [(p, q)]
set_option maxRecDepth 100000 in
theorem joinI_nil (p q : Int) : joinI [] p q = [(p, q)] := rfl
set_option maxRecDepth 100000 in
theorem joinI_app (l : List (Int × Int)) (y : Int × Int) (p q : Int) : joinI (l ++ [y]) p q = if y.2 = p then l ++ [(y.1, q)] else l ++ [y] ++ [(p, q)] := by
  simp [joinI]
set_option maxRecDepth 100000 in
theorem joinI_len (l : List (Int × Int)) (p q : Int) : (joinI l p q).length ≤ l.length + 1 := by
  rcases List.eq_nil_or_concat l with rfl | ⟨l', y, rfl⟩
  · simp [joinI]
  · rw [List.concat_eq_append, joinI_app]
    split <;> simp
def combF (h : Int → Bool) : List (Int × Int) → List Int → List (Int × Int)
  | acc, [] => acc
  | acc, [_] => acc
  | acc, p :: q :: r => combF h (if h p then joinI acc p q else acc) (q :: r)
def combI (a b : List (Int × Int)) (op : Int) : List (Int × Int) := combF (fun n => holdI a b n op) [] (endsI a b)

set_option maxRecDepth 100000 in
theorem asc_app : ∀ (l : List (Int × Int)) (p : Option Int) (y : Int × Int), Asc p (l ++ [y]) ↔ (Asc p l ∧ y.1 < y.2 ∧ (∀ b, p = some b → b < y.1) ∧ ∀ x, x ∈ l → x.2 < y.1)
  | [], p, y => by
    simp only [List.nil_append, Asc]
    constructor
    · rintro ⟨h1, h2, _⟩; exact ⟨trivial, h2, h1, by simp⟩
    · rintro ⟨_, h2, h1, _⟩; exact ⟨h1, h2, trivial⟩
  | x :: l, p, y => by
    rw [List.cons_append, Asc, asc_app l (some x.2) y, Asc]
    constructor
    · rintro ⟨h1, h2, h3, h4, h5, h6⟩
      have h7 := h5 _ rfl
      refine ⟨⟨h1, h2, h3⟩, h4, fun b hb => by have := h1 b hb; omega, fun z hz => ?_⟩
      rcases List.mem_cons.1 hz with e | e
      · subst e; exact h7
      · exact h6 z e
    · rintro ⟨⟨h1, h2, h3⟩, h4, h5, h6⟩
      exact ⟨h1, h2, h3, h4, fun b hb => by cases hb; exact h6 x (List.mem_cons_self ..), fun z hz => h6 z (List.mem_cons_of_mem _ hz)⟩
/-- All ends of a list lie at or ahead of p. -/
def Under (l : List (Int × Int)) (p : Int) : Prop := ∀ x, x ∈ l → x.2 ≤ p
set_option maxRecDepth 100000 in
theorem join_spec (acc : List (Int × Int)) (p q : Int) (ha : Asc none acc) (hu : Under acc p) (hpq : p < q) :
    Asc none (joinI acc p q) ∧ Under (joinI acc p q) q ∧ ∀ n, inI (joinI acc p q) n = (inI acc n || (decide (p ≤ n) && decide (n < q))) := by
  rcases List.eq_nil_or_concat acc with rfl | ⟨l, y, rfl⟩
  · rw [joinI_nil]
    exact ⟨⟨by simp, hpq, trivial⟩, fun x hx => by simp at hx; subst hx; exact Int.le_refl _, fun n => by simp [inI]⟩
  · rw [List.concat_eq_append] at ha hu ⊢
    rw [joinI_app]
    obtain ⟨h1, h2, _, h3⟩ := (asc_app l none y).1 ha
    have hy := hu y (by simp)
    split
    · rename_i e
      subst e
      refine ⟨(asc_app l none _).2 ⟨h1, by show y.1 < q; omega, by simp, h3⟩, fun x hx => ?_, fun n => ?_⟩
      · rcases List.mem_append.1 hx with e | e
        · have := h3 x e; omega
        · simp at e; subst e; exact Int.le_refl _
      · rw [inI_app, inI_app, Bool.or_assoc]
        congr 1
        rw [Bool.eq_iff_iff]
        simp [inI]; omega
    · rename_i e
      refine ⟨(asc_app _ none _).2 ⟨ha, hpq, by simp, fun x hx => ?_⟩, fun x hx => ?_, fun n => ?_⟩
      · rcases List.mem_append.1 hx with e' | e'
        · have := h3 x e'; show x.2 < p; omega
        · simp at e'; subst e'; show x.2 < p; omega
      · rcases List.mem_append.1 hx with e' | e'
        · have := hu x e'; omega
        · simp at e'; subst e'; exact Int.le_refl _
      · rw [inI_app]
        congr 1
        simp [inI]
set_option maxRecDepth 100000 in
theorem comb_spec (h : Int → Bool) : ∀ (r : List Int) (acc : List (Int × Int)) (p : Int), Asc none acc → Under acc p → Up (p :: r) →
    Asc none (combF h acc (p :: r)) ∧ ∀ n, (inI (combF h acc (p :: r)) n = true ↔ inI acc n = true ∨ ∃ s q, s ∈ p :: r ∧ q ∈ r ∧ s ≤ n ∧ n < q ∧ h s = true ∧ ∀ t, t ∈ p :: r → t ≤ s ∨ q ≤ t)
  | [], acc, p, ha, _, _ => by
    refine ⟨ha, fun n => ⟨fun hn => .inl hn, ?_⟩⟩
    rintro (hn | ⟨s, q, _, hq, _⟩)
    · exact hn
    · simp at hq
  | q :: r, acc, p, ha, hu, hup => by
    have hpq : p < q := hup.1 q (List.mem_cons_self ..)
    unfold combF
    have hpr : ∀ z, z ∈ r → q < z := hup.2.1
    by_cases hh : h p = true
    · rw [if_pos hh]
      obtain ⟨j1, j2, j3⟩ := join_spec acc p q ha hu hpq
      obtain ⟨i1, i2⟩ := comb_spec h r (joinI acc p q) q j1 j2 hup.2
      refine ⟨i1, fun n => ?_⟩
      rw [i2 n, j3 n]
      constructor
      · rintro (hn | ⟨s, t, hs, ht, h1, h2, h3, h4⟩)
        · rcases Bool.or_eq_true_iff.1 hn with hn | hn
          · exact .inl hn
          · simp at hn
            refine .inr ⟨p, q, List.mem_cons_self .., List.mem_cons_self .., hn.1, hn.2, hh, fun t ht => ?_⟩
            rcases List.mem_cons.1 ht with e | e
            · subst e; exact .inl (Int.le_refl _)
            · rcases List.mem_cons.1 e with e | e
              · subst e; exact .inr (Int.le_refl _)
              · have := hpr t e; exact .inr (by omega)
        · refine .inr ⟨s, t, List.mem_cons_of_mem _ hs, List.mem_cons_of_mem _ ht, h1, h2, h3, fun z hz => ?_⟩
          rcases List.mem_cons.1 hz with e | e
          · subst e
            left
            rcases List.mem_cons.1 hs with e | e
            · subst e; omega
            · have := hpr s e; omega
          · exact h4 z e
      · rintro (hn | ⟨s, t, hs, ht, h1, h2, h3, h4⟩)
        · exact .inl (by rw [hn]; rfl)
        · rcases List.mem_cons.1 hs with e | e
          · subst e
            have := h4 q (List.mem_cons_of_mem _ (List.mem_cons_self ..))
            have ht2 : q ≤ t := by
              rcases List.mem_cons.1 ht with e | e
              · omega
              · have := hpr t e; omega
            have hte : t = q := by
              rcases List.mem_cons.1 ht with e | e
              · exact e
              · have := hpr t e; omega
            subst hte
            left
            simp [h1, h2]
          · right
            refine ⟨s, t, e, ?_, h1, h2, h3, fun z hz => h4 z (List.mem_cons_of_mem _ hz)⟩
            rcases List.mem_cons.1 ht with e' | e'
            · subst e'
              rcases List.mem_cons.1 e with e'' | e''
              · omega
              · have := hpr s e''; omega
            · exact e'
    · rw [if_neg hh]
      obtain ⟨i1, i2⟩ := comb_spec h r acc q ha (fun x hx => by have := hu x hx; omega) hup.2
      refine ⟨i1, fun n => ?_⟩
      rw [i2 n]
      constructor
      · rintro (hn | ⟨s, t, hs, ht, h1, h2, h3, h4⟩)
        · exact .inl hn
        · refine .inr ⟨s, t, List.mem_cons_of_mem _ hs, List.mem_cons_of_mem _ ht, h1, h2, h3, fun z hz => ?_⟩
          rcases List.mem_cons.1 hz with e | e
          · subst e
            left
            rcases List.mem_cons.1 hs with e | e
            · subst e; omega
            · have := hpr s e; omega
          · exact h4 z e
      · rintro (hn | ⟨s, t, hs, ht, h1, h2, h3, h4⟩)
        · exact .inl hn
        · rcases List.mem_cons.1 hs with e | e
          · subst e; exact absurd h3 hh
          · right
            refine ⟨s, t, e, ?_, h1, h2, h3, fun z hz => h4 z (List.mem_cons_of_mem _ hz)⟩
            rcases List.mem_cons.1 ht with e' | e'
            · subst e'
              rcases List.mem_cons.1 e with e'' | e''
              · omega
              · have := hpr s e''; omega
            · exact e'
set_option maxRecDepth 100000 in
/-- Between two neighbours nothing changes. -/
theorem in_const {a : List (Int × Int)} {s q n : Int} (h1 : s ≤ n) (h2 : n < q) (h : ∀ x, x ∈ a → (x.1 ≤ s ∨ q ≤ x.1) ∧ (x.2 ≤ s ∨ q ≤ x.2)) : inI a s = inI a n := by
  unfold inI
  rw [Bool.eq_iff_iff, List.any_eq_true, List.any_eq_true]
  constructor
  · rintro ⟨x, hx, e⟩
    have := h x hx
    refine ⟨x, hx, ?_⟩
    simp at e ⊢; omega
  · rintro ⟨x, hx, e⟩
    have := h x hx
    refine ⟨x, hx, ?_⟩
    simp at e ⊢; omega
set_option maxRecDepth 100000 in
/-- Neighbours around an int. -/
theorem near : ∀ (l : List Int), Up l → ∀ (n lo hi : Int), lo ∈ l → hi ∈ l → lo ≤ n → n < hi → ∃ s q, s ∈ l ∧ q ∈ l ∧ s ≤ n ∧ n < q ∧ ∀ t, t ∈ l → t ≤ s ∨ q ≤ t
  | [], _, _, _, _, h, _, _, _ => by simp at h
  | x :: l, hu, n, lo, hi, hlo, hhi, h1, h2 => by
    by_cases hx : ∃ z, z ∈ l ∧ z ≤ n
    · obtain ⟨z, hz, hzn⟩ := hx
      have hhi' : hi ∈ l := by
        rcases List.mem_cons.1 hhi with e | e
        · subst e; have := hu.1 z hz; omega
        · exact e
      obtain ⟨s, q, hs, hq, a1, a2, a3⟩ := near l hu.2 n z hi hz hhi' hzn h2
      refine ⟨s, q, List.mem_cons_of_mem _ hs, List.mem_cons_of_mem _ hq, a1, a2, fun t ht => ?_⟩
      rcases List.mem_cons.1 ht with e | e
      · subst e; have := hu.1 s hs; left; omega
      · exact a3 t e
    · have hlo' : lo = x := by
        rcases List.mem_cons.1 hlo with e | e
        · exact e
        · exact absurd ⟨lo, e, h1⟩ hx
      subst hlo'
      cases l with
      | nil => simp at hhi; omega
      | cons q r =>
        refine ⟨lo, q, List.mem_cons_self .., List.mem_cons_of_mem _ (List.mem_cons_self ..), h1, ?_, fun t ht => ?_⟩
        · by_cases hq : n < q
          · exact hq
          · exact absurd ⟨q, List.mem_cons_self .., by omega⟩ hx
        · rcases List.mem_cons.1 ht with e | e
          · subst e; left; omega
          · rcases List.mem_cons.1 e with e | e
            · subst e; right; omega
            · have := hu.2.1 t e; right; omega
set_option maxRecDepth 100000 in
theorem combI_spec (a b : List (Int × Int)) (op : Int) : Asc none (combI a b op) ∧ ∀ n, inI (combI a b op) n = holdI a b n op := by
  unfold combI
  have hU := ends_up a b
  have hM := mem_ends a b
  have key : ∀ s q n, s ≤ n → n < q → (∀ t, t ∈ endsI a b → t ≤ s ∨ q ≤ t) → holdI a b s op = holdI a b n op := by
    intro s q n h1 h2 h3
    unfold holdI
    rw [in_const (a := a) h1 h2 (fun x hx => ⟨h3 _ ((hM _).2 (.inl ⟨x, hx, .inl rfl⟩)), h3 _ ((hM _).2 (.inl ⟨x, hx, .inr rfl⟩))⟩),
      in_const (a := b) h1 h2 (fun x hx => ⟨h3 _ ((hM _).2 (.inr ⟨x, hx, .inl rfl⟩)), h3 _ ((hM _).2 (.inr ⟨x, hx, .inr rfl⟩))⟩)]
  have some_in : ∀ n, holdI a b n op = true → ∃ lo hi, lo ∈ endsI a b ∧ hi ∈ endsI a b ∧ lo ≤ n ∧ n < hi := by
    intro n hn
    have : inI a n = true ∨ inI b n = true := by
      unfold holdI at hn
      split at hn
      · exact Bool.or_eq_true_iff.1 hn
      · split at hn
        · exact .inl (Bool.and_eq_true_iff.1 hn).1
        · exact .inl (Bool.and_eq_true_iff.1 hn).1
    rcases this with h | h
    · obtain ⟨x, hx, e⟩ := List.any_eq_true.1 h
      simp at e
      exact ⟨x.1, x.2, (hM _).2 (.inl ⟨x, hx, .inl rfl⟩), (hM _).2 (.inl ⟨x, hx, .inr rfl⟩), e.1, e.2⟩
    · obtain ⟨x, hx, e⟩ := List.any_eq_true.1 h
      simp at e
      exact ⟨x.1, x.2, (hM _).2 (.inr ⟨x, hx, .inl rfl⟩), (hM _).2 (.inr ⟨x, hx, .inr rfl⟩), e.1, e.2⟩
  generalize endsI a b = l at *
  cases l with
  | nil =>
    refine ⟨trivial, fun n => ?_⟩
    cases h : holdI a b n op with
    | false => rfl
    | true => obtain ⟨lo, hi, h1, _⟩ := some_in n h; simp at h1
  | cons p r =>
    obtain ⟨i1, i2⟩ := comb_spec (fun n => holdI a b n op) r [] p trivial (fun x hx => by simp at hx) hU
    refine ⟨i1, fun n => ?_⟩
    rw [Bool.eq_iff_iff, i2 n]
    constructor
    · rintro (hn | ⟨s, q, hs, hq, h1, h2, h3, h4⟩)
      · simp [inI] at hn
      · rw [← key s q n h1 h2 h4]; exact h3
    · intro hn
      obtain ⟨lo, hi, h1, h2, h3, h4⟩ := some_in n hn
      obtain ⟨s, q, hs, hq, g1, g2, g3⟩ := near _ hU n lo hi h1 h2 h3 h4
      refine .inr ⟨s, q, hs, ?_, g1, g2, ?_, g3⟩
      · rcases List.mem_cons.1 hq with e | e
        · subst e
          rcases List.mem_cons.1 hs with e' | e'
          · omega
          · have := hU.1 s e'; omega
        · exact e
      · rw [key s q n g1 g2 g3]; exact hn

set_option maxRecDepth 100000 in
/-- The code's lists are the reference's. -/
theorem uni_comb {a b : List (Int × Int)} (ha : Asc none a) (hb : Asc none b) : uniL a b = combI a b 0 :=
  (uni_spec ha hb).1.uniq (combI_spec a b 0).1 fun n => by rw [(uni_spec ha hb).2, (combI_spec a b 0).2]; rfl
set_option maxRecDepth 100000 in
theorem int_comb {a b : List (Int × Int)} (ha : Asc none a) (hb : Asc none b) : intI a b = combI a b 1 :=
  (asc_int a b none none ha hb).1.uniq (combI_spec a b 1).1 fun n => by rw [in_int a b none none n ha hb, (combI_spec a b 1).2]; rfl
set_option maxRecDepth 100000 in
theorem cut_comb {a b : List (Int × Int)} (ha : Asc none a) (hb : Asc none b) : cutI a b = combI a b 2 :=
  (cut_spec a b none none ha hb).1.uniq (combI_spec a b 2).1 fun n => by rw [(cut_spec a b none none ha hb).2, (combI_spec a b 2).2]; rfl

end Go.Proofs.Ytkdjbiekjgeafaa.Iv

set_option linter.unusedSimpArgs false
set_option linter.unusedVariables false
namespace Go.Proofs.Ytkdjbiekjgeafaa.Iv
open Go.RowKit

/-- A list of ints in memory. -/
def nF (l : List Int) : List Value := l.map (.int .i64 ·)
set_option maxRecDepth 100000 in
theorem nF_len (l : List Int) : (nF l).length = l.length := by simp [nF]
set_option maxRecDepth 100000 in
theorem nF_app (l r : List Int) : nF (l ++ r) = nF l ++ nF r := by simp [nF]
set_option maxRecDepth 100000 in
theorem nF_get (l : List Int) (k : Nat) (h : k < l.length) : (nF l)[k]? = some (.int .i64 l[k]) := by simp [nF, h]
set_option maxRecDepth 100000 in
theorem n_cell {w : World} {b o : Nat} {l : List Int} (h : ∀ j, j < l.length * 1 → w.cell? ⟨b, o + j, none⟩ = (nF l)[j]?) (k : Nat) (hk : k < l.length) : w.cell? ⟨b, o + k, none⟩ = some (.int .i64 l[k]) := by
  rw [h k (by omega), nF_get l k hk]
set_option maxRecDepth 100000 in
theorem appN_own {w : World} {base : Nat} {e : TypeId} {v : Value} {acc : List Int} {f : Int} (h : w.ownsRow base e 1 v (acc.length + 1) (nF acc ++ [.int .i64 f])) : w.ownsRow base e 1 v (acc ++ [f]).length (nF (acc ++ [f])) := by
  rw [nF_app, List.length_append]; exact h
set_option maxRecDepth 100000 in
theorem appN_own2 {w : World} {base : Nat} {e : TypeId} {v : Value} {acc : List Int} {f g : Int} (h : w.ownsRow base e 1 v (acc.length + 1 + 1) (nF acc ++ [.int .i64 f] ++ [.int .i64 g])) : w.ownsRow base e 1 v (acc ++ [f] ++ [g]).length (nF (acc ++ [f] ++ [g])) := by
  rw [nF_app, nF_app, List.length_append, List.length_append]; exact h
theorem Try.infoInt : (Try.prog.info? 3).map (fun i => (i.zero, i.size, i.bytes)) = some (some (.int .i64 0), 1, 8) := by kernel_rfl
set_option maxRecDepth 100000 in
theorem infoInt_parts : ∃ i0, Try.prog.info? 3 = some i0 ∧ i0.zero = some (.int .i64 0) ∧ i0.size = 1 ∧ i0.bytes = 8 := by
  have h := Try.infoInt
  cases hi : Try.prog.info? 3 with
  | none => rw [hi] at h; cases h
  | some i0 =>
    rw [hi] at h
    simp only [Option.map_some, Option.some.injEq, Prod.mk.injEq] at h
    exact ⟨i0, rfl, h.1, h.2.1, h.2.2⟩
def lenB (d : Bool) : Nat := if d then 1 else 0
set_option maxRecDepth 100000 in
theorem lenB_t : lenB true = 1 := rfl
set_option maxRecDepth 100000 in
theorem lenB_f : lenB false = 0 := rfl
set_option maxRecDepth 100000 in
theorem lenB_le (d : Bool) : lenB d ≤ 1 := by cases d <;> simp [lenB]
/-- What is still to come: the rest of the list, if the int stands already; else the rest with it. -/
def restN (n : Int) (d : Bool) (l : List Int) : List Int := if d then l else putN n l
set_option maxRecDepth 100000 in
theorem restN_t (n : Int) (l : List Int) : restN n true l = l := rfl
set_option maxRecDepth 100000 in
theorem restN_f (n : Int) (l : List Int) : restN n false l = putN n l := rfl
set_option maxRecDepth 100000 in
theorem putN_lt {n y : Int} {l : List Int} (h1 : n ≤ y) (h2 : n < y) : putN n (y :: l) = n :: y :: l := by rw [putN, if_pos h1, if_pos h2]
set_option maxRecDepth 100000 in
theorem putN_eq {n y : Int} {l : List Int} (h1 : n ≤ y) (h2 : ¬ n < y) : putN n (y :: l) = y :: l := by rw [putN, if_pos h1, if_neg h2]
set_option maxRecDepth 100000 in
theorem putN_gt {n y : Int} {l : List Int} (h1 : ¬ n ≤ y) : putN n (y :: l) = y :: putN n l := by rw [putN, if_neg h1]
set_option maxRecDepth 100000 in
theorem putN_len (n : Int) : ∀ l : List Int, (putN n l).length ≤ l.length + 1
  | [] => by simp [putN]
  | y :: l => by
    unfold putN
    split
    · split <;> simp
    · have := putN_len n l; simp; omega

end Go.Proofs.Ytkdjbiekjgeafaa.Iv

set_option linter.unusedSimpArgs false
set_option linter.unusedVariables false
namespace Go.Proofs.Ytkdjbiekjgeafaa.Iv
open Go.RowKit

set_option maxRecDepth 100000 in
theorem putEnds_cons (L : List Int) (x : Int × Int) (l : List (Int × Int)) : putEnds L (x :: l) = putEnds (putN x.2 (putN x.1 L)) l := rfl
set_option maxRecDepth 100000 in
theorem putEnds_nil (L : List Int) : putEnds L [] = L := rfl
set_option maxRecDepth 100000 in
theorem isSl_own {w w' : World} {base : Nat} {e : TypeId} {m n : Nat} {v : Value} {xs : List Value} (h : w.ownsRow base e m v n xs) (hE : Ext w w') : isSl w' v m n xs := isSl_of_own (own_ext h hE)

end Go.Proofs.Ytkdjbiekjgeafaa.Iv

set_option linter.unusedSimpArgs false
set_option linter.unusedVariables false
namespace Go.Proofs.Ytkdjbiekjgeafaa.Iv
open Go.RowKit

end Go.Proofs.Ytkdjbiekjgeafaa.Iv

set_option linter.unusedSimpArgs false
set_option linter.unusedVariables false
namespace Go.Proofs.Ytkdjbiekjgeafaa.Iv
open Go.RowKit

set_option maxRecDepth 100000 in
theorem name_wX {P : Program} {c : Code} {Q : Exit → Act → World → Prop} {a : Act} {w : World} (h : ∀ X, X = w → c.wp P Q a X) : c.wp P Q a w := h w rfl
set_option maxRecDepth 100000 in
theorem combF_end (h : Int → Bool) (acc : List (Int × Int)) {P : List Int} (hP : P.length ≤ 1) : combF h acc P = acc := by
  cases P with
  | nil => rfl
  | cons p P => cases P with
    | nil => rfl
    | cons q P => simp at hP
set_option maxRecDepth 100000 in
theorem combF_drop (h : Int → Bool) (acc : List (Int × Int)) (P : List Int) (i : Nat) (hi : i + 1 < P.length) : combF h acc (P.drop i) = combF h (if h P[i] then joinI acc P[i] P[i + 1] else acc) (P.drop (i + 1)) := by
  rw [List.drop_eq_getElem_cons (by omega : i < P.length), List.drop_eq_getElem_cons hi]
  rfl

end Go.Proofs.Ytkdjbiekjgeafaa.Iv

set_option linter.unusedSimpArgs false
set_option linter.unusedVariables false
namespace Go.Proofs.Ytkdjbiekjgeafaa.Iv
open Go.RowKit

set_option maxRecDepth 100000 in
theorem both_a {a b : List (Int × Int)} (h : chkI a ≠ 0) : bothI a b = chkI a := by unfold bothI; rw [if_neg h]
set_option maxRecDepth 100000 in
theorem both_b {a b : List (Int × Int)} (h : chkI a = 0) : bothI a b = chkI b := by unfold bothI; rw [if_pos h]
set_option maxRecDepth 100000 in
theorem one_lt {f t : Int} (h : f < t) : oneI (f, t) = [(f, t)] := by unfold oneI; rw [if_neg (by simp; omega)]
set_option maxRecDepth 100000 in
theorem one_ge {f t : Int} (h : ¬ f < t) (h2 : ¬ t < f) : oneI (f, t) = [] := by unfold oneI; rw [if_pos (by simp; omega)]

end Go.Proofs.Ytkdjbiekjgeafaa.Iv

set_option linter.unusedSimpArgs false
set_option linter.unusedVariables false
namespace Go.Proofs.Ytkdjbiekjgeafaa.Iv
open Go.RowKit

/-- Whether an interval has n ints, as the code asks. -/
def fitI (f t n : Int) : Bool := decide (IntKind.u64.wrap n ≤ IntKind.u64.wrap (IntKind.u64.wrap t - IntKind.u64.wrap f))
/-- The first of the free intervals that serves. -/
def firstG (n : Int) : List (Int × Int) → Int × Int
  | [] => (0, 6)
  | x :: l => if fitI x.1 x.2 n then (x.1, 0) else firstG n l
def fgI (s : List (Int × Int)) (lo hi n : Int) (L : List (Int × Int)) : Int × Int := if chkI s = 0 then (if hi < lo ∨ n < 1 then (0, 2) else firstG n L) else (0, chkI s)
set_option maxRecDepth 100000 in
theorem firstG_t {n : Int} {L : List (Int × Int)} {i : Nat} {x1 x2 : Int} (h : i < L.length) (hx : L[i] = (x1, x2)) (hf : fitI x1 x2 n = true) : firstG n (L.drop i) = (x1, 0) := by
  rw [List.drop_eq_getElem_cons h, hx, firstG, if_pos hf]
set_option maxRecDepth 100000 in
theorem firstG_f {n : Int} {L : List (Int × Int)} {i : Nat} {x1 x2 : Int} (h : i < L.length) (hx : L[i] = (x1, x2)) (hf : fitI x1 x2 n = false) : firstG n (L.drop i) = firstG n (L.drop (i + 1)) := by
  rw [List.drop_eq_getElem_cons h, hx, firstG, if_neg (by rw [hf]; decide)]
set_option maxRecDepth 100000 in
theorem firstG_e {n : Int} {L : List (Int × Int)} {i : Nat} (h : ¬ i < L.length) : firstG n (L.drop i) = (0, 6) := by
  rw [List.drop_eq_nil_of_le (by omega)]; rfl

set_option maxRecDepth 100000 in
set_option maxHeartbeats 4000000 in
theorem fg_any (s : List (Int × Int)) (lo hi n : Int) (v : Value) (w : World) (hv : isSl w v 2 s.length (ivF s)) (hl : s.length ≤ 200) :
    Calls Try.prog 9 #[v, .int .i64 lo, .int .i64 hi, .int .i64 n] w fun e w' => e = .returned (.tuple #[.int .i64 (fgI s lo hi n (cutI (oneI (lo, hi)) s)).1, .int .i64 (fgI s lo hi n (cutI (oneI (lo, hi)) s)).2]) ∧ Ext w w' := by
  have HV : Hid (isSl w v 2 s.length (ivF s)) := hv
  clear hv
  by_cases h0 : chkI s = 0
  · have e1 : (chkI s != 0) = false := by simp [h0]
    by_cases h1 : hi < lo ∨ n < 1
    · have HF : Hid (fgI s lo hi n (cutI (oneI (lo, hi)) s) = (0, 2)) := by show fgI _ _ _ _ _ = _; unfold fgI; rw [if_pos h0, if_pos h1]
      by_cases h2 : hi < lo
      · have e2 : decide (hi < lo) = true := by simpa using h2
        clear h0 h1 h2
        go_enter Try.func9, Try.ntmps9
        go_upto_region 9999 with (first | (go_at_call 21; refine (chk_any s v _ (HV.out.ext (by (exact Ext.of_below (by (repeat' (first | (with_reducible exact Below.refl _ _) | (with_reducible assumption) | (with_reducible refine Below.alloc ?_ ?_ _) | (with_reducible refine Below.wext ?_ ?_ _ _) | (with_reducible refine Below.drew ?_) | (with_reducible refine Below.setCell ?_ ?_ _) | (with_reducible exact Nat.le_refl _) | (with_reducible refine Below.drewN' ?_ _) | (simp; omega) | (simp; done)))))))).mono ?_; rintro e w1 ⟨rfl, os1, n1, rfl⟩))
        all_goals go_ret2
        all_goals (rw [HF.out]; exact ⟨rfl, by (exact Ext.of_below (by (repeat' (first | (with_reducible exact Below.refl _ _) | (with_reducible assumption) | (with_reducible refine Below.alloc ?_ ?_ _) | (with_reducible refine Below.wext ?_ ?_ _ _) | (with_reducible refine Below.drew ?_) | (with_reducible refine Below.setCell ?_ ?_ _) | (with_reducible exact Nat.le_refl _) | (with_reducible refine Below.drewN' ?_ _) | (simp; omega) | (simp; done)))))⟩)
      · have e2 : decide (hi < lo) = false := by simpa using h2
        have e3 : decide (n < 1) = true := by simp; omega
        clear h0 h1 h2
        go_enter Try.func9, Try.ntmps9
        go_upto_region 9999 with (first | (go_at_call 21; refine (chk_any s v _ (HV.out.ext (by (exact Ext.of_below (by (repeat' (first | (with_reducible exact Below.refl _ _) | (with_reducible assumption) | (with_reducible refine Below.alloc ?_ ?_ _) | (with_reducible refine Below.wext ?_ ?_ _ _) | (with_reducible refine Below.drew ?_) | (with_reducible refine Below.setCell ?_ ?_ _) | (with_reducible exact Nat.le_refl _) | (with_reducible refine Below.drewN' ?_ _) | (simp; omega) | (simp; done)))))))).mono ?_; rintro e w1 ⟨rfl, os1, n1, rfl⟩))
        all_goals go_ret2
        all_goals (rw [HF.out]; exact ⟨rfl, by (exact Ext.of_below (by (repeat' (first | (with_reducible exact Below.refl _ _) | (with_reducible assumption) | (with_reducible refine Below.alloc ?_ ?_ _) | (with_reducible refine Below.wext ?_ ?_ _ _) | (with_reducible refine Below.drew ?_) | (with_reducible refine Below.setCell ?_ ?_ _) | (with_reducible exact Nat.le_refl _) | (with_reducible refine Below.drewN' ?_ _) | (simp; omega) | (simp; done)))))⟩)
    · obtain ⟨L, hL⟩ : ∃ L, cutI (oneI (lo, hi)) s = L := ⟨_, rfl⟩
      have HF : Hid (fgI s lo hi n (cutI (oneI (lo, hi)) s) = firstG n L) := by show fgI _ _ _ _ _ = _; unfold fgI; rw [if_pos h0, if_neg h1, hL]
      have HLL : Hid (cutI (oneI (lo, hi)) s = L) := hL
      have e2 : decide (hi < lo) = false := by simp; omega
      have e3 : decide (n < 1) = false := by simp; omega
      clear h0 h1 hL
      go_enter Try.func9, Try.ntmps9
      go_upto_region 7 with (first | (go_at_call 21; refine (chk_any s v _ (HV.out.ext (by (exact Ext.of_below (by (repeat' (first | (with_reducible exact Below.refl _ _) | (with_reducible assumption) | (with_reducible refine Below.alloc ?_ ?_ _) | (with_reducible refine Below.wext ?_ ?_ _ _) | (with_reducible refine Below.drew ?_) | (with_reducible refine Below.setCell ?_ ?_ _) | (with_reducible exact Nat.le_refl _) | (with_reducible refine Below.drewN' ?_ _) | (simp; omega) | (simp; done)))))))).mono ?_; rintro e w1 ⟨rfl, os1, n1, rfl⟩) | (go_at_call 23; refine (one_any lo hi _).mono ?_; rintro e w1 ⟨v1, rfl, hsl1, os2, n2, rfl⟩; replace hsl1 : Hid _ := hsl1) | (go_at_call 22; refine (cut_any (oneI (lo, hi)) s v1 v _ (isSl.ext hsl1.out (by (exact Ext.of_below (by (repeat' (first | (with_reducible exact Below.refl _ _) | (with_reducible assumption) | (with_reducible refine Below.alloc ?_ ?_ _) | (with_reducible refine Below.wext ?_ ?_ _ _) | (with_reducible refine Below.drew ?_) | (with_reducible refine Below.setCell ?_ ?_ _) | (with_reducible exact Nat.le_refl _) | (with_reducible refine Below.drewN' ?_ _) | (simp; omega) | (simp; done))))))) (HV.out.ext (by (exact Ext.of_below (by (repeat' (first | (with_reducible exact Below.refl _ _) | (with_reducible assumption) | (with_reducible refine Below.alloc ?_ ?_ _) | (with_reducible refine Below.wext ?_ ?_ _ _) | (with_reducible refine Below.drew ?_) | (with_reducible refine Below.setCell ?_ ?_ _) | (with_reducible exact Nat.le_refl _) | (with_reducible refine Below.drewN' ?_ _) | (simp; omega) | (simp; done))))))) (Nat.le_trans (oneI_le _) (by decide)) hl).mono ?_; intro e w1 hpp; obtain ⟨r1, hr, hown, hbel⟩ := hpp; subst hr; dsimp only; have HR1 : Hid (isSl w1 r1 2 L.length (ivF L)) := HLL.out ▸ isSl_of_own hown; have HB1 : Hid (Ext w w1) := Ext.trans (by (exact Ext.of_below (by (repeat' (first | (with_reducible exact Below.refl _ _) | (with_reducible assumption) | (with_reducible refine Below.alloc ?_ ?_ _) | (with_reducible refine Below.wext ?_ ?_ _ _) | (with_reducible refine Below.drew ?_) | (with_reducible refine Below.setCell ?_ ?_ _) | (with_reducible exact Nat.le_refl _) | (with_reducible refine Below.drewN' ?_ _) | (simp; omega) | (simp; done)))))) (Ext.of_below hbel); clear hown hbel hsl1; obtain ⟨pr, cr, hrr⟩ := sl_form HR1.out; subst hrr))
      have hLm := sl_max HR1.out
      unfold maxLen at hLm
      go_loopw [32] (fun vi wr => ∃ i : Nat, vi = .int .i64 i ∧ i ≤ L.length ∧ firstG n L = firstG n (L.drop i) ∧ Ext w1 wr) (fun vi _ => L.length - (intOf vi).toNat)
      case atStart => exact ⟨0, rfl, by omega, rfl, by (exact Ext.of_below (by (repeat' (first | (with_reducible exact Below.refl _ _) | (with_reducible assumption) | (with_reducible refine Below.alloc ?_ ?_ _) | (with_reducible refine Below.wext ?_ ?_ _ _) | (with_reducible refine Below.drew ?_) | (with_reducible refine Below.setCell ?_ ?_ _) | (with_reducible exact Nat.le_refl _) | (with_reducible refine Below.drewN' ?_ _) | (simp; omega) | (simp; done)))))⟩
      case round =>
        obtain ⟨i, rfl, hi2, hE, hX⟩ := hrel
        have HE : Hid (firstG n L = firstG n (L.drop i)) := hE
        have HX1 : Hid (Ext w1 wr) := hX
        clear hE hX
        by_cases hlt : i < L.length
        · obtain ⟨b, o, c', hv', g1, g2, g3, g4⟩ := HR1.out.cell (by omega)
          obtain ⟨rfl, rfl⟩ : pr = some ⟨b, o, none⟩ ∧ cr = c' := by cases hv'; exact ⟨rfl, rfl⟩
          obtain ⟨a0, a1⟩ := iv_cells g4 i hlt
          obtain ⟨x1, hx1⟩ : ∃ x1, x1 = L[i].1 := ⟨_, rfl⟩
          obtain ⟨x2, hx2⟩ : ∃ x2, x2 = L[i].2 := ⟨_, rfl⟩
          rw [← hx1] at a0
          rw [← hx2] at a1
          have HX : Hid (L[i] = (x1, x2)) := by show L[i] = (x1, x2); rw [hx1, hx2]
          clear hx1 hx2
          have zb : LtD b wr.heap.size := Nat.lt_of_lt_of_le g3 HX1.out.below.size
          have k0 : wr.cell? ⟨b, o + i * 2, none⟩ = some (.int .i64 x1) := (HX1.out.below.cell (p := ⟨b, o + i * 2, none⟩) g3).trans a0
          have k1 : wr.cell? ⟨b, o + i * 2 + 1, none⟩ = some (.int .i64 x2) := (HX1.out.below.cell (p := ⟨b, o + i * 2 + 1, none⟩) g3).trans a1
          clear hv' g1 g2 g3 g4 a0 a1
          cases hf : fitI x1 x2 n with
          | true =>
            have HT := firstG_t hlt HX.out hf
            replace HT : Hid _ := HT
            unfold fitI at hf
            go_wp2_with fail
            all_goals go_ret2
            all_goals (rw [HF.out, HE.out, HT.out]; exact ⟨rfl, HB1.out.trans (HX1.out.trans (by (exact Ext.of_below (by (repeat' (first | (with_reducible exact Below.refl _ _) | (with_reducible assumption) | (with_reducible refine Below.alloc ?_ ?_ _) | (with_reducible refine Below.wext ?_ ?_ _ _) | (with_reducible refine Below.drew ?_) | (with_reducible refine Below.setCell ?_ ?_ _) | (with_reducible exact Nat.le_refl _) | (with_reducible refine Below.drewN' ?_ _) | (simp; omega) | (simp; done)))))))⟩)
          | false =>
            have HT := firstG_f hlt HX.out hf
            replace HT : Hid _ := HT
            unfold fitI at hf
            go_wp2_with fail
            go_roundw
            case rel => exact ⟨i + 1, by go_num, by omega, HE.out.trans HT.out, HX1.out.trans (by (exact Ext.of_below (by (repeat' (first | (with_reducible exact Below.refl _ _) | (with_reducible assumption) | (with_reducible refine Below.alloc ?_ ?_ _) | (with_reducible refine Below.wext ?_ ?_ _ _) | (with_reducible refine Below.drew ?_) | (with_reducible refine Below.setCell ?_ ?_ _) | (with_reducible exact Nat.le_refl _) | (with_reducible refine Below.drewN' ?_ _) | (simp; omega) | (simp; done))))))⟩
            case measure => simp [intOf]; omega
        · have HT := firstG_e (n := n) hlt
          replace HT : Hid _ := HT
          go_wp2_with fail
          all_goals go_ret2
          all_goals (rw [HF.out, HE.out, HT.out]; exact ⟨rfl, HB1.out.trans (HX1.out.trans (by (exact Ext.of_below (by (repeat' (first | (with_reducible exact Below.refl _ _) | (with_reducible assumption) | (with_reducible refine Below.alloc ?_ ?_ _) | (with_reducible refine Below.wext ?_ ?_ _ _) | (with_reducible refine Below.drew ?_) | (with_reducible refine Below.setCell ?_ ?_ _) | (with_reducible exact Nat.le_refl _) | (with_reducible refine Below.drewN' ?_ _) | (simp; omega) | (simp; done)))))))⟩)
  · have e1 : (chkI s != 0) = true := by simp [h0]
    have HF : Hid (fgI s lo hi n (cutI (oneI (lo, hi)) s) = (0, chkI s)) := by show fgI _ _ _ _ _ = _; unfold fgI; rw [if_neg h0]
    clear h0
    go_enter Try.func9, Try.ntmps9
    go_upto_region 9999 with (first | (go_at_call 21; refine (chk_any s v _ (HV.out.ext (by (exact Ext.of_below (by (repeat' (first | (with_reducible exact Below.refl _ _) | (with_reducible assumption) | (with_reducible refine Below.alloc ?_ ?_ _) | (with_reducible refine Below.wext ?_ ?_ _ _) | (with_reducible refine Below.drew ?_) | (with_reducible refine Below.setCell ?_ ?_ _) | (with_reducible exact Nat.le_refl _) | (with_reducible refine Below.drewN' ?_ _) | (simp; omega) | (simp; done)))))))).mono ?_; rintro e w1 ⟨rfl, os1, n1, rfl⟩))
    all_goals go_ret2
    all_goals (rw [HF.out]; exact ⟨rfl, by (exact Ext.of_below (by (repeat' (first | (with_reducible exact Below.refl _ _) | (with_reducible assumption) | (with_reducible refine Below.alloc ?_ ?_ _) | (with_reducible refine Below.wext ?_ ?_ _ _) | (with_reducible refine Below.drew ?_) | (with_reducible refine Below.setCell ?_ ?_ _) | (with_reducible exact Nat.le_refl _) | (with_reducible refine Below.drewN' ?_ _) | (simp; omega) | (simp; done)))))⟩)

end Go.Proofs.Ytkdjbiekjgeafaa.Iv

set_option linter.unusedSimpArgs false
set_option linter.unusedVariables false
namespace Go.Proofs.Ytkdjbiekjgeafaa.Iv

theorem merge_len : ∀ (a b : List (Int × Int)), (mergeI a b).length = a.length + b.length
  | [], b => by simp [mergeI]
  | x :: a, [] => by simp [mergeI]
  | x :: a, y :: b => by
    rw [mergeI]
    split
    · have := merge_len a (y :: b); simp only [List.length_cons] at this ⊢; omega
    · have := merge_len (x :: a) b; simp only [List.length_cons] at this ⊢; omega
termination_by a b => a.length + b.length
theorem fold_len : ∀ (m acc : List (Int × Int)), (m.foldl putI acc).length ≤ acc.length + m.length
  | [], acc => by simp
  | x :: m, acc => by
    have h1 := fold_len m (putI acc x)
    have h2 := putI_len acc x
    simp only [List.foldl_cons, List.length_cons]
    omega
theorem uni_len (a b : List (Int × Int)) : (uniL a b).length ≤ a.length + b.length := by
  have := fold_len (mergeI a b) []
  rw [merge_len] at this
  simpa [uniL] using this
theorem skip_len (f : Int) : ∀ b : List (Int × Int), (skipI f b).length ≤ b.length
  | [] => by simp [skipI]
  | y :: b => by
    rw [skip_cons]
    have := skip_len f b
    split <;> simp; omega
theorem skip_skip {s t : Int} (h : s ≤ t) : ∀ b : List (Int × Int), skipI t (skipI s b) = skipI t b
  | [] => rfl
  | y :: b => by
    rw [skip_cons s]
    split
    · rw [skip_skip h b, skip_cons t, if_pos (by omega)]
    · rfl
theorem cut1_len {t' : Int} : ∀ (b : List (Int × Int)) (f t : Int), t ≤ t' → (cut1 f t b).length + (skipI t' b).length ≤ b.length + 1
  | [], f, t, _ => by unfold cut1; split <;> simp [skipI]
  | y :: b, f, t, ht => by
    unfold cut1
    by_cases h : t ≤ y.1 ∨ t ≤ f
    · rw [if_pos h]
      have := skip_len t' (y :: b)
      split <;> simp at this ⊢ <;> omega
    · rw [if_neg h]
      have h1 : ((if f < y.1 then [(f, y.1)] else [] : List (Int × Int))).length ≤ 1 := by split <;> simp
      rw [List.length_append]
      by_cases h2 : y.2 < t
      · have e : skipI t' (y :: b) = skipI t' b := by rw [skip_cons, if_pos (by omega)]
        rw [e]
        have := cut1_len b y.2 t ht
        simp only [List.length_cons]
        omega
      · have e : cut1 y.2 t b = [] := by
          cases b with
          | nil => unfold cut1; rw [if_neg h2]
          | cons z b => unfold cut1; rw [if_pos (Or.inr (by omega)), if_neg h2]
        rw [e]
        have := skip_len t' (y :: b)
        simp only [List.length_cons, List.length_nil] at this ⊢
        omega
theorem cutI_skip : ∀ {a : List (Int × Int)} {s : Int} (b : List (Int × Int)), Asc (some s) a → cutI a (skipI s b) = cutI a b
  | [], _, _, _ => rfl
  | x :: a, s, b, h => by
    have := h.1 s rfl
    rw [cutI, cutI, skip_skip (by omega)]
theorem cut_len : ∀ (a b : List (Int × Int)) (p : Option Int), Asc p a → (cutI a b).length ≤ a.length + b.length
  | [], b, _, _ => by simp [cutI]
  | x :: a, b, p, h => by
    rw [cutI, List.length_append, ← cutI_skip (s := x.2) (skipI x.1 b) h.2.2]
    have h1 := cut_len a (skipI x.2 (skipI x.1 b)) _ h.2.2
    have h2 := cut1_len (skipI x.1 b) x.1 x.2 (Int.le_refl x.2)
    have h3 := skip_len x.1 b
    simp only [List.length_cons]
    omega

end Go.Proofs.Ytkdjbiekjgeafaa.Iv
