/- Cells: blocks that fit, moves that clear a range. -/
import Derived.Test.YtohpbfcechbngaaCa
set_option linter.unusedSimpArgs false
set_option linter.unusedVariables false
namespace Go.Proofs.Ytohpbfcechbngaa

def okB (p : Int → Bool) (l : List Int) (k q : Nat) : Bool := ((l.drop (q * 2 ^ k)).take (2 ^ k)).all p
def blkF (p : Int → Bool) (l : List Int) (k : Nat) : Int := match (List.range (l.length / 2 ^ k)).find? (okB p l k) with | some q => ((q * 2 ^ k : Nat) : Int) | none => -1
theorem blk_some {p : Int → Bool} {l : List Int} {k : Nat} (h : 0 ≤ blkF p l k) : ∃ q, blkF p l k = ((q * 2 ^ k : Nat) : Int) ∧ (q + 1) * 2 ^ k ≤ l.length ∧ okB p l k q = true := by
  unfold blkF at h ⊢
  cases hf : (List.range (l.length / 2 ^ k)).find? (okB p l k) with
  | none => rw [hf] at h; simp at h
  | some q =>
    refine ⟨q, rfl, ?_, List.find?_some hf⟩
    have h1 := List.mem_range.1 (List.mem_of_find?_eq_some hf)
    have h2 : q + 1 ≤ l.length / 2 ^ k := h1
    exact (Nat.le_div_iff_mul_le (Nat.pow_pos (by decide))).1 h2
theorem blk_none {p : Int → Bool} {l : List Int} {k : Nat} (h : ¬ 0 ≤ blkF p l k) (q : Nat) (hq : (q + 1) * 2 ^ k ≤ l.length) : okB p l k q = false := by
  unfold blkF at h
  cases hf : (List.range (l.length / 2 ^ k)).find? (okB p l k) with
  | none =>
    have := List.find?_eq_none.1 hf q (List.mem_range.2 ((Nat.le_div_iff_mul_le (Nat.pow_pos (by decide))).2 hq))
    simpa using this
  | some q' => rw [hf] at h; exact absurd (Int.natCast_nonneg _) h
/-- Round q of the search. -/
theorem blk_at {p : Int → Bool} {l : List Int} {k q : Nat} (h0 : ∀ j, j < q → okB p l k j = false) (hq : (q + 1) * 2 ^ k ≤ l.length) (h : okB p l k q = true) : blkF p l k = ((q * 2 ^ k : Nat) : Int) := by
  by_cases hb : 0 ≤ blkF p l k
  · obtain ⟨q', e, h1, h2⟩ := blk_some hb
    rw [e]
    have h3 : ¬ q' < q := fun hlt => by rw [h0 q' hlt] at h2; cases h2
    have h4 : ¬ q < q' := fun hlt => by
      unfold blkF at e
      cases hf : (List.range (l.length / 2 ^ k)).find? (okB p l k) with
      | none => rw [hf] at e; dsimp only at e; have := Int.natCast_nonneg (q' * 2 ^ k); omega
      | some q2 =>
        rw [hf] at e
        dsimp only at e
        have e2 : q2 * 2 ^ k = q' * 2 ^ k := by exact_mod_cast e
        have e3 := Nat.eq_of_mul_eq_mul_right (Nat.pow_pos (by decide)) e2
        subst e3
        obtain ⟨h5, us, ws, h6, h7⟩ := List.find?_eq_some_iff_append.1 hf
        have h8 : q ∈ us := by
          have hm : q ∈ List.range (l.length / 2 ^ k) := List.mem_range.2 ((Nat.le_div_iff_mul_le (Nat.pow_pos (by decide))).2 hq)
          have hp := List.pairwise_lt_range (n := l.length / 2 ^ k)
          rw [h6] at hm hp
          rcases List.mem_append.1 hm with h | h
          · exact h
          · rw [List.pairwise_append, List.pairwise_cons] at hp
            rcases List.mem_cons.1 h with h | h
            · omega
            · have := hp.2.1.1 q h; omega
        have := h7 q h8
        rw [h] at this
        cases this
    have : q' = q := by omega
    rw [this]
  · rw [blk_none hb q hq] at h; cases h
theorem blk_end {p : Int → Bool} {l : List Int} {k q : Nat} (h0 : ∀ j, j < q → okB p l k j = false) (hq : l.length < (q + 1) * 2 ^ k) : blkF p l k = -1 := by
  by_cases hb : 0 ≤ blkF p l k
  · obtain ⟨q', e, h1, h2⟩ := blk_some hb
    have h3 : q' < q := by
      rcases Nat.lt_or_ge q' q with h | h
      · exact h
      · have := Nat.mul_le_mul_right (2 ^ k) (Nat.add_le_add_right h 1)
        omega
    rw [h0 q' h3] at h2; cases h2
  · unfold blkF at hb ⊢
    cases hf : (List.range (l.length / 2 ^ k)).find? (okB p l k) with
    | none => rfl
    | some q' => rw [hf] at hb; exact absurd (Int.natCast_nonneg _) hb

def freeC (l : List Int) : Nat := l.countP (· == 0)
def possF (l : List Int) (k : Nat) : Int := bif decide (blkF (fun c => c != 2) l k < 0) then -1 else bif decide (freeC l < 2 ^ k) then -1 else blkF (fun c => c != 2) l k

/-! ### Moves -/
def isC (l : List Int) (c : Int) (i : Nat) : Bool := l[i]? == some c
/-- Movable cells from s to before e, free cells from 0 to before e that lie outside. -/
def mvF (l : List Int) (s e : Nat) : List Nat := (List.range e).filter (fun i => decide (s ≤ i) && isC l 1 i)
def frF (l : List Int) (s e : Nat) : List Nat := (List.range l.length).filter (fun i => !(decide (s ≤ i) && decide (i < e)) && isC l 0 i)
def appF : List Int → List (Nat × Nat) → Option (List Int)
  | out, [] => some out
  | out, (f, t) :: ms => bif isC out 1 f && isC out 0 t then appF ((out.set f 0).set t 1) ms else none
theorem isC_iff {l : List Int} {c : Int} {i : Nat} : isC l c i = true ↔ ∃ h : i < l.length, l[i] = c := by
  unfold isC
  rw [beq_iff_eq, List.getElem?_eq_some_iff]
theorem isC_set {l : List Int} {c d : Int} {i j : Nat} (h : i ≠ j) : isC (l.set i d) c j = isC l c j := by
  unfold isC
  rw [List.getElem?_set_ne h]
theorem cnt_set (p : Int → Bool) : ∀ (l : List Int) (i : Nat) (d : Int) (h : i < l.length), (l.set i d).countP p + (if p l[i] = true then 1 else 0) = l.countP p + (if p d = true then 1 else 0)
  | [], i, d, h => by simp at h
  | c :: l, 0, d, h => by simp only [List.set_cons_zero, List.countP_cons, List.getElem_cons_zero]; omega
  | c :: l, i + 1, d, h => by
    have := cnt_set p l i d (by simpa using h)
    simp only [List.set_cons_succ, List.countP_cons, List.getElem_cons_succ]
    omega
theorem app_of : ∀ (mv fr : List Nat) (out : List Int), mv.Nodup → fr.Nodup → (∀ f ∈ mv, isC out 1 f = true) → (∀ t ∈ fr, isC out 0 t = true) → mv.length ≤ fr.length → (∀ c ∈ out, c = 0 ∨ c = 1 ∨ c = 2) →
    ∃ g, appF out (mv.zip fr) = some g ∧ g.length = out.length ∧ freeC g = freeC out ∧ (∀ i, i ∉ mv → i ∉ fr → g[i]? = out[i]?) ∧ (∀ i ∈ mv, g[i]? = some 0) ∧ (∀ c ∈ g, c = 0 ∨ c = 1 ∨ c = 2)
  | [], fr, out, _, _, _, _, _, hc => ⟨out, by simp [appF], rfl, rfl, fun _ _ _ => rfl, fun _ h => (List.not_mem_nil h).elim, hc⟩
  | f :: mv, [], out, _, _, _, _, h, _ => by simp at h
  | f :: mv, t :: fr, out, h1, h2, h3, h4, h5, hc => by
    rw [List.nodup_cons] at h1 h2
    have hf := h3 f (List.mem_cons_self ..)
    have ht := h4 t (List.mem_cons_self ..)
    obtain ⟨gf, ef⟩ := isC_iff.1 hf
    obtain ⟨gt, et⟩ := isC_iff.1 ht
    have hft : f ≠ t := fun e => by subst e; rw [ef] at et; cases et
    have hmf : ∀ i ∈ mv, i ∉ t :: fr := fun i hi hj => by
      have a := isC_iff.1 (h3 i (List.mem_cons_of_mem _ hi))
      have b := isC_iff.1 (h4 i hj)
      obtain ⟨_, a⟩ := a
      obtain ⟨_, b⟩ := b
      rw [a] at b; cases b
    obtain ⟨g, e1, e2, e3, e4, e5, e6⟩ := app_of mv fr ((out.set f 0).set t 1) h1.2 h2.2 (fun i hi => by
      have : t ≠ i := fun e => by subst e; exact hmf t hi (List.mem_cons_self ..)
      have : f ≠ i := fun e => by subst e; exact h1.1 hi
      rw [isC_set ‹t ≠ i›, isC_set ‹f ≠ i›]
      exact h3 i (List.mem_cons_of_mem _ hi)) (fun i hi => by
      have a : t ≠ i := fun e => by subst e; exact h2.1 hi
      have b : f ≠ i := fun e => by
        subst e
        obtain ⟨_, b⟩ := isC_iff.1 (h4 f (List.mem_cons_of_mem _ hi))
        rw [ef] at b; cases b
      rw [isC_set a, isC_set b]
      exact h4 i (List.mem_cons_of_mem _ hi)) (by simpa using h5) (fun c hc' => by
      rcases List.mem_or_eq_of_mem_set hc' with h | h
      · rcases List.mem_or_eq_of_mem_set h with h | h
        · exact hc c h
        · exact .inl h
      · exact .inr (.inl h))
    refine ⟨g, ?_, ?_, ?_, ?_, ?_, e6⟩
    · rw [List.zip_cons_cons]
      unfold appF
      rw [hf, ht]
      exact e1
    · rw [e2, List.length_set, List.length_set]
    · rw [e3]
      have a1 := cnt_set (· == 0) (out.set f 0) t 1 (by rw [List.length_set]; exact gt)
      have a2 := cnt_set (· == 0) out f 0 gf
      rw [List.getElem_set_ne hft, et] at a1
      rw [ef] at a2
      unfold freeC
      simp at a1 a2
      omega
    · intro i hi hj
      rw [List.mem_cons, not_or] at hi hj
      rw [e4 i hi.2 hj.2, List.getElem?_set_ne (fun e => hj.1 e.symm), List.getElem?_set_ne (fun e => hi.1 e.symm)]
    · intro i hi
      rcases List.mem_cons.1 hi with rfl | hi
      · by_cases hm : i ∈ mv
        · exact e5 i hm
        · by_cases hf2 : i ∈ fr
          · obtain ⟨_, b⟩ := isC_iff.1 (h4 i (List.mem_cons_of_mem _ hf2))
            rw [ef] at b; cases b
          · rw [e4 i hm hf2, List.getElem?_set_ne (fun e => hft e.symm), List.getElem?_set_self gf]
      · exact e5 i hi

/-! ### Frames -/
def frees (l : List Int) : List Nat := (List.range l.length).filter (isC l 0)
theorem frees_mem {l : List Int} {i : Nat} : i ∈ frees l ↔ isC l 0 i = true := by
  unfold frees
  rw [List.mem_filter, List.mem_range]
  exact ⟨fun h => h.2, fun h => ⟨(isC_iff.1 h).1, h⟩⟩
theorem frees_nd (l : List Int) : (frees l).Nodup := List.Pairwise.filter _ List.nodup_range
theorem frees_lt {l : List Int} : ∀ f ∈ frees l, f < l.length := fun f hf => (isC_iff.1 (frees_mem.1 hf)).1
theorem filt_len (l : List Int) (p : Int → Bool) : ((List.range l.length).filter (fun i => match l[i]? with | some c => p c | none => false)).length = l.countP p := by
  induction l with
  | nil => rfl
  | cons c l ih =>
    rw [List.length_cons, List.range_succ_eq_map, List.filter_cons, List.filter_map, List.countP_cons]
    simp only [List.getElem?_cons_zero]
    have : ((fun i => match (c :: l)[i]? with | some c => p c | none => false) ∘ Nat.succ) = (fun i => match l[i]? with | some c => p c | none => false) := by
      funext i; simp
    rw [this]
    by_cases h : p c = true
    · rw [if_pos h, if_pos h, List.length_cons, List.length_map, ih]
    · rw [if_neg h, if_neg h, List.length_map, ih]; rfl
theorem frees_len (l : List Int) : (frees l).length = freeC l := by
  unfold freeC frees
  rw [← filt_len]
  congr 2
  funext i
  unfold isC
  cases l[i]? with
  | none => rfl
  | some c => simp
theorem okB_iff {p : Int → Bool} {l : List Int} {k q : Nat} (hq : (q + 1) * 2 ^ k ≤ l.length) : okB p l k q = true ↔ ∀ i (h : i < l.length), i / 2 ^ k = q → p l[i] = true := by
  have h2 : 0 < 2 ^ k := Nat.pow_pos (by decide)
  rw [Nat.add_mul, Nat.one_mul] at hq
  unfold okB
  rw [List.all_eq_true]
  constructor
  · intro h i hi e
    refine h _ ?_
    have h3 := Nat.div_mul_le_self i (2 ^ k)
    have h4 := Nat.lt_div_mul_add (a := i) h2
    rw [e] at h3 h4
    rw [List.mem_take_iff_getElem]
    refine ⟨i - q * 2 ^ k, by rw [List.length_drop]; omega, ?_⟩
    rw [List.getElem_drop]
    congr 1
    omega
  · intro h x hx
    obtain ⟨j, hj, rfl⟩ := List.mem_take_iff_getElem.1 hx
    rw [List.getElem_drop]
    rw [List.length_drop] at hj
    refine h _ _ ?_
    rw [Nat.mul_comm, Nat.mul_add_div h2, Nat.div_eq_of_lt (by omega), Nat.add_zero]
theorem full_iff {l : List Int} {k q : Nat} : full (· ∈ frees l) k q ↔ (q + 1) * 2 ^ k ≤ l.length ∧ okB (fun c => c == 0) l k q = true := by
  have h2 : 0 < 2 ^ k := Nat.pow_pos (by decide)
  constructor
  · intro h
    have h1 := frees_lt _ (h (q * 2 ^ k + (2 ^ k - 1)) (by rw [Nat.add_comm, Nat.add_mul_div_right _ _ h2, Nat.div_eq_of_lt (by omega), Nat.zero_add]))
    have hq : (q + 1) * 2 ^ k ≤ l.length := by rw [Nat.add_mul]; omega
    refine ⟨hq, (okB_iff hq).2 (fun i hi e => ?_)⟩
    obtain ⟨_, h3⟩ := isC_iff.1 (frees_mem.1 (h i e))
    simp [h3]
  · rintro ⟨hq, h⟩ i e
    have hi : i < l.length := by
      have h4 := Nat.lt_div_mul_add (a := i) h2
      rw [e] at h4
      rw [Nat.add_mul] at hq; omega
    have := (okB_iff hq).1 h i hi e
    exact frees_mem.2 (isC_iff.2 ⟨hi, by simpa using this⟩)
/-- A block of an order fits exactly if one is free. -/
theorem fits_iff {l : List Int} {k : Nat} : 0 ≤ blkF (fun c => c == 0) l k ↔ ∃ q, full (· ∈ frees l) k q := by
  constructor
  · intro h
    obtain ⟨q, _, h1, h2⟩ := blk_some h
    exact ⟨q, full_iff.2 ⟨h1, h2⟩⟩
  · rintro ⟨q, h⟩
    obtain ⟨h1, h2⟩ := full_iff.1 h
    by_cases hb : 0 ≤ blkF (fun c => c == 0) l k
    · exact hb
    · rw [blk_none hb q h1] at h2; cases h2
end Go.Proofs.Ytohpbfcechbngaa
