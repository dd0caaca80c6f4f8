/- Buddy lists: what putting a block does to canonical lists. -/
import Derived.Test.YtohpbfcechbngaaNg
set_option linter.unusedSimpArgs false
set_option linter.unusedVariables false
namespace Go.Proofs.Ytohpbfcechbngaa

def insS (l : List Int) (x : Int) : List Int := insAtI l (lowI l x) x
def delS (l : List Int) (x : Int) : List Int := l.take (lowI l x) ++ l.drop (lowI l x + 1)
theorem low_split : ∀ (l : List Int) (x : Int), l.Pairwise (· < ·) → ∃ a b, l = a ++ b ∧ (∀ y ∈ a, y < x) ∧ (∀ y ∈ b, x ≤ y) ∧ lowI l x = a.length
  | [], x, _ => ⟨[], [], rfl, by simp, by simp, rfl⟩
  | y :: l, x, h => by
    rw [List.pairwise_cons] at h
    by_cases hy : y < x
    · obtain ⟨a, b, rfl, h1, h2, h3⟩ := low_split l x h.2
      refine ⟨y :: a, b, rfl, ?_, h2, ?_⟩
      · intro z hz
        rcases List.mem_cons.1 hz with rfl | hz
        · exact hy
        · exact h1 z hz
      · unfold lowI at h3 ⊢
        rw [List.countP_cons, h3]
        simp [hy]
    · refine ⟨[], y :: l, rfl, by simp, ?_, ?_⟩
      · intro z hz
        rcases List.mem_cons.1 hz with rfl | hz
        · omega
        · have := h.1 z hz; omega
      · unfold lowI
        rw [List.countP_eq_zero.2 (fun z hz => ?_)]
        · rfl
        · rcases List.mem_cons.1 hz with rfl | hz
          · simpa using hy
          · have := h.1 z hz; simp; omega
theorem low_le (l : List Int) (x : Int) : lowI l x ≤ l.length := List.countP_le_length
theorem insS_of {l : List Int} {x : Int} (hs : l.Pairwise (· < ·)) (hx : x ∉ l) : (insS l x).Pairwise (· < ·) ∧ (∀ y, y ∈ insS l x ↔ y ∈ l ∨ y = x) ∧ (insS l x).length = l.length + 1 := by
  obtain ⟨a, b, rfl, h1, h2, h3⟩ := low_split l x hs
  unfold insS insAtI
  rw [h3, List.take_left, List.drop_left]
  rw [List.pairwise_append] at hs
  refine ⟨?_, ?_, ?_⟩
  · rw [List.pairwise_append, List.pairwise_cons]
    refine ⟨hs.1, ⟨fun y hy => ?_, hs.2.1⟩, fun y hy z hz => ?_⟩
    · have := h2 y hy
      have : x ≠ y := fun e => hx (by rw [e]; exact List.mem_append_right _ hy)
      omega
    · rcases List.mem_cons.1 hz with rfl | hz
      · exact h1 y hy
      · exact hs.2.2 y hy z hz
  · intro y
    simp only [List.mem_append, List.mem_cons]
    constructor
    · rintro (h | rfl | h)
      · exact .inl (.inl h)
      · exact .inr rfl
      · exact .inl (.inr h)
    · rintro ((h | h) | h)
      · exact .inl h
      · exact .inr (.inr h)
      · exact .inr (.inl h)
  · simp only [List.length_append, List.length_cons]; omega
theorem del_split {l : List Int} {x : Int} (hs : l.Pairwise (· < ·)) (hx : x ∈ l) : ∃ a b, l = a ++ x :: b ∧ lowI l x = a.length ∧ delS l x = a ++ b ∧ (∀ y ∈ a, y < x) ∧ (∀ y ∈ b, x < y) := by
  obtain ⟨a, b, rfl, h1, h2, h3⟩ := low_split l x hs
  cases b with
  | nil =>
    rw [List.append_nil] at hx
    have := h1 x hx; omega
  | cons y b =>
    rw [List.pairwise_append, List.pairwise_cons] at hs
    have hxy : y = x := by
      rcases List.mem_append.1 hx with h | h
      · have := h1 x h; omega
      · rcases List.mem_cons.1 h with h | h
        · exact h.symm
        · have := hs.2.1.1 x h
          have := h2 y (List.mem_cons_self ..)
          omega
    subst hxy
    refine ⟨a, b, rfl, h3, ?_, h1, hs.2.1.1⟩
    unfold delS
    rw [h3, List.take_left, ← List.drop_drop, List.drop_left]
    rfl
theorem delS_of {l : List Int} {x : Int} (hs : l.Pairwise (· < ·)) (hx : x ∈ l) : (delS l x).Pairwise (· < ·) ∧ (∀ y, y ∈ delS l x ↔ y ∈ l ∧ y ≠ x) ∧ (delS l x).length + 1 = l.length := by
  obtain ⟨a, b, rfl, h1, h2, h3, h4⟩ := del_split hs hx
  rw [h2]
  rw [List.pairwise_append, List.pairwise_cons] at hs
  refine ⟨?_, fun y => ?_, ?_⟩
  · rw [List.pairwise_append]
    exact ⟨hs.1, hs.2.1.2, fun y hy z hz => hs.2.2 y hy z (List.mem_cons_of_mem _ hz)⟩
  · simp only [List.mem_append, List.mem_cons]
    constructor
    · rintro (h | h)
      · exact ⟨.inl h, by have := h3 y h; omega⟩
      · exact ⟨.inr (.inr h), by have := h4 y h; omega⟩
    · rintro ⟨h | h | h, hn⟩
      · exact .inl h
      · exact absurd h hn
      · exact .inr h
  · simp only [List.length_append, List.length_cons]; omega

/-! ### Blocks -/
def sib (q : Nat) : Nat := if q % 2 = 0 then q + 1 else q - 1
theorem sib_half (q : Nat) : sib q / 2 = q / 2 := by unfold sib; split <;> omega
theorem sib_ne (q : Nat) : sib q ≠ q := by unfold sib; split <;> omega
theorem sib_sib (q : Nat) : sib (sib q) = q := by unfold sib; split <;> split <;> omega
def full (S : Nat → Prop) (k q : Nat) : Prop := ∀ i, i / 2 ^ k = q → S i
theorem div_up {j k : Nat} (h : j ≤ k) (i : Nat) : i / 2 ^ k = i / 2 ^ j / 2 ^ (k - j) := by
  rw [Nat.div_div_eq_div_mul, ← Nat.pow_add]; congr 2; omega
theorem div_mul_pow (q k : Nat) : q * 2 ^ k / 2 ^ k = q := Nat.mul_div_cancel _ (Nat.pow_pos (by decide))
theorem sib_up {j k : Nat} (h : j < k) (q : Nat) : sib q / 2 ^ (k - j) = q / 2 ^ (k - j) := by
  rw [show k - j = 1 + (k - j - 1) by omega, Nat.pow_add, ← Nat.div_div_eq_div_mul, ← Nat.div_div_eq_div_mul, Nat.pow_one, sib_half]
def Mx (S : Nat → Prop) (k q : Nat) : Prop := full S k q ∧ (k < 4 → ¬ full S k (sib q))
theorem ins_Mx {S S' : Nat → Prop} {k p : Nat} (hd : ∀ i, i / 2 ^ k = p → ¬ S i) (hS : ∀ i, S' i ↔ S i ∨ i / 2 ^ k = p) (hk : k ≤ 4) (hn : k < 4 → ¬ full S k (sib p)) (j : Nat) (hj : j ≤ 4) (q : Nat) : Mx S' j q ↔ Mx S j q ∨ (j = k ∧ q = p) := by
  have hA : ∀ j, j ≤ k → ∀ q, full S' j q ↔ full S j q ∨ q / 2 ^ (k - j) = p := fun j hj q => by
    constructor
    · intro h
      by_cases e : q / 2 ^ (k - j) = p
      · exact .inr e
      · refine .inl (fun i hi => ?_)
        rcases (hS i).1 (h i hi) with h | h
        · exact h
        · rw [div_up hj, hi] at h; exact absurd h e
    · rintro (h | h) i hi
      · exact (hS i).2 (.inl (h i hi))
      · exact (hS i).2 (.inr (by rw [div_up hj, hi]; exact h))
  have hA' : ∀ j, j ≤ k → ∀ q, q / 2 ^ (k - j) = p → ¬ full S j q := fun j hj q e h =>
    hd (q * 2 ^ j) (by rw [div_up hj, div_mul_pow]; exact e) (h _ (div_mul_pow q j))
  have hC : ∀ j, k < j → j ≤ 4 → ∀ q, full S' j q ↔ full S j q := fun j hj hj4 q => by
    constructor
    · intro h
      by_cases e : p / 2 ^ (j - k) = q
      · refine absurd ?_ (hn (by omega))
        have h2 : full S' k (sib p) := fun i hi => h i (by rw [div_up (Nat.le_of_lt hj), hi, sib_up hj]; exact e)
        rcases (hA k (Nat.le_refl _) _).1 h2 with h | h
        · exact h
        · rw [Nat.sub_self, Nat.pow_zero, Nat.div_one] at h; exact absurd h (sib_ne p)
      · intro i hi
        rcases (hS i).1 (h i hi) with h | h
        · exact h
        · rw [div_up (Nat.le_of_lt hj), h] at hi; exact absurd hi e
    · exact fun h i hi => (hS i).2 (.inl (h i hi))
  unfold Mx
  rcases Nat.lt_trichotomy j k with h | h | h
  · rw [hA j (Nat.le_of_lt h), hA j (Nat.le_of_lt h), sib_up h]
    have h1 := hA' j (Nat.le_of_lt h) q
    have h2 : j < 4 := by omega
    have h3 : ¬ (j = k) := by omega
    by_cases e : q / 2 ^ (k - j) = p
    · simp [e, h1 e, h2, h3]
    · simp [e, h2, h3]
  · subst h
    have e0 : ∀ q, q / 2 ^ (j - j) = q := fun q => by rw [Nat.sub_self, Nat.pow_zero, Nat.div_one]
    have h1 : ∀ q, full S' j q ↔ full S j q ∨ q = p := fun q => by rw [hA j (Nat.le_refl _), e0]
    rw [h1, h1]
    by_cases e : q = p
    · subst e
      have h2 := hA' j (Nat.le_refl _) q (e0 q)
      have h3 := sib_ne q
      simp only [h2, h3, or_false, or_true, true_and, and_self, iff_true]
      exact hn
    · by_cases e2 : sib q = p
      · subst e2
        rw [sib_sib] at hn
        have h2 := hA' j (Nat.le_refl _) (sib q) (e0 _)
        simp only [e, h2, or_false, and_false, or_true]
        constructor
        · rintro ⟨h3, h4⟩
          exact ⟨h3, fun h h' => h'⟩
        · rintro ⟨h3, h4⟩
          exact ⟨h3, fun h => absurd h3 (hn h)⟩
      · simp [e, e2]
  · rw [hC j h hj, hC j h hj]
    have : ¬ (j = k) := by omega
    simp [this]
theorem del_Mx {S S' : Nat → Prop} {k b : Nat} (hf : full S k b) (hk : k < 4) (hd : ∀ i, i / 2 ^ k = sib b → ¬ S i) (hS : ∀ i, S' i ↔ S i ∧ i / 2 ^ k ≠ b) (j : Nat) (hj : j ≤ 4) (q : Nat) : Mx S' j q ↔ Mx S j q ∧ ¬ (j = k ∧ q = b) := by
  have hA : ∀ j, j ≤ k → ∀ q, full S' j q ↔ full S j q ∧ q / 2 ^ (k - j) ≠ b := fun j hj q => by
    constructor
    · intro h
      refine ⟨fun i hi => ((hS i).1 (h i hi)).1, fun e => ?_⟩
      exact ((hS (q * 2 ^ j)).1 (h _ (div_mul_pow q j))).2 (by rw [div_up hj, div_mul_pow]; exact e)
    · rintro ⟨h, e⟩ i hi
      exact (hS i).2 ⟨h i hi, by rw [div_up hj, hi]; exact e⟩
  have hA' : ∀ j, j ≤ k → ∀ q, q / 2 ^ (k - j) = b → full S j q := fun j hj q e i hi => hf i (by rw [div_up hj, hi]; exact e)
  have hC : ∀ j, k < j → ∀ q, full S' j q ↔ full S j q := fun j hj q => by
    constructor
    · exact fun h i hi => ((hS i).1 (h i hi)).1
    · intro h i hi
      refine (hS i).2 ⟨h i hi, fun e => ?_⟩
      refine hd (sib b * 2 ^ k) (div_mul_pow _ _) (h _ ?_)
      rw [div_up (Nat.le_of_lt hj), div_mul_pow, sib_up hj, ← hi, div_up (Nat.le_of_lt hj) i, e]
  unfold Mx
  rcases Nat.lt_trichotomy j k with h | h | h
  · rw [hA j (Nat.le_of_lt h), hA j (Nat.le_of_lt h), sib_up h]
    have h1 := hA' j (Nat.le_of_lt h) (sib q)
    rw [sib_up h] at h1
    have h2 : j < 4 := by omega
    have h3 : ¬ (j = k) := by omega
    by_cases e : q / 2 ^ (k - j) = b
    · simp [e, h1 e, h2, h3]
    · simp [e, h2, h3]
  · subst h
    have e0 : ∀ q, q / 2 ^ (j - j) = q := fun q => by rw [Nat.sub_self, Nat.pow_zero, Nat.div_one]
    have h1 : ∀ q, full S' j q ↔ full S j q ∧ q ≠ b := fun q => by rw [hA j (Nat.le_refl _), e0]
    rw [h1, h1]
    by_cases e : q = b
    · simp [e]
    · by_cases e2 : sib q = b
      · have h2 : ¬ full S j q := fun h => by
          rw [← e2, sib_sib] at hd
          exact hd (q * 2 ^ j) (div_mul_pow _ _) (h _ (div_mul_pow _ _))
        simp [h2]
      · simp [e, e2]
  · rw [hC j h, hC j h]
    have : ¬ (j = k) := by omega
    simp [this]

/-! ### Lists -/
def upd (L : Nat → List Int) (k : Nat) (v : List Int) : Nat → List Int := fun j => bif Nat.beq j k then v else L j
theorem upd_self (L : Nat → List Int) (k : Nat) (v : List Int) : upd L k v k = v := by simp [upd]
theorem upd_ne (L : Nat → List Int) {k j : Nat} (v : List Int) (h : j ≠ k) : upd L k v j = L j := by
  have : Nat.beq j k = false := by
    cases hb : Nat.beq j k with
    | false => rfl
    | true => exact absurd (Nat.eq_of_beq_eq_true hb) h
  simp [upd, this]
def bud (f k : Nat) : Nat := f ^^^ 2 ^ k
theorem bud_sib : ∀ k, k < 4 → ∀ p, (p + 1) * 2 ^ k ≤ 64 → bud (p * 2 ^ k) k = sib p * 2 ^ k ∧ min (p * 2 ^ k) (bud (p * 2 ^ k) k) = p / 2 * 2 ^ (k + 1) := by
  have h : ∀ k < 4, ∀ p < 64, (p + 1) * 2 ^ k ≤ 64 → bud (p * 2 ^ k) k = sib p * 2 ^ k ∧ min (p * 2 ^ k) (bud (p * 2 ^ k) k) = p / 2 * 2 ^ (k + 1) := by
    decide +kernel
  intro k hk p hp
  refine h k hk p ?_ hp
  have : 1 ≤ 2 ^ k := Nat.pow_pos (by decide)
  have := Nat.mul_le_mul_left (p + 1) this
  omega
def insV (n f k : Nat) : Bool := Nat.beq (f % 2 ^ k) 0 && Nat.ble (f + 2 ^ k) n
def putF (n : Nat) : Nat → Nat → Nat → (Nat → List Int) → (Nat → List Int)
  | 0, k, f, L => upd L k (insS (L k) f)
  | r + 1, k, f, L => bif decide (((bud f k : Nat) : Int) ∈ L k) && insV n (min f (bud f k)) (k + 1) then putF n r (k + 1) (min f (bud f k)) (upd L k (delS (L k) (bud f k : Nat))) else upd L k (insS (L k) f)
structure Can (S : Nat → Prop) (L : Nat → List Int) : Prop where
  s : ∀ k, k ≤ 4 → (L k).Pairwise (· < ·)
  m : ∀ k, k ≤ 4 → ∀ x, x ∈ L k ↔ ∃ q : Nat, x = ((q * 2 ^ k : Nat) : Int) ∧ Mx S k q
theorem Can.mem {S : Nat → Prop} {L : Nat → List Int} (h : Can S L) {k : Nat} (hk : k ≤ 4) (q : Nat) : ((q * 2 ^ k : Nat) : Int) ∈ L k ↔ Mx S k q := by
  rw [h.m k hk]
  constructor
  · rintro ⟨q', e, h⟩
    have e2 : q * 2 ^ k = q' * 2 ^ k := by exact_mod_cast e
    have := Nat.eq_of_mul_eq_mul_right (Nat.pow_pos (by decide)) e2
    rw [this]; exact h
  · exact fun h => ⟨q, rfl, h⟩
def wgt (L : Nat → List Int) : Nat := (L 0).length + 2 * (L 1).length + 4 * (L 2).length + 8 * (L 3).length + 16 * (L 4).length
theorem wgt_upd (L : Nat → List Int) (k : Nat) (hk : k ≤ 4) (v : List Int) : wgt (upd L k v) + 2 ^ k * (L k).length = wgt L + 2 ^ k * v.length := by
  have : k = 0 ∨ k = 1 ∨ k = 2 ∨ k = 3 ∨ k = 4 := by omega
  rcases this with rfl | rfl | rfl | rfl | rfl <;> simp only [wgt, upd, Nat.beq, cond_true, cond_false, Nat.pow_zero, Nat.one_mul] <;> omega
theorem put_can (n : Nat) (hn : n ≤ 64) : ∀ (r k p : Nat) (S : Nat → Prop) (L : Nat → List Int), r + k = 4 → (p + 1) * 2 ^ k ≤ n → (∀ i, S i → i < n) → (∀ i, i / 2 ^ k = p → ¬ S i) → Can S L →
    Can (fun i => S i ∨ i / 2 ^ k = p) (putF n r k (p * 2 ^ k) L) ∧ wgt (putF n r k (p * 2 ^ k) L) = wgt L + 2 ^ k := by
  have hins : ∀ (k p : Nat) (S : Nat → Prop) (L : Nat → List Int), k ≤ 4 → (∀ i, i / 2 ^ k = p → ¬ S i) → Can S L → (k < 4 → ¬ full S k (sib p)) →
      Can (fun i => S i ∨ i / 2 ^ k = p) (upd L k (insS (L k) ((p * 2 ^ k : Nat) : Int))) ∧ wgt (upd L k (insS (L k) ((p * 2 ^ k : Nat) : Int))) = wgt L + 2 ^ k := by
    intro k p S L hk hd hC hn
    have hnot : ((p * 2 ^ k : Nat) : Int) ∉ L k := fun h => by
      have := ((hC.mem hk p).1 h).1
      exact hd (p * 2 ^ k) (div_mul_pow _ _) (this _ (div_mul_pow _ _))
    obtain ⟨h1, h2, h3⟩ := insS_of (hC.s k hk) hnot
    have hM := ins_Mx (S' := fun i => S i ∨ i / 2 ^ k = p) hd (fun i => Iff.rfl) hk hn
    refine ⟨⟨fun j hj => ?_, fun j hj x => ?_⟩, ?_⟩
    · by_cases e : j = k
      · subst e; rw [upd_self]; exact h1
      · rw [upd_ne _ _ e]; exact hC.s j hj
    · by_cases e : j = k
      · subst e
        rw [upd_self, h2, hC.m j hj]
        constructor
        · rintro (⟨q, e, h⟩ | rfl)
          · exact ⟨q, e, (hM j hj q).2 (.inl h)⟩
          · exact ⟨p, rfl, (hM j hj p).2 (.inr ⟨rfl, rfl⟩)⟩
        · rintro ⟨q, e, h⟩
          rcases (hM j hj q).1 h with h | ⟨_, rfl⟩
          · exact .inl ⟨q, e, h⟩
          · exact .inr e
      · rw [upd_ne _ _ e, hC.m j hj]
        constructor
        · rintro ⟨q, e, h⟩
          exact ⟨q, e, (hM j hj q).2 (.inl h)⟩
        · rintro ⟨q, e2, h⟩
          rcases (hM j hj q).1 h with h | ⟨h, _⟩
          · exact ⟨q, e2, h⟩
          · exact absurd h e
    · have := wgt_upd L k hk (insS (L k) ((p * 2 ^ k : Nat) : Int))
      rw [h3, Nat.mul_add, Nat.mul_one] at this
      omega
  intro r
  induction r with
  | zero =>
    intro k p S L hk hp hS hd hC
    exact hins k p S L (by omega) hd hC (fun h => by omega)
  | succ r ih =>
    intro k p S L hk hp hS hd hC
    obtain ⟨hb1, hb2⟩ := bud_sib k (by omega) p (by omega)
    unfold putF
    rw [hb2, hb1]
    by_cases hm : ((sib p * 2 ^ k : Nat) : Int) ∈ L k
    · have hM := (hC.mem (by omega) (sib p)).1 hm
      have hlt : (sib p + 1) * 2 ^ k ≤ n := by
        have h1 := hM.1 (sib p * 2 ^ k + (2 ^ k - 1)) (by
          rw [Nat.add_comm, Nat.add_mul_div_right _ _ (Nat.pow_pos (by decide)), Nat.div_eq_of_lt (by have : 0 < 2 ^ k := Nat.pow_pos (by decide); omega), Nat.zero_add])
        have := hS _ h1
        have : 0 < 2 ^ k := Nat.pow_pos (by decide)
        rw [Nat.add_mul]; omega
      have hpar : (p / 2 + 1) * 2 ^ (k + 1) ≤ n := by
        rw [Nat.pow_succ, ← Nat.mul_assoc, Nat.mul_right_comm]
        have : (p / 2 + 1) * 2 = p + 1 ∨ (p / 2 + 1) * 2 = sib p + 1 := by unfold sib; split <;> omega
        rcases this with e | e
        · rw [e]; exact hp
        · rw [e]; exact hlt
      have hin : insV n (p / 2 * 2 ^ (k + 1)) (k + 1) = true := by
        unfold insV
        rw [Nat.mul_mod_left]
        simp only [Nat.beq, Bool.true_and, Nat.ble_eq]
        rw [Nat.add_mul] at hpar; omega
      rw [decide_eq_true hm, hin]
      simp only [Bool.and_self, cond_true]
      obtain ⟨h1, h2, h3⟩ := delS_of (hC.s k (by omega)) hm
      have hdM := del_Mx (S' := fun i => S i ∧ i / 2 ^ k ≠ sib p) hM.1 (by omega) (by rw [sib_sib]; exact hd) (fun i => Iff.rfl)
      have hC' : Can (fun i => S i ∧ i / 2 ^ k ≠ sib p) (upd L k (delS (L k) ((sib p * 2 ^ k : Nat) : Int))) := by
        refine ⟨fun j hj => ?_, fun j hj x => ?_⟩
        · by_cases e : j = k
          · subst e; rw [upd_self]; exact h1
          · rw [upd_ne _ _ e]; exact hC.s j hj
        · by_cases e : j = k
          · subst e
            rw [upd_self, h2, hC.m j hj]
            constructor
            · rintro ⟨⟨q, e, h⟩, hx⟩
              exact ⟨q, e, (hdM j hj q).2 ⟨h, fun ⟨_, e2⟩ => hx (by rw [e, e2])⟩⟩
            · rintro ⟨q, e, h⟩
              obtain ⟨g1, g2⟩ := (hdM j hj q).1 h
              refine ⟨⟨q, e, g1⟩, fun e2 => g2 ⟨rfl, ?_⟩⟩
              rw [e] at e2
              have e3 : q * 2 ^ j = sib p * 2 ^ j := by exact_mod_cast e2
              exact Nat.eq_of_mul_eq_mul_right (Nat.pow_pos (by decide)) e3
          · rw [upd_ne _ _ e, hC.m j hj]
            constructor
            · rintro ⟨q, e2, h⟩
              exact ⟨q, e2, (hdM j hj q).2 ⟨h, fun ⟨e3, _⟩ => e e3⟩⟩
            · rintro ⟨q, e2, h⟩
              exact ⟨q, e2, ((hdM j hj q).1 h).1⟩
      have hup : ∀ i, i / 2 ^ (k + 1) = p / 2 ↔ i / 2 ^ k = p ∨ i / 2 ^ k = sib p := fun i => by
        rw [Nat.pow_succ, ← Nat.div_div_eq_div_mul]
        unfold sib; split <;> omega
      obtain ⟨g1, g2⟩ := ih (k + 1) (p / 2) _ _ (by omega) hpar (fun i hi => hS i hi.1) (fun i hi h => by
        rcases (hup i).1 hi with e | e
        · exact hd i e h.1
        · exact h.2 e) hC'
      refine ⟨?_, ?_⟩
      · have : (fun i => (S i ∧ i / 2 ^ k ≠ sib p) ∨ i / 2 ^ (k + 1) = p / 2) = (fun i => S i ∨ i / 2 ^ k = p) := by
          funext i
          apply propext
          rw [hup]
          constructor
          · rintro (h | h | h)
            · exact .inl h.1
            · exact .inr h
            · exact .inl (hM.1 i h)
          · rintro (h | h)
            · by_cases e : i / 2 ^ k = sib p
              · exact .inr (.inr e)
              · exact .inl ⟨h, e⟩
            · exact .inr (.inl h)
        rw [← this]
        exact g1
      · rw [g2]
        have := wgt_upd L k (by omega) (delS (L k) ((sib p * 2 ^ k : Nat) : Int))
        rw [← h3, Nat.mul_add, Nat.mul_one] at this
        have : 2 ^ (k + 1) = 2 ^ k + 2 ^ k := by rw [Nat.pow_succ]; omega
        omega
    · rw [decide_eq_false hm]
      simp only [Bool.false_and, cond_false]
      refine hins k p S L (by omega) hd hC (fun hk4 hf => hm ?_)
      rw [hC.mem (by omega)]
      refine ⟨hf, fun _ h => ?_⟩
      rw [sib_sib] at h
      exact hd (p * 2 ^ k) (div_mul_pow _ _) (h _ (div_mul_pow _ _))

/-! ### All frames of a list -/
def bldF (n : Nat) (l : List Nat) : Nat → List Int := l.foldl (fun L f => putF n 4 0 f L) (fun _ => [])
theorem can_nil : Can (fun _ => False) (fun _ => []) := ⟨fun _ _ => .nil, fun k hk x => by
  constructor
  · intro h; cases h
  · rintro ⟨q, _, h, _⟩
    exact (h _ (div_mul_pow q k)).elim⟩
theorem fold_can (n : Nat) (hn : n ≤ 64) : ∀ (l : List Nat) (S : Nat → Prop) (L : Nat → List Int), l.Nodup → (∀ f ∈ l, f < n ∧ ¬ S f) → (∀ i, S i → i < n) → Can S L → Can (fun i => S i ∨ i ∈ l) (l.foldl (fun L f => putF n 4 0 f L) L) ∧ wgt (l.foldl (fun L f => putF n 4 0 f L) L) = wgt L + l.length
  | [], S, L, _, _, _, hC => by simpa using hC
  | f :: l, S, L, hnd, hl, hS, hC => by
    rw [List.nodup_cons] at hnd
    have hf := hl f (List.mem_cons_self ..)
    obtain ⟨h1, h2⟩ := put_can n hn 4 0 f S L rfl (by simp; omega) hS (fun i hi => by rw [Nat.pow_zero, Nat.div_one] at hi; subst hi; exact hf.2) hC
    rw [Nat.pow_zero, Nat.mul_one] at h1 h2
    simp only [Nat.div_one] at h1
    obtain ⟨g1, g2⟩ := fold_can n hn l (fun i => S i ∨ i = f) _ hnd.2 (fun g hg => ⟨(hl g (List.mem_cons_of_mem _ hg)).1, fun h => by
      rcases h with h | h
      · exact (hl g (List.mem_cons_of_mem _ hg)).2 h
      · subst h; exact hnd.1 hg⟩) (fun i h => by
      rcases h with h | h
      · exact hS i h
      · subst h; exact hf.1) h1
    refine ⟨?_, ?_⟩
    · have : (fun i => (S i ∨ i = f) ∨ i ∈ l) = (fun i => S i ∨ i ∈ f :: l) := by
        funext i; apply propext; rw [List.mem_cons, or_assoc]
      rw [List.foldl_cons, ← this]
      exact g1
    · rw [List.foldl_cons, g2, h2, List.length_cons]; omega
theorem bld_can (n : Nat) (hn : n ≤ 64) (l : List Nat) (hnd : l.Nodup) (hl : ∀ f ∈ l, f < n) : Can (· ∈ l) (bldF n l) ∧ wgt (bldF n l) = l.length := by
  obtain ⟨h1, h2⟩ := fold_can n hn l (fun _ => False) (fun _ => []) hnd (fun f hf => ⟨hl f hf, id⟩) (fun i h => h.elim) can_nil
  refine ⟨?_, ?_⟩
  · have : (fun i => False ∨ i ∈ l) = (· ∈ l) := by funext i; simp
    rw [← this]; exact h1
  · have : wgt (fun _ => []) = 0 := rfl
    rw [this, Nat.zero_add] at h2
    exact h2

/-! ### What holds of canonical lists -/
theorem Can.at {S : Nat → Prop} {L : Nat → List Int} (h : Can S L) {n : Nat} (hS : ∀ i, S i → i < n) {k : Nat} (hk : k ≤ 4) {x : Int} (hx : x ∈ L k) : ∃ q : Nat, x = ((q * 2 ^ k : Nat) : Int) ∧ (q + 1) * 2 ^ k ≤ n ∧ Mx S k q := by
  obtain ⟨q, rfl, hM⟩ := (h.m k hk x).1 hx
  refine ⟨q, rfl, ?_, hM⟩
  have h1 := hM.1 (q * 2 ^ k + (2 ^ k - 1)) (by
    rw [Nat.add_comm, Nat.add_mul_div_right _ _ (Nat.pow_pos (by decide)), Nat.div_eq_of_lt (by have : 0 < 2 ^ k := Nat.pow_pos (by decide); omega), Nat.zero_add])
  have := hS _ h1
  have : 0 < 2 ^ k := Nat.pow_pos (by decide)
  rw [Nat.add_mul]; omega
theorem Mx.disj {S : Nat → Prop} {k j p q i : Nat} (h1 : Mx S k p) (h2 : Mx S j q) (hj : j ≤ 4) (hk : k ≤ j) (e1 : i / 2 ^ k = p) (e2 : i / 2 ^ j = q) : k = j ∧ p = q := by
  by_cases e : k = j
  · subst e; exact ⟨rfl, by rw [← e1, ← e2]⟩
  · refine absurd ?_ (h1.2 (by omega))
    intro i' hi'
    refine h2.1 i' ?_
    rw [div_up hk, hi', sib_up (by omega), ← e1, ← div_up hk]
    exact e2
theorem Mx.bud {S : Nat → Prop} {k q : Nat} (h1 : Mx S k q) (hk : k < 4) : ¬ Mx S k (sib q) := fun h => h1.2 hk h.1
/-- Some block of this order is free. -/
theorem Can.some_iff {S : Nat → Prop} {L : Nat → List Int} (h : Can S L) {k : Nat} (hk : k ≤ 4) : (∃ j, k ≤ j ∧ j ≤ 4 ∧ L j ≠ []) ↔ ∃ q, full S k q := by
  constructor
  · rintro ⟨j, h1, h2, h3⟩
    obtain ⟨x, hx⟩ := List.exists_mem_of_ne_nil _ h3
    obtain ⟨q, _, hM⟩ := (h.m j h2 x).1 hx
    refine ⟨q * 2 ^ (j - k), fun i hi => hM.1 i ?_⟩
    rw [div_up h1, hi, div_mul_pow]
  · rintro ⟨q, hq⟩
    suffices H : ∀ r k q, r + k = 4 → full S k q → ∃ j, k ≤ j ∧ j ≤ 4 ∧ L j ≠ [] from H (4 - k) k q (by omega) hq
    intro r
    induction r with
    | zero =>
      intro k q hk hq
      refine ⟨k, Nat.le_refl _, by omega, fun e => ?_⟩
      have := (h.mem (by omega) q).2 ⟨hq, fun h => by omega⟩
      rw [e] at this
      cases this
    | succ r ih =>
      intro k q hk hq
      by_cases hs : full S k (sib q)
      · obtain ⟨j, h1, h2, h3⟩ := ih (k + 1) (q / 2) (by omega) (fun i hi => by
          rw [Nat.pow_succ, ← Nat.div_div_eq_div_mul] at hi
          have : i / 2 ^ k = q ∨ i / 2 ^ k = sib q := by unfold sib; split <;> omega
          rcases this with e | e
          · exact hq i e
          · exact hs i e)
        exact ⟨j, by omega, h2, h3⟩
      · refine ⟨k, Nat.le_refl _, by omega, fun e => ?_⟩
        have := (h.mem (by omega) q).2 ⟨hq, fun _ => hs⟩
        rw [e] at this
        cases this

end Go.Proofs.Ytohpbfcechbngaa
