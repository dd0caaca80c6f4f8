/- The plain law: what is possible, and what the moves make possible. -/
import Derived.Test.YtohpbfcechbngaaCj
import Derived.Test.YtohpbfcechbngaaCm
import Derived.Test.YtohpbfcechbngaaCn
set_option linter.unusedSimpArgs false
set_option linter.unusedVariables false
namespace Go.Proofs.Ytohpbfcechbngaa
open Go.RowKit

def lstF (l : List Int) : Nat → List Int := bldF l.length (frees l)
theorem lst_zok (l : List Int) (hl : l.length ≤ 64) : ZOk l.length (lstF l) := bld_zok l.length hl (frees l) (frees_sorted l) frees_lt
theorem lst_can (l : List Int) (hl : l.length ≤ 64) : Can (· ∈ frees l) (lstF l) ∧ wgt (lstF l) = freeC l := by
  obtain ⟨h1, h2⟩ := bld_can l.length hl (frees l) (frees_nd l) frees_lt
  exact ⟨h1, by rw [← frees_len]; exact h2⟩
def allocOk (l : List Int) (k : Nat) : Bool := Nat.blt (fstF (lstF l) (5 - k) k) 5
theorem alloc_iff (l : List Int) (hl : l.length ≤ 64) (k : Nat) (hk : k ≤ 4) : allocOk l k = true ↔ ∃ q, full (· ∈ frees l) k q := by
  unfold allocOk
  rw [Nat.blt_eq, fst_lt _ _ _ (by omega), (lst_can l hl).1.some_iff hk]
theorem fits_ok (l : List Int) (hl : l.length ≤ 64) (k : Nat) (hk : k ≤ 4) : decide (0 ≤ blkF (fun c => c == 0) l k) = allocOk l k := by
  rw [Bool.eq_iff_iff, decide_eq_true_iff, fits_iff, alloc_iff l hl k hk]
theorem okB_len {p : Int → Bool} {l : List Int} {k q : Nat} (hq : (q + 1) * 2 ^ k ≤ l.length) : ((l.drop (q * 2 ^ k)).take (2 ^ k)).length = 2 ^ k := by
  rw [Nat.add_mul, Nat.one_mul] at hq
  rw [List.length_take, List.length_drop]; omega
theorem poss_of_full (l : List Int) (k q : Nat) (h : full (· ∈ frees l) k q) : 0 ≤ possF l k := by
  obtain ⟨h1, h2⟩ := full_iff.1 h
  have h3 : okB (fun c => c != 2) l k q = true := by
    rw [okB_iff h1] at h2 ⊢
    intro i hi e
    have h4 := h2 i hi e
    rw [beq_iff_eq] at h4
    rw [h4]
    rfl
  have h4 : 0 ≤ blkF (fun c => c != 2) l k := by
    by_cases hb : 0 ≤ blkF (fun c => c != 2) l k
    · exact hb
    · rw [blk_none hb q h1] at h3; cases h3
  have h5 : 2 ^ k ≤ freeC l := by
    have h6 : ((l.drop (q * 2 ^ k)).take (2 ^ k)).countP (· == 0) = 2 ^ k := by
      refine (List.countP_eq_length.2 (fun a ha => ?_)).trans (okB_len (p := fun c => c == 0) h1)
      unfold okB at h2
      exact List.all_eq_true.1 h2 a ha
    have h7 : ((l.drop (q * 2 ^ k)).take (2 ^ k)).Sublist l := (List.take_sublist _ _).trans (List.drop_sublist _ _)
    have := h7.countP_le (p := (· == 0))
    unfold freeC
    omega
  unfold possF
  rw [decide_eq_false (by omega), decide_eq_false (by omega)]
  exact h4
theorem poss_neg (l : List Int) (hl : l.length ≤ 64) (k : Nat) (hk : k ≤ 4) (h : possF l k < 0) : allocOk l k = false := by
  cases e : allocOk l k with
  | false => rfl
  | true =>
    obtain ⟨q, hq⟩ := (alloc_iff l hl k hk).1 e
    have := poss_of_full l k q hq
    omega
theorem poss_at {l : List Int} {k : Nat} (h : ¬ possF l k < 0) : ∃ q, possF l k = ((q * 2 ^ k : Nat) : Int) ∧ (q + 1) * 2 ^ k ≤ l.length ∧ okB (fun c => c != 2) l k q = true ∧ 2 ^ k ≤ freeC l := by
  unfold possF at h ⊢
  by_cases h1 : blkF (fun c => c != 2) l k < 0
  · rw [decide_eq_true h1] at h; exact absurd (show (-1 : Int) < 0 by decide) h
  · rw [decide_eq_false h1] at h ⊢
    simp only [cond_false] at h ⊢
    by_cases h2 : freeC l < 2 ^ k
    · rw [decide_eq_true h2] at h; exact absurd (show (-1 : Int) < 0 by decide) h
    · rw [decide_eq_false h2] at h ⊢
      simp only [cond_false] at h ⊢
      obtain ⟨q, e, h3, h4⟩ := blk_some (by omega : 0 ≤ blkF (fun c => c != 2) l k)
      exact ⟨q, e, h3, h4, by omega⟩
/-- Free cells of the range, of all, up to t. -/
def bU (l : List Int) (s e t : Nat) : Nat := (List.range t).countP (fun i => (decide (s ≤ i) && decide (i < e)) && isC l 0 i)
def fU (l : List Int) (t : Nat) : Nat := (List.range t).countP (isC l 0)
theorem cnt_s (p : Nat → Bool) (t : Nat) : (List.range (t + 1)).countP p = (List.range t).countP p + (if p t = true then 1 else 0) := by
  rw [List.range_succ, List.countP_append, List.countP_singleton]
theorem fr_cnt (l : List Int) (s e : Nat) : ∀ t, (frU l s e t).length + bU l s e t = fU l t
  | 0 => rfl
  | t + 1 => by
    have ih := fr_cnt l s e t
    unfold bU fU at *
    rw [frU_s, cnt_s, cnt_s, List.length_append, ← ih]
    cases h1 : decide (s ≤ t) && decide (t < e) <;> cases h2 : isC l 0 t <;> simp <;> omega
theorem mv_cnt (l : List Int) (s e : Nat) (hc : ∀ i, s ≤ i → i < e → isC l 1 i = true ∨ isC l 0 i = true) : ∀ d, s + d ≤ e → (mvU l s (s + d)).length + bU l s e (s + d) = d
  | 0, h => by
    rw [Nat.add_zero, mvU_0]
    unfold bU
    rw [List.countP_eq_zero.2]
    · rfl
    · intro i hi
      have := List.mem_range.1 hi
      simp
      omega
  | d + 1, h => by
    have ih := mv_cnt l s e hc d (by omega)
    have h1 := hc (s + d) (by omega) (by omega)
    have h2 : decide (s ≤ s + d) = true := by simp
    have h3 : decide (s + d < e) = true := by simp; omega
    unfold bU at *
    rw [← Nat.add_assoc, mvU_s, cnt_s, List.length_append, h2, h3]
    have h4 : ¬ (isC l 1 (s + d) = true ∧ isC l 0 (s + d) = true) := by
      rintro ⟨a, b⟩
      obtain ⟨_, a⟩ := isC_iff.1 a
      obtain ⟨_, b⟩ := isC_iff.1 b
      rw [a] at b; cases b
    rcases h1 with h1 | h1
    · have h5 : isC l 0 (s + d) = false := by
        cases h : isC l 0 (s + d) with
        | false => rfl
        | true => exact absurd ⟨h1, h⟩ h4
      rw [h1, h5]
      simp
      omega
    · have h5 : isC l 1 (s + d) = false := by
        cases h : isC l 1 (s + d) with
        | false => rfl
        | true => exact absurd ⟨h, h1⟩ h4
      rw [h1, h5]
      simp
      omega
theorem bU_end (l : List Int) (s e : Nat) : ∀ d, bU l s e (e + d) = bU l s e e
  | 0 => rfl
  | d + 1 => by
    have ih := bU_end l s e d
    unfold bU at *
    rw [← Nat.add_assoc, cnt_s, ih]
    have : decide (e + d < e) = false := by simp
    rw [this]
    simp
theorem fU_len (l : List Int) : fU l l.length = freeC l := by
  rw [← frees_len]
  unfold fU frees
  rw [List.countP_eq_length_filter]
theorem fit_of {l : List Int} {k q : Nat} (hc : cOk l) (hq : (q + 1) * 2 ^ k ≤ l.length) (hok : okB (fun c => c != 2) l k q = true) (hf : 2 ^ k ≤ freeC l) : (mvU l (q * 2 ^ k) (q * 2 ^ k + 2 ^ k)).length ≤ (frU l (q * 2 ^ k) (q * 2 ^ k + 2 ^ k) l.length).length := by
  have h1 := fr_cnt l (q * 2 ^ k) (q * 2 ^ k + 2 ^ k) l.length
  have hin : ∀ i, q * 2 ^ k ≤ i → i < q * 2 ^ k + 2 ^ k → i / 2 ^ k = q := fun i h1 h2 => by
    have : 0 < 2 ^ k := Nat.pow_pos (by decide)
    rw [Nat.div_eq_iff this]
    rw [Nat.mul_comm] at h1 h2
    constructor
    · rw [Nat.mul_comm]; exact h1
    · rw [Nat.mul_comm]; omega
  have hle : q * 2 ^ k + 2 ^ k ≤ l.length := by rw [Nat.add_mul] at hq; omega
  have h2 := mv_cnt l (q * 2 ^ k) (q * 2 ^ k + 2 ^ k) (fun i hi1 hi2 => by
    have hil : i < l.length := by omega
    have h3 := (okB_iff hq).1 hok i hil (hin i hi1 hi2)
    rcases hc l[i] (List.getElem_mem hil) with h | h | h
    · exact .inr (isC_iff.2 ⟨hil, h⟩)
    · exact .inl (isC_iff.2 ⟨hil, h⟩)
    · rw [h] at h3; cases h3) (2 ^ k) (Nat.le_refl _)
  have h3 := bU_end l (q * 2 ^ k) (q * 2 ^ k + 2 ^ k) (l.length - (q * 2 ^ k + 2 ^ k))
  rw [show q * 2 ^ k + 2 ^ k + (l.length - (q * 2 ^ k + 2 ^ k)) = l.length by omega] at h3
  rw [fU_len] at h1
  omega
/-- The moves are possible and leave the block free; as many cells are free as before. -/
theorem moved {l : List Int} {k q : Nat} (hl : l.length ≤ 64) (hk : k ≤ 4) (hc : cOk l) (hq : (q + 1) * 2 ^ k ≤ l.length) (hok : okB (fun c => c != 2) l k q = true) (hf : 2 ^ k ≤ freeC l) :
    ∃ g, appF l (clrM l (q * 2 ^ k) (q * 2 ^ k + 2 ^ k)) = some g ∧ g.length = l.length ∧ cOk g ∧ wgt (lstF g) = wgt (lstF l) ∧ allocOk g k = true := by
  have hin : ∀ i, i / 2 ^ k = q → q * 2 ^ k ≤ i ∧ i < q * 2 ^ k + 2 ^ k := fun i h => by
    have hp : 0 < 2 ^ k := Nat.pow_pos (by decide)
    have h1 := Nat.div_mul_le_self i (2 ^ k)
    have h2 := Nat.lt_div_mul_add (a := i) hp
    rw [h] at h1 h2
    exact ⟨h1, h2⟩
  obtain ⟨g, h1, h2, h3, h4, h5, h6⟩ := app_of (mvU l (q * 2 ^ k) (q * 2 ^ k + 2 ^ k)) (frU l (q * 2 ^ k) (q * 2 ^ k + 2 ^ k) l.length) l (List.Pairwise.filter _ List.nodup_range) (List.Pairwise.filter _ List.nodup_range)
    (fun f hf => by
      have := (List.mem_filter.1 hf).2
      simp only [Bool.and_eq_true] at this
      exact this.2)
    (fun t ht => by
      have := (List.mem_filter.1 ht).2
      simp only [Bool.and_eq_true] at this
      exact this.2) (fit_of hc hq hok hf) hc
  refine ⟨g, h1, h2, h6, ?_, ?_⟩
  · rw [(lst_can g (by omega)).2, (lst_can l hl).2, h3]
  · rw [alloc_iff g (by omega) k hk]
    refine ⟨q, fun i hi => frees_mem.2 ?_⟩
    obtain ⟨hi1, hi2⟩ := hin i hi
    have hil : i < l.length := by rw [Nat.add_mul] at hq; omega
    by_cases hm : i ∈ mvU l (q * 2 ^ k) (q * 2 ^ k + 2 ^ k)
    · unfold isC
      rw [h5 i hm]
      rfl
    · have hfr : i ∉ frU l (q * 2 ^ k) (q * 2 ^ k + 2 ^ k) l.length := fun hr => by
        have := (List.mem_filter.1 hr).2
        simp only [Bool.and_eq_true, Bool.not_eq_true', Bool.and_eq_false_iff, decide_eq_false_iff_not] at this
        omega
      unfold isC
      rw [h4 i hm hfr, List.getElem?_eq_getElem hil]
      have h7 := (okB_iff hq).1 hok i hil hi
      rcases hc l[i] (List.getElem_mem hil) with h | h | h
      · rw [h]; rfl
      · exfalso
        refine hm (List.mem_filter.2 ⟨List.mem_range.2 hi2, ?_⟩)
        simp only [Bool.and_eq_true, decide_eq_true_eq]
        exact ⟨hi1, isC_iff.2 ⟨hil, h⟩⟩
      · rw [h] at h7; cases h7
/-- The first frame of the block that is taken. -/
def hdN (l : List Int) (k : Nat) : Nat := (((lstF l) (fstF (lstF l) (5 - k) k)).headD 0).toNat
theorem hdN_ok (l : List Int) (hl : l.length ≤ 64) (od : Nat) : ∀ k, k ≤ 4 → lstF l k ≠ [] → fstF (lstF l) (5 - od) od = k → (lstF l k).head? = some (hdN l od : Int) := by
  intro k hk hne he
  unfold hdN
  rw [he]
  cases h : lstF l k with
  | nil => exact absurd h hne
  | cons a b =>
    obtain ⟨f, hf, _⟩ := (lst_zok l hl).i k hk a (by rw [h]; exact List.mem_cons_self ..)
    subst hf
    simp
theorem alc_F (l : List Int) (h1 : 1 ≤ l.length) (hl : l.length ≤ 64) (k : Nat) (hk : k ≤ 4) : Fn Try.prog 7 [.st (zD l.length (lstF l)), .s (.int .i64 k)] (· = alcR l.length (lstF l) k (hdN l k)) := alloc_F l.length h1 hl (lstF l) (lst_zok l hl) k hk (hdN l k) (hdN_ok l hl k)
theorem alcR_ok {l : List Int} {k : Nat} (h : allocOk l k = true) : alcR l.length (lstF l) k (hdN l k) = .tup [.st (zD l.length (alcL (lstF l) k (fstF (lstF l) (5 - k) k) (hdN l k))), .s (.int .i64 (hdN l k)), .s (.int .i64 0)] := by
  unfold alcR
  unfold allocOk at h
  rw [h]; rfl
theorem alcR_no {l : List Int} {k : Nat} (h : allocOk l k = false) : alcR l.length (lstF l) k (hdN l k) = .tup [.st (zZ 0), .s (.int .i64 0), .s (.int .i64 16)] := by
  unfold alcR
  unfold allocOk at h
  rw [h]; rfl

end Go.Proofs.Ytohpbfcechbngaa
