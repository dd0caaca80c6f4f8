/- Layer 02: plain laws of valid lists. -/
import Derived.Test.YtlboakmiopnifaaIva
set_option linter.unusedSimpArgs false
set_option linter.unusedVariables false
namespace Go.Proofs.Ytlboakmiopnifaa
open Go.RowKit

/-- A valid list, index by index. -/
structure Okay (l : List (Int × Int)) : Prop where
  one : ∀ (i : Nat) (h : i < l.length), (l[i]).1 < (l[i]).2
  two : ∀ (i : Nat) (h : i + 1 < l.length), (l[i]).2 < (l[i + 1]).1
theorem chkFrom_zero : ∀ (l : List (Int × Int)) (p : Option (Int × Int)), chkFrom p l = 0 → Okay l ∧ ∀ x y, p = some x → l[0]? = some y → x.2 < y.1
  | [], _, _ => ⟨⟨fun i h => by simp at h, fun i h => by simp at h⟩, fun x y _ h => by simp at h⟩
  | a :: l, p, h => by
    unfold chkFrom at h
    split at h
    · rename_i hs
      obtain ⟨ho, hn⟩ := chkFrom_zero l (some a) h
      unfold stepE at hs
      split at hs
      · omega
      · rename_i h1
        refine ⟨⟨fun i hi => ?_, fun i hi => ?_⟩, fun x y hx hy => ?_⟩
        · cases i with
          | zero => simpa using h1
          | succ i => exact ho.one i (by simpa using hi)
        · cases i with
          | zero =>
            have h2 : 0 < l.length := by simpa using hi
            have := hn a l[0] rfl (List.getElem?_eq_getElem h2)
            simpa using this
          | succ i => exact ho.two i (by simpa using hi)
        · obtain rfl : a = y := by simpa using hy
          subst hx
          simp only at hs
          split at hs
          · omega
          · omega
    · rename_i hs; exact absurd h hs
theorem okay_of {l : List (Int × Int)} (h : chkI l = 0) : Okay l := (chkFrom_zero l none h).1
/-- The ends ascend. -/
theorem Okay.asc {l : List (Int × Int)} (h : Okay l) : ∀ (j i : Nat) (hj : j < l.length) (hi : i < j), (l[i]).2 < (l[j]).1
  | j + 1, i, hj, hi => by
    have h2 := h.two j hj
    by_cases e : i = j
    · subst e; exact h2
    · have h3 := h.asc j i (by omega) (by omega)
      have h1 := h.one j (by omega)
      omega
/-- Where the first interval lies that ends behind an int. -/
def findI (l : List (Int × Int)) (m : Int) : Nat := (l.takeWhile fun x => decide (x.2 ≤ m)).length
theorem findI_of {l : List (Int × Int)} {m : Int} {k : Nat} (hk : k ≤ l.length) (h1 : ∀ (t : Nat) (h : t < l.length), t < k → (l[t]).2 ≤ m) (h2 : ∀ (h : k < l.length), m < (l[k]).2) : findI l m = k := by
  induction l generalizing k with
  | nil => simp at hk; subst hk; rfl
  | cons a l ih =>
    unfold findI
    rw [List.takeWhile_cons]
    cases k with
    | zero =>
      have := h2 (by simp)
      have : ¬ a.2 ≤ m := by simpa using this
      simp [this]
    | succ k =>
      have h0 := h1 0 (by simp) (by omega)
      have h0 : a.2 ≤ m := by simpa using h0
      have := ih (k := k) (by simpa using hk) (fun t h hlt => h1 (t + 1) (by simp only [List.length_cons]; omega) (by omega)) (fun h => h2 (by simp only [List.length_cons]; omega))
      simp only [findI] at this
      simp [h0, this]
/-- Membership in a valid list, at the place that a search finds. -/
theorem find_in {l : List (Int × Int)} {m : Int} {k : Nat} (ho : Okay l) (hk : k ≤ l.length) (h1 : ∀ (t : Nat) (h : t < l.length), t < k → (l[t]).2 ≤ m) (h2 : ∀ (h : k < l.length), m < (l[k]).2) :
    inI l m = (if h : k < l.length then decide ((l[k]).1 ≤ m) else false) := by
  unfold inI
  by_cases h : k < l.length
  · rw [dif_pos h]
    by_cases hm : (l[k]).1 ≤ m
    · rw [decide_eq_true hm, List.any_eq_true]
      exact ⟨l[k], List.getElem_mem h, by simp [hm, h2 h]⟩
    · rw [decide_eq_false hm, List.any_eq_false]
      intro x hx
      obtain ⟨t, ht, rfl⟩ := List.getElem_of_mem hx
      rcases Nat.lt_trichotomy t k with e | e | e
      · have := h1 t ht e; simp; omega
      · subst e; simp; omega
      · have := ho.asc t k ht e
        have := h2 h
        simp; omega
  · rw [dif_neg h, List.any_eq_false]
    intro x hx
    obtain ⟨t, ht, rfl⟩ := List.getElem_of_mem hx
    have := h1 t ht (by omega)
    simp; omega

end Go.Proofs.Ytlboakmiopnifaa
