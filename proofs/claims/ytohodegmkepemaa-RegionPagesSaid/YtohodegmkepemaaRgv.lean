/- Layer 22: plain facts on what Cut leaves, page by page. -/
import Derived.Test.YtohodegmkepemaaRgu
import Derived.Test.YtohodegmkepemaaRgq
set_option linter.unusedSimpArgs false
set_option linter.unusedVariables false
namespace Go.Proofs.Ytohodegmkepemaa
open Go.RowKit

/-- How many of the first k regions hold page q. -/
def cntP (l : List Rg) (q : Int) : Nat → Int
  | 0 => 0
  | k + 1 => cntP l q k + (match l[k]? with | some a => if hasF a.s a.p a.r a.f a.i a.x q = true then 1 else 0 | none => 0)
def sumP (l : List Rg) : Nat → Int
  | 0 => 0
  | k + 1 => sumP l k + (match l[k]? with | some a => a.p | none => 0)
theorem cntP_hit {l : List Rg} {q : Int} {k : Nat} (hk : k < l.length) (h : hasF (l[k]).s (l[k]).p (l[k]).r (l[k]).f (l[k]).i (l[k]).x q = true) : cntP l q (k + 1) = cntP l q k + 1 := by
  simp [cntP, List.getElem?_eq_getElem hk, h]
theorem cntP_miss {l : List Rg} {q : Int} {k : Nat} (hk : k < l.length) (h : hasF (l[k]).s (l[k]).p (l[k]).r (l[k]).f (l[k]).i (l[k]).x q = false) : cntP l q (k + 1) = cntP l q k := by
  simp [cntP, List.getElem?_eq_getElem hk, h]
theorem cntP_bd (l : List Rg) (q : Int) : ∀ k, 0 ≤ cntP l q k ∧ cntP l q k ≤ k
  | 0 => by simp [cntP]
  | k + 1 => by
    have := cntP_bd l q k
    simp only [cntP]
    split
    · split <;> omega
    · omega
theorem sumP_succ {l : List Rg} {k : Nat} (hk : k < l.length) : sumP l (k + 1) = sumP l k + (l[k]).p := by simp [sumP, List.getElem?_eq_getElem hk]

/-- What is asked of the list of regions that Cut leaves of a region. -/
structure Parts (s p r f i x : Int) (q c : Int) (l : List Rg) : Prop where
  two : l.length ≤ 2
  ok : ∀ k (h : k < l.length), chkR (l[k]).s (l[k]).p (l[k]).r (l[k]).f (l[k]).i (l[k]).x = 0
  same : ∀ k (h : k < l.length) (t : Int), hasF (l[k]).s (l[k]).p (l[k]).r (l[k]).f (l[k]).i (l[k]).x t = true → pageF (l[k]).s (l[k]).p (l[k]).r (l[k]).f (l[k]).i (l[k]).x t = pageF s p r f i x t ∧ (l[k]).r = r ∧ (l[k]).i = i
  count : ∀ t : Int, s ≤ t → t < s + p → cntP l t l.length = (if q ≤ t ∧ t - q < c then 0 else 1)
  pages : ∀ k, k ≤ l.length → 0 ≤ sumP l k ∧ sumP l k ≤ p

theorem hasF_iff {s p r f i x q : Int} (h : chkR s p r f i x = 0) : hasF s p r f i x q = decide (s ≤ q ∧ q < s + p) := by unfold hasF; simp [h]
theorem pageF_in {s p r f i x q : Int} (h : hasF s p r f i x q = true) : pageF s p r f i x q = if i = -1 then -1 else x + q - s := by
  unfold pageF; by_cases hi : i = -1 <;> simp [h, hi]

theorem parts_one {s p r f i x : Int} (hv : chkR s p r f i x = 0) (q c : Int) (ho : s + p ≤ q ∨ q + c ≤ s) : Parts s p r f i x q c [⟨s, p, r, f, i, x⟩] := by
  have hb := chk_bd hv
  refine ⟨by simp, ?_, ?_, ?_, ?_⟩
  · intro k h; obtain rfl : k = 0 := by simpa using h
    exact hv
  · intro k h t ht; obtain rfl : k = 0 := by simpa using h
    exact ⟨rfl, rfl, rfl⟩
  · intro t h1 h2
    rw [if_neg (by omega)]
    simp [cntP, hasF_iff hv, h1, h2]
  · intro k h
    have : k = 0 ∨ k = 1 := by simp at h; omega
    rcases this with rfl | rfl
    · show 0 ≤ (0 : Int) ∧ (0 : Int) ≤ p; omega
    · show 0 ≤ 0 + (p) ∧ 0 + (p) ≤ p; omega
theorem parts_low {s p r f i x : Int} (hv : chkR s p r f i x = 0) (q c : Int) (h1 : s < q) (h2 : q < s + p) (h3 : s + p ≤ q + c) : Parts s p r f i x q c [⟨s, q - s, r, f, i, x⟩] := by
  have hb := chk_bd hv
  have hl := split_low hv h1 h2
  refine ⟨by simp, ?_, ?_, ?_, ?_⟩
  · intro k h; obtain rfl : k = 0 := by simpa using h
    exact hl
  · intro k h t ht; obtain rfl : k = 0 := by simpa using h
    simp only [List.getElem_cons_zero] at ht ⊢
    have ht2 := ht
    rw [hasF_iff hl, decide_eq_true_eq] at ht2
    exact ⟨by rw [pageF_in ht, pageF_in (by rw [hasF_iff hv, decide_eq_true_eq]; omega)], by first | rfl | trivial, by first | rfl | trivial⟩
  · intro t g1 g2
    by_cases ht : q ≤ t
    · rw [if_pos (by omega)]
      simp [cntP, hasF_iff hl]; omega
    · rw [if_neg (by omega)]
      simp [cntP, hasF_iff hl]; omega
  · intro k h
    have : k = 0 ∨ k = 1 := by simp at h; omega
    rcases this with rfl | rfl
    · show 0 ≤ (0 : Int) ∧ (0 : Int) ≤ p; omega
    · show 0 ≤ 0 + (q - s) ∧ 0 + (q - s) ≤ p; omega
theorem parts_none {s p r f i x : Int} (hv : chkR s p r f i x = 0) (q c : Int) (h1 : q ≤ s) (h2 : s + p ≤ q + c) : Parts s p r f i x q c [] := by
  have hb := chk_bd hv
  refine ⟨by simp, ?_, ?_, ?_, ?_⟩
  · intro k h; simp at h
  · intro k h; simp at h
  · intro t g1 g2
    rw [if_pos (by omega)]; simp [cntP]
  · intro k h
    obtain rfl : k = 0 := by simpa using h
    simp [sumP]; omega

/-- The upper part. -/
theorem high_ok {s p r f i x : Int} (hv : chkR s p r f i x = 0) (m : Int) (h1 : s < m) (h2 : m < s + p) :
    ∀ t : Int, hasF m (p - (m - s)) r (clr2 f) i (splX i x (m - s)) t = true → pageF m (p - (m - s)) r (clr2 f) i (splX i x (m - s)) t = pageF s p r f i x t := by
  have hb := chk_bd hv
  have hl := split_high hv h1 h2
  intro t ht
  have ht2 := ht
  rw [hasF_iff hl, decide_eq_true_eq] at ht2
  rw [pageF_in ht, pageF_in (by rw [hasF_iff hv, decide_eq_true_eq]; omega)]
  unfold splX
  split <;> omega
theorem parts_high {s p r f i x : Int} (hv : chkR s p r f i x = 0) (q c : Int) (h1 : q ≤ s) (h2 : s < q + c) (h3 : q + c < s + p) : Parts s p r f i x q c [⟨q + c, p - (q + c - s), r, clr2 f, i, splX i x (q + c - s)⟩] := by
  have hb := chk_bd hv
  have hl := split_high hv h2 h3
  refine ⟨by simp, ?_, ?_, ?_, ?_⟩
  · intro k h; obtain rfl : k = 0 := by simpa using h
    exact hl
  · intro k h t ht; obtain rfl : k = 0 := by simpa using h
    simp only [List.getElem_cons_zero] at ht ⊢
    exact ⟨high_ok hv _ h2 h3 t ht, by first | rfl | trivial, by first | rfl | trivial⟩
  · intro t g1 g2
    by_cases ht : t < q + c
    · rw [if_pos (by omega)]
      simp [cntP, hasF_iff hl]; omega
    · rw [if_neg (by omega)]
      simp [cntP, hasF_iff hl]; omega
  · intro k h
    have : k = 0 ∨ k = 1 := by simp at h; omega
    rcases this with rfl | rfl
    · show 0 ≤ (0 : Int) ∧ (0 : Int) ≤ p; omega
    · show 0 ≤ 0 + (p - (q + c - s)) ∧ 0 + (p - (q + c - s)) ≤ p; omega
theorem parts_both {s p r f i x : Int} (hv : chkR s p r f i x = 0) (q c : Int) (hc : 1 ≤ c) (h1 : s < q) (h2 : q < s + p) (h3 : q + c < s + p) : Parts s p r f i x q c [⟨s, q - s, r, f, i, x⟩, ⟨q + c, p - (q + c - s), r, clr2 f, i, splX i x (q + c - s)⟩] := by
  have hb := chk_bd hv
  have hl := split_low hv h1 h2
  have hh := split_high hv (show s < q + c by omega) h3
  refine ⟨by simp, ?_, ?_, ?_, ?_⟩
  · intro k h
    have : k = 0 ∨ k = 1 := by simp at h; omega
    rcases this with rfl | rfl
    · exact hl
    · exact hh
  · intro k h t ht
    have : k = 0 ∨ k = 1 := by simp at h; omega
    rcases this with rfl | rfl
    · simp only [List.getElem_cons_zero] at ht ⊢
      have ht2 := ht
      rw [hasF_iff hl, decide_eq_true_eq] at ht2
      exact ⟨by rw [pageF_in ht, pageF_in (by rw [hasF_iff hv, decide_eq_true_eq]; omega)], by first | rfl | trivial, by first | rfl | trivial⟩
    · simp only [List.getElem_cons_succ, List.getElem_cons_zero] at ht ⊢
      exact ⟨high_ok hv _ (by omega) h3 t ht, by first | rfl | trivial, by first | rfl | trivial⟩
  · intro t g1 g2
    simp only [List.length_cons, List.length_nil, cntP, List.getElem?_cons_zero, List.getElem?_cons_succ, hasF_iff hl, hasF_iff hh, decide_eq_true_eq]
    by_cases ht : q ≤ t ∧ t - q < c
    · rw [if_pos ht, if_neg (by omega), if_neg (by omega)]; rfl
    · rw [if_neg ht]
      by_cases ht2 : t < q
      · rw [if_pos (by omega), if_neg (by omega)]; rfl
      · rw [if_neg (by omega), if_pos (by omega)]; rfl
  · intro k h
    have : k = 0 ∨ k = 1 ∨ k = 2 := by simp at h; omega
    rcases this with rfl | rfl | rfl
    · show 0 ≤ (0 : Int) ∧ (0 : Int) ≤ p; omega
    · show 0 ≤ 0 + (q - s) ∧ 0 + (q - s) ≤ p; omega
    · show 0 ≤ 0 + (q - s) + (p - (q + c - s)) ∧ 0 + (q - s) + (p - (q + c - s)) ≤ p; omega

theorem cutE_zero {s p r f i x q c : Int} (h : cutE s p r f i x q c = 0) : chkR s p r f i x = 0 ∧ 1 ≤ c ∧ 0 ≤ q ∧ q + c ≤ 512 := by
  unfold cutE at h
  by_cases hv : chkR s p r f i x = 0
  · rw [if_pos hv] at h
    by_cases hc : c < 1
    · rw [if_pos hc] at h; omega
    · rw [if_neg hc] at h
      by_cases hq : q < 0 ∨ 512 < q ∨ 512 - q < c
      · rw [if_pos hq] at h; omega
      · exact ⟨hv, by omega, by omega, by omega⟩
  · rw [if_neg hv] at h; exact absurd h hv
theorem cutG_parts {s p r f i x q c : Int} (h : cutE s p r f i x q c = 0) : Parts s p r f i x q c (cutG s p r f i x q c) := by
  obtain ⟨hv, hc, hq0, hq1⟩ := cutE_zero h
  unfold cutG
  rw [if_pos h]
  by_cases ho : s + p ≤ q ∨ q + c ≤ s
  · rw [if_pos ho]; exact parts_one hv q c ho
  · rw [if_neg ho]
    by_cases h1 : s < q
    · by_cases h2 : q + c < s + p
      · rw [if_pos h1, if_pos h2]; exact parts_both hv q c hc h1 (by omega) h2
      · rw [if_pos h1, if_neg h2]; exact parts_low hv q c h1 (by omega) (by omega)
    · by_cases h2 : q + c < s + p
      · rw [if_neg h1, if_pos h2]; exact parts_high hv q c (by omega) (by omega) h2
      · rw [if_neg h1, if_neg h2]; exact parts_none hv q c (by omega) (by omega)
theorem cutG_err {s p r f i x q c : Int} (h : ¬ cutE s p r f i x q c = 0) : cutG s p r f i x q c = [] := by unfold cutG; rw [if_neg h]

end Go.Proofs.Ytohodegmkepemaa
