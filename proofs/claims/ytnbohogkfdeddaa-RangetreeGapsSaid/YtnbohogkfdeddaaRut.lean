/- Rangetree, plain: Gap returns the lowest free place. -/
import Derived.Test.YtnbohogkfdeddaaRud
set_option linter.unusedSimpArgs false
set_option linter.unusedVariables false
namespace Go.Proofs.Ytnbohogkfdeddaa
open Go.RowKit

def freeR (s n : Int) (r : RV) : Bool := decide (r.e ≤ s) || decide (s + n ≤ r.s)
def freeL (l : List RV) (s n : Int) : Bool := l.all (freeR s n)
theorem freeR_iff {s n : Int} {r : RV} : freeR s n r = true ↔ r.e ≤ s ∨ s + n ≤ r.s := by simp [freeR]
theorem freeL_app (a b : List RV) (s n : Int) : freeL (a ++ b) s n = (freeL a s n && freeL b s n) := List.all_append
theorem freeL_cons (x : RV) (b : List RV) (s n : Int) : freeL (x :: b) s n = (freeR s n x && freeL b s n) := rfl
theorem freeL_below {l : List RV} {s n : Int} (h : ∀ x ∈ l, s + n ≤ x.s) : freeL l s n = true :=
  List.all_eq_true.2 fun x hx => freeR_iff.2 (.inr (h x hx))
theorem freeL_above {l : List RV} {s n : Int} (h : ∀ x ∈ l, x.e ≤ s) : freeL l s n = true :=
  List.all_eq_true.2 fun x hx => freeR_iff.2 (.inl (h x hx))
/-- Where n free pages can lie. -/
theorem free_where : ∀ (l : List RV) (s n : Int), l ≠ [] → freeL l s n = true → s + n ≤ fstL l ∨ lstL l ≤ s ∨ n ≤ gapL l
  | [], _, _, h, _ => absurd rfl h
  | [x], s, n, _, h => by
    rw [freeL_cons, Bool.and_eq_true, freeR_iff] at h
    rcases h.1 with h | h
    · exact .inr (.inl h)
    · exact .inl h
  | x :: y :: l, s, n, _, h => by
    rw [freeL_cons, Bool.and_eq_true, freeR_iff] at h
    obtain ⟨h1, h2⟩ := h
    rcases h1 with h1 | h1
    · rcases free_where (y :: l) s n (by simp) h2 with h3 | h3 | h3
      · right; right
        simp only [fstL] at h3
        simp only [gapL]
        omega
      · exact .inr (.inl h3)
      · right; right
        simp only [gapL]
        omega
    · exact .inl h1
/-- s is the lowest place of n free pages between fr and tt, at lo or above; or there is none, and s is -1. -/
def IsGap (l : List RV) (fr tt lo n s : Int) : Prop :=
  (s = -1 ∧ ∀ q, fr ≤ q → lo ≤ q → q + n ≤ tt → freeL l q n = false) ∨
  (fr ≤ s ∧ lo ≤ s ∧ s + n ≤ tt ∧ freeL l s n = true ∧ ∀ q, fr ≤ q → lo ≤ q → q < s → freeL l q n = false)
theorem gap0_is {fr tt lo n : Int} : IsGap [] fr tt lo n (gap0 fr tt lo n) := by
  unfold gap0 mx
  by_cases c : n ≤ tt - (if fr < lo then lo else fr)
  · rw [if_pos c]
    right
    split at c <;> rename_i h <;> simp only [h, if_true, if_false] <;> refine ⟨by omega, by omega, by omega, rfl, fun q h1 h2 h3 => ?_⟩ <;> omega
  · rw [if_neg c]
    left
    refine ⟨rfl, fun q h1 h2 h3 => ?_⟩
    split at c <;> omega
theorem gapP_is : ∀ (p : PT) (fr tt lo n : Int), ord p.flat → (∀ x ∈ p.flat, fr ≤ x.s ∧ x.e ≤ tt) → 0 ≤ fr → 0 ≤ lo → 1 ≤ n → IsGap p.flat fr tt lo n (gapP p fr tt lo n)
  | .E, fr, tt, lo, n, _, _, _, _, _ => gap0_is
  | .N a x b, fr, tt, lo, n, ho, hb, h0, hl0, hn => by
    obtain ⟨oa, vx, ob, ax, xb⟩ := ord_node ho
    have hx := hb x (by simp [PT.flat])
    have hv := vx
    obtain ⟨v1, v2, v3, v4⟩ := hv
    have hbx : ∀ y ∈ b.flat, x.e ≤ y.s := fun y hy => xb y hy
    have hax : ∀ y ∈ a.flat, y.e ≤ x.s := fun y hy => ax y hy
    have hall : ∀ q, freeL (PT.N a x b).flat q n = (freeL a.flat q n && (freeR q n x && freeL b.flat q n)) := fun q => by
      show freeL (a.flat ++ x :: b.flat) q n = _
      rw [freeL_app, freeL_cons]
    unfold gapP
    by_cases c1 : tt - lo < n
    · rw [if_pos c1]
      left
      refine ⟨?_, fun q h1 h2 h3 => by omega⟩
      unfold gap0 mx
      rw [if_neg]
      split <;> omega
    · rw [if_neg c1]
      have ia := gapP_is a fr x.s lo n oa (fun y hy => ⟨(hb y (by simp [PT.flat, hy])).1, hax y hy⟩) h0 hl0 hn
      have ib := gapP_is b x.e tt lo n ob (fun y hy => ⟨hbx y hy, (hb y (by simp [PT.flat, hy])).2⟩) (by unfold RV.e; omega) hl0 hn
      -- behind x: the same as in b
      have right : (∀ q, fr ≤ q → lo ≤ q → q + n ≤ x.s → freeL a.flat q n = false) → IsGap (PT.N a x b).flat fr tt lo n (gapP b x.e tt lo n) := fun hno => by
        have low : ∀ q, fr ≤ q → lo ≤ q → q < x.e → freeL (PT.N a x b).flat q n = false := fun q h1 h2 h3 => by
          rw [hall]
          by_cases c : q + n ≤ x.s
          · rw [hno q h1 h2 c]; rfl
          · have : freeR q n x = false := by
              rw [← Bool.not_eq_true, freeR_iff]
              omega
            rw [this]; simp
        have high : ∀ q, x.e ≤ q → freeL (PT.N a x b).flat q n = freeL b.flat q n := fun q h => by
          rw [hall, freeL_above (l := a.flat) (fun y hy => by have := hax y hy; unfold RV.e at *; omega), freeR_iff.2 (.inl h)]
          rfl
        rcases ib with ⟨h1, h2⟩ | ⟨h1, h2, h3, h4, h5⟩
        · left
          refine ⟨h1, fun q g1 g2 g3 => ?_⟩
          by_cases c : q < x.e
          · exact low q g1 g2 c
          · rw [high q (by omega)]; exact h2 q (by omega) g2 g3
        · refine .inr ⟨?_, h2, h3, by rw [high _ h1]; exact h4, fun q g1 g2 g3 => ?_⟩
          · have e : x.e = x.s + x.p := rfl
            omega
          by_cases c : q < x.e
          · exact low q g1 g2 c
          · rw [high q (by omega)]; exact h5 q (by omega) g2 g3
      by_cases c2 : gapB x.s lo n a.ht a.gp a.fst fr a.lst = true ∧ 0 ≤ gapP a fr x.s lo n
      · rw [if_pos c2]
        rcases ia with ⟨h1, h2⟩ | ⟨h1, h2, h3, h4, h5⟩
        · have := c2.2; omega
        · refine .inr ⟨h1, h2, by unfold RV.e at hx; omega, ?_, fun q g1 g2 g3 => by rw [hall, h5 q g1 g2 g3]; rfl⟩
          rw [hall, h4, freeR_iff.2 (.inr h3), freeL_below (l := b.flat) (fun y hy => by have := hbx y hy; unfold RV.e at *; omega)]
          rfl
      · rw [if_neg c2]
        refine right (fun q g1 g2 g3 => ?_)
        rcases ia with ⟨h1, h2⟩ | ⟨h1, h2, h3, h4, h5⟩
        · exact h2 q g1 g2 g3
        · -- then the look ahead said no
          have hB : ¬ gapB x.s lo n a.ht a.gp a.fst fr a.lst = true := fun h => c2 ⟨h, by omega⟩
          rw [gapB_eq] at hB
          simp only [Bool.and_eq_true, Bool.or_eq_true, decide_eq_true_eq, beq_iff_eq] at hB
          rw [← Bool.not_eq_true]
          intro hf
          apply hB
          refine ⟨by omega, ?_⟩
          by_cases hz : a.ht = 0
          · exact .inl (.inl (.inl hz))
          · have hne : a.flat ≠ [] := by
              cases a with
              | E => exact absurd rfl hz
              | N l y r => exact flat_ne l y r
            rw [fst_flat, lst_flat, gap_flat]
            rcases free_where a.flat q n hne hf with h | h | h
            · exact .inl (.inr (by omega))
            · exact .inr (by omega)
            · exact .inl (.inl (.inr h))
theorem gap_all {p : PT} (hp : good p) {lo n : Int} (hl : 0 ≤ lo) (hn : 1 ≤ n) : IsGap p.flat 0 512 lo n (gapP p 0 512 lo n) :=
  gapP_is p 0 512 lo n hp.o (fun x hx => by obtain ⟨v1, v2, v3, v4⟩ := hp.o.v x hx; unfold RV.e; omega) (by omega) hl hn
theorem GapF_bad {p : PT} {lo hi n : Int} (h : gapBad lo hi n = true) : GapF p lo hi n = -1 := by
  unfold GapF
  rw [if_pos h]
theorem gapBad_ok {lo hi n : Int} (h0 : 0 ≤ lo) (h1 : lo ≤ hi) (h2 : hi ≤ 512) (h3 : 1 ≤ n) (h4 : n ≤ 512) : gapBad lo hi n = false := by
  unfold gapBad
  rw [decide_eq_false (by omega), decide_eq_false (by omega), decide_eq_false (by omega), decide_eq_false (by omega), decide_eq_false (by omega)]
  rfl
theorem GapF_first {p : PT} (hp : good p) {lo hi n s : Int} (h0 : 0 ≤ lo) (h1 : lo ≤ hi) (h2 : hi ≤ 512) (h3 : 1 ≤ n) (hs : lo ≤ s) (hs2 : s ≤ hi - n) (hf : freeL p.flat s n = true) (hno : ∀ q, lo ≤ q → q < s → freeL p.flat q n = false) : GapF p lo hi n = s := by
  unfold GapF
  rw [if_neg (by rw [gapBad_ok h0 h1 h2 h3 (by omega)]; decide)]
  have e : gapP p 0 512 lo n = s := by
    rcases gap_all hp h0 h3 with ⟨g1, g2⟩ | ⟨g1, g2, g3, g4, g5⟩
    · rw [g2 s (by omega) hs (by omega)] at hf; cases hf
    · by_cases c : gapP p 0 512 lo n < s
      · rw [hno _ g2 c] at g4; cases g4
      · by_cases c2 : s < gapP p 0 512 lo n
        · rw [g5 s (by omega) hs c2] at hf; cases hf
        · omega
  rw [e, if_neg]
  rw [Bool.or_eq_true, decide_eq_true_eq, decide_eq_true_eq]
  omega
theorem GapF_none {p : PT} (hp : good p) {lo hi n : Int} (h0 : 0 ≤ lo) (h1 : lo ≤ hi) (h2 : hi ≤ 512) (h3 : 1 ≤ n) (hno : ∀ q, lo ≤ q → q ≤ hi - n → freeL p.flat q n = false) : GapF p lo hi n = -1 := by
  by_cases h4 : n ≤ 512
  · unfold GapF
    rw [if_neg (by rw [gapBad_ok h0 h1 h2 h3 h4]; decide), if_pos]
    rw [Bool.or_eq_true, decide_eq_true_eq, decide_eq_true_eq]
    rcases gap_all hp h0 h3 with ⟨g1, g2⟩ | ⟨g1, g2, g3, g4, g5⟩
    · omega
    · by_cases c : gapP p 0 512 lo n ≤ hi - n
      · rw [hno _ g2 c] at g4; cases g4
      · omega
  · refine GapF_bad ?_
    unfold gapBad
    rw [decide_eq_true (show 512 < n by omega), Bool.or_true]

end Go.Proofs.Ytnbohogkfdeddaa
