/- Layer 22: plain facts on what Check answers. -/
import Derived.Test.YtohodegmkepemaaRga
set_option linter.unusedSimpArgs false
set_option linter.unusedVariables false
namespace Go.Proofs.Ytohodegmkepemaa
open Go.RowKit

theorem fl_cases {f : Int} (h0 : 0 ≤ f) (h1 : f ≤ 15) : f = 0 ∨ f = 1 ∨ f = 2 ∨ f = 3 ∨ f = 4 ∨ f = 5 ∨ f = 6 ∨ f = 7 ∨ f = 8 ∨ f = 9 ∨ f = 10 ∨ f = 11 ∨ f = 12 ∨ f = 13 ∨ f = 14 ∨ f = 15 := by omega
/-- The flags' bits, as the reference asks them. -/
theorem bit1 {f : Int} (h0 : 0 ≤ f) (h1 : f ≤ 15) : (bits .and .i64 f 1 != 0) = (f / 1 % 2 == 1) := by
  rcases fl_cases h0 h1 with h | h | h | h | h | h | h | h | h | h | h | h | h | h | h | h <;> subst h <;> decide
theorem bit2 {f : Int} (h0 : 0 ≤ f) (h1 : f ≤ 15) : (bits .and .i64 f 2 != 0) = (f / 2 % 2 == 1) := by
  rcases fl_cases h0 h1 with h | h | h | h | h | h | h | h | h | h | h | h | h | h | h | h <;> subst h <;> decide
theorem bit10 {f : Int} (h0 : 0 ≤ f) (h1 : f ≤ 15) : (bits .and .i64 f 10 != 0) = (f / 2 % 2 == 1 || f / 8 % 2 == 1) := by
  rcases fl_cases h0 h1 with h | h | h | h | h | h | h | h | h | h | h | h | h | h | h | h <;> subst h <;> decide

theorem cond_or2 {α : Type} (a b : Bool) (x y : α) : (bif a || b then x else y) = bif a then x else bif b then x else y := by cases a <;> rfl
def argB (s p r f i x : Int) : Bool := decide (p < 1) || (r != 1 && r != 3 || ((decide (f < 0) || decide (15 < f)) || ((decide (i < -1) || decide (4 ≤ i)) || (bits .and .i64 f 1 != 0 && i == -1 || bits .and .i64 f 10 != 0 && i != -1))))
def rngB (s p r f i x : Int) : Bool := (decide (s < 0) || decide (512 < s) || decide (512 - s < p)) || (decide (x < 0) || (x != 0 && i == -1 || i != -1 && (decide (16 < x) || decide (16 - x < p))))
theorem chkR_def (s p r f i x : Int) : chkR s p r f i x = bif argB s p r f i x then 1 else bif rngB s p r f i x then 2 else 0 := by
  unfold argB rngB chkR
  simp only [cond_or2]
def rargB (s p r f i x : Int) : Bool := (decide (p < 1) || r != 1 && r != 3) || ((decide (f < 0) || decide (15 < f) || decide (i < -1) || decide (4 ≤ i)) || (decide (i < 0) && f / 1 % 2 == 1 || decide (0 ≤ i) && (f / 2 % 2 == 1 || f / 8 % 2 == 1)))
def rrngB (s p r f i x : Int) : Bool := (decide (s < 0) || decide (512 < p) || decide (512 - p < s) || decide (x < 0)) || (decide (i < 0) && decide (0 < x) || decide (0 ≤ i) && (decide (16 < p) || decide (16 - p < x)))
theorem rchkR_def (s p r f i x : Int) : rchkR s p r f i x = bif rargB s p r f i x then 1 else bif rrngB s p r f i x then 2 else 0 := by
  unfold rargB rrngB rchkR
  simp only [cond_or2]
theorem argB_eq (s p r f i x : Int) : rargB s p r f i x = argB s p r f i x := by
  by_cases hf : 0 ≤ f ∧ f ≤ 15
  · unfold rargB argB
    rw [bit1 hf.1 hf.2, bit10 hf.1 hf.2]
    generalize (f / 1 % 2 == 1) = b1
    generalize (f / 2 % 2 == 1) = b2
    generalize (f / 8 % 2 == 1) = b8
    rw [Bool.eq_iff_iff]
    cases b1 <;> cases b2 <;> cases b8 <;> simp only [Bool.or_eq_true, Bool.and_eq_true, bne_iff_ne, beq_iff_eq, decide_eq_true_eq, ne_eq, Bool.true_or, Bool.or_true, Bool.false_or, Bool.or_false, Bool.and_true, Bool.and_false, Bool.false_and, Bool.true_and, Bool.false_eq_true] <;> omega
  · have h1 : argB s p r f i x = true := by
      unfold argB
      have : (decide (f < 0) || decide (15 < f)) = true := by simp; omega
      simp [this]
    have h2 : rargB s p r f i x = true := by
      unfold rargB
      simp
      omega
    rw [h1, h2]
theorem arg_bd (s p r f i x : Int) (h : argB s p r f i x = false) : 1 ≤ p ∧ (r = 1 ∨ r = 3) ∧ 0 ≤ f ∧ f ≤ 15 ∧ -1 ≤ i ∧ i ≤ 3 := by
  unfold argB at h
  simp only [Bool.or_eq_false_iff, Bool.and_eq_false_iff, decide_eq_false_iff_not, bne_eq_false_iff_eq] at h
  omega
theorem rngB_eq (s p r f i x : Int) (h : argB s p r f i x = false) : rrngB s p r f i x = rngB s p r f i x := by
  have := arg_bd s p r f i x h
  unfold rrngB rngB
  rw [Bool.eq_iff_iff]
  simp only [Bool.or_eq_true, Bool.and_eq_true, bne_iff_ne, beq_iff_eq, decide_eq_true_eq, ne_eq]
  omega
theorem rchkR_eq (s p r f i x : Int) : rchkR s p r f i x = chkR s p r f i x := by
  rw [rchkR_def, chkR_def, argB_eq]
  cases h : argB s p r f i x with
  | true => rfl
  | false => rw [rngB_eq s p r f i x h]

/-- What a valid region's numbers are like. -/
theorem chk_bd {s p r f i x : Int} (h : chkR s p r f i x = 0) : 0 ≤ s ∧ 1 ≤ p ∧ s + p ≤ 512 ∧ (r = 1 ∨ r = 3) ∧ 0 ≤ f ∧ f ≤ 15 ∧ -1 ≤ i ∧ i ≤ 3 ∧ 0 ≤ x ∧ (i = -1 → x = 0) ∧ (i ≠ -1 → x + p ≤ 16) := by
  rw [chkR_def] at h
  cases ha : argB s p r f i x with
  | true => rw [ha] at h; simp at h
  | false =>
    have hb := arg_bd s p r f i x ha
    rw [ha] at h
    cases hr : rngB s p r f i x with
    | true => rw [hr] at h; simp at h
    | false =>
      unfold rngB at hr
      simp only [Bool.or_eq_false_iff, Bool.and_eq_false_iff, decide_eq_false_iff_not, bne_eq_false_iff_eq, beq_eq_false_iff_ne] at hr
      omega
theorem chk_012 (s p r f i x : Int) : chkR s p r f i x = 0 ∨ chkR s p r f i x = 1 ∨ chkR s p r f i x = 2 := by
  rw [chkR_def]
  cases argB s p r f i x <;> cases rngB s p r f i x <;> simp

theorem rchk2_any (s p r f i x : Int) (w : World) :
    Calls Try.prog 12 #[.agg #[.int .i64 s, .int .i64 p, .int .i64 r, .int .i64 f, .int .i64 i, .int .i64 x]] w fun e w' => e = .returned (.int .i64 (chkR s p r f i x)) ∧ Ext w w' := by
  have := rchk_any s p r f i x w
  rwa [rchkR_eq] at this
end Go.Proofs.Ytohodegmkepemaa
