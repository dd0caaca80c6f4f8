/- Regions, the reference's side: Has, Mergeable, Merge, Split. -/
import Derived.Test.YtmajkjkakciaiaaScM
set_option linter.unusedSimpArgs false
set_option linter.unusedVariables false
namespace Go.Proofs.Ytmajkjkakciaiaa
open Go.RowKit

attribute [local irreducible] Wp WL WO fin finB rnd Exit.then Exit.inBlock G GD LT Rd Fn FnB FvB Iter
def hasV (x : RV) (g : Int) : Bool := chkV x == 0 && decide (x.s ≤ g) && decide (g < x.s + x.p)
/-- Mergeable as the reference has it. -/
def mrgW (a b : RV) : Bool := bif chkV a != 0 || chkV b != 0 || a.s + a.p != b.s then false else bif a.f / 2 % 2 == 1 || a.r != b.r || a.f != b.f || a.i != b.i then false else decide (a.i < 0) || b.x == a.x + a.p
/-- Both have the same. -/
theorem mrgW_eq (a b : RV) : mrgW a b = mrgV a b := by
  by_cases ha : chkV a = 0
  · have hba := chkV_bd ha
    by_cases hb : chkV b = 0
    · have hbb := chkV_bd hb
      rw [Bool.eq_iff_iff]
      have e1 : mrgW a b = true ↔ a.s + a.p = b.s ∧ ¬ (a.f / 2 % 2 = 1) ∧ a.r = b.r ∧ a.f = b.f ∧ a.i = b.i ∧ (a.i < 0 ∨ b.x = a.x + a.p) := by
        simp only [mrgW, ha, hb, bne_self_eq_false, Bool.false_or]
        by_cases h1 : a.s + a.p = b.s <;> by_cases h2 : a.f / 2 % 2 = 1 <;> by_cases h3 : a.r = b.r <;> by_cases h4 : a.f = b.f <;> by_cases h5 : a.i = b.i <;> simp_all
      have e2 : mrgV a b = true ↔ ¬ (a.f / 2 % 2 = 1) ∧ ¬ (b.f / 2 % 2 = 1) ∧ a.s + a.p = b.s ∧ a.r = b.r ∧ a.f = b.f ∧ a.i = b.i ∧ (if a.i = -1 then a.x else a.x + a.p) = b.x := by
        simp only [mrgV, ha, hb, bne_self_eq_false, Bool.false_or, bit2 hba.2.2.2.2.1 hba.2.2.2.2.2.1, bit2 hbb.2.2.2.2.1 hbb.2.2.2.2.2.1, eqR, nxtV]
        simp only [Bool.and_eq_true, Bool.not_eq_true', Bool.or_eq_false_iff, beq_iff_eq, beq_eq_false_iff_ne, ne_eq, true_and]
        constructor
        · rintro ⟨⟨h1, h2⟩, h3⟩
          exact ⟨h1, h2, h3⟩
        · rintro ⟨h1, h2, h3⟩
          exact ⟨⟨h1, h2⟩, h3⟩
      rw [e1, e2]
      split <;> omega
    · have hb1 : (chkV b != 0) = true := by simp [hb]
      simp [mrgW, mrgV, hb1]
  · have ha1 : (chkV a != 0) = true := by simp [ha]
    simp [mrgW, mrgV, ha1]
/-- Split: the flag is taken away by subtraction. -/
theorem split_bits {f : Int} (h0 : 0 ≤ f) (h1 : f ≤ 15) : bits .andNot .i64 f 2 = if f / 2 % 2 = 1 then f - 2 else f := by
  rcases fl_cases h0 h1 with rfl | rfl | rfl | rfl | rfl | rfl | rfl | rfl | rfl | rfl | rfl | rfl | rfl | rfl | rfl | rfl <;> rfl
end Go.Proofs.Ytmajkjkakciaiaa
