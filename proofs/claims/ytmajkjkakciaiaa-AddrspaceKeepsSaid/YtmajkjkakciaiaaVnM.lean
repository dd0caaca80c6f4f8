/- Address spaces, the reference's side: pieces. -/
import Derived.Test.YtmajkjkakciaiaaQl
set_option linter.unusedSimpArgs false
set_option linter.unusedVariables false
namespace Go.Proofs.Ytmajkjkakciaiaa
open Go.RowKit

/-- A region's parts, and the number of the one in the range. -/
def pcsL (x : RV) (g c : Int) : List RV := (divP x g c).map (·.1)
def pcsJ (x : RV) (g : Int) : Nat := if x.s < g then 1 else 0
theorem pcs_at {x : RV} {g c : Int} (hx : chkV x = 0) (h1 : g < x.s + x.p) (h2 : x.s < g + c) (hc : 1 ≤ c) : ∃ y, (pcsL x g c)[pcsJ x g]? = some y ∧ (∀ tr, (pcsL x g c).set (pcsJ x g) (tr y) = (divP x g c).map (selT tr)) ∧ chkV y = 0 ∧ (y.f = x.f ∨ y.f = bits .andNot .i64 x.f 2) := by
  have bx := chkV_bd hx
  unfold pcsL pcsJ divP divH divR
  by_cases h3 : x.s < g
  · rw [split_in hx h3 h1]
    simp only [if_true, if_pos h3, List.map_cons]
    have q1 := spLo_ok hx h3 h1
    have q2 := spHi_ok hx h3 h1
    have e3 : (spHi x g).s = g := rfl
    have e4 : (spHi x g).p = x.p - (g - x.s) := rfl
    by_cases h4 : g + c < x.s + x.p
    · rw [split_in q2 (by omega) (by omega)]
      refine ⟨spLo (spHi x g) (g + c), rfl, fun tr => rfl, spLo_ok q2 (by omega) (by omega), .inr rfl⟩
    · rw [split_out q2 (.inr (by omega))]
      exact ⟨spHi x g, rfl, fun tr => rfl, q2, .inr rfl⟩
  · rw [split_out hx (.inl (by omega))]
    simp only [show ((2 : Int) = 0) = False by simp, if_false, if_neg h3]
    by_cases h4 : g + c < x.s + x.p
    · rw [split_in hx h2 h4]
      exact ⟨spLo x (g + c), rfl, fun tr => rfl, spLo_ok hx h2 h4, .inl rfl⟩
    · rw [split_out hx (.inr (by omega))]
      exact ⟨x, rfl, fun tr => rfl, hx, .inl rfl⟩

attribute [local irreducible] Wp WL WO fin finB rnd Exit.then Exit.inBlock G GD LT Rd Fn FnB FvB Iter
attribute [local go_sem] RV.row TD.row
end Go.Proofs.Ytmajkjkakciaiaa
