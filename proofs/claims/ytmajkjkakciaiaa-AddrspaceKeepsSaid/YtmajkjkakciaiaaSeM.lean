/- Regions, the reference's side: Cut. -/
import Derived.Test.YtmajkjkakciaiaaSdM
set_option linter.unusedSimpArgs false
set_option linter.unusedVariables false
namespace Go.Proofs.Ytmajkjkakciaiaa
open Go.RowKit

attribute [local irreducible] Wp WL WO fin finB rnd Exit.then Exit.inBlock G GD LT Rd Fn FnB FvB Iter
theorem split_err {x : RV} (ha : chkV x = 0) (g : Int) : ((splitV x g).2.2 == 0) = (decide (x.s < g) && decide (g < x.s + x.p)) := by
  have h0 : (chkV x != 0) = false := by simp [ha]
  have he : endV x = x.s + x.p := by simp [endV, ha]
  simp only [splitV, h0, he, cond_false]
  by_cases h1 : g ≤ x.s
  · have h2 : ¬ x.s < g := by omega
    simp [h1, h2]
  · by_cases h2 : x.s + x.p ≤ g
    · have h3 : ¬ g < x.s + x.p := by omega
      simp [h2, h3]
    · have h3 : x.s < g := by omega
      have h4 : g < x.s + x.p := by omega
      simp [h1, h2, h3, h4]
end Go.Proofs.Ytmajkjkakciaiaa
