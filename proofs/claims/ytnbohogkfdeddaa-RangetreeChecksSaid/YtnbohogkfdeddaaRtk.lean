/- Rangetree: join. -/
import Derived.Test.YtnbohogkfdeddaaRth
import Derived.Test.YtnbohogkfdeddaaRti
import Derived.Test.YtnbohogkfdeddaaRtj
set_option linter.unusedSimpArgs false
set_option linter.unusedVariables false
namespace Go.Proofs.Ytnbohogkfdeddaa
open Go.RowKit

theorem join_P {A : Nat → Prop} (l : PT) (x : RV) (r : PT) (vl vr : TV) (w : World) (hA : Up A w) (hl : isT A w l.bt vl) (hr : isT A w r.bt vr) (hvx : vld x) (bl : bd l) (br : bd r) (h9 : l.ht ≤ 900 ∧ r.ht ≤ 900) :
    Calls Try.prog 53 #[.agg vl.cs.toArray, .agg x.cs.toArray, .agg vr.cs.toArray] w fun e w' => ∃ v, e = .returned (.agg v.cs.toArray) ∧ isT A w' (joinP l x r).bt v ∧ Ext w w' := by
  unfold joinP
  by_cases c1 : r.ht + 1 < l.ht
  · rw [if_pos c1]
    cases l with
    | E => exact absurd c1 (by have := PT.ht_nn r; simp only [PT.ht]; omega)
    | N a y b =>
      dsimp only
      by_cases c2 : b.ht ≤ a.ht
      · rw [if_pos c2]
        exact join_1 a y b x r vl vr w hA hl hr hvx bl br h9 c1 c2
      · rw [if_neg c2]
        cases b with
        | E => exact absurd (PT.ht_nn a) c2
        | N c z d => exact join_2 a y c z d x r vl vr w hA hl hr hvx bl br h9 c1 c2
  · rw [if_neg c1]
    by_cases c3 : l.ht + 1 < r.ht
    · rw [if_pos c3]
      cases r with
      | E => exact absurd c3 (by have := PT.ht_nn l; simp only [PT.ht]; omega)
      | N b y c =>
        dsimp only
        by_cases c2 : b.ht ≤ c.ht
        · rw [if_pos c2]
          exact join_3 l x b y c vl vr w hA hl hr hvx bl br h9 c1 c3 c2
        · rw [if_neg c2]
          cases b with
          | E => exact absurd (PT.ht_nn c) c2
          | N d z u => exact join_4 l x d z u y c vl vr w hA hl hr hvx bl br h9 c1 c3 c2
    · rw [if_neg c3]
      exact join_0 l x r vl vr w hA hl hr hvx bl br h9 c1 c3

end Go.Proofs.Ytnbohogkfdeddaa
