/- Layer 26: what the laws call. -/
import Derived.Test.YtcbadcbahmclpaaFph
import Derived.Test.YtcbadcbahmclpaaFpm
import Derived.Test.YtcbadcbahmclpaaFpq
set_option linter.unusedSimpArgs false
set_option linter.unusedVariables false
namespace Go.Proofs.Ytcbadcbahmclpaa
open Go.RowKit

theorem after_any : AfterOK 15 := by
  intro c w
  by_cases h : chkF c = 0
  · exact after_ok plan_any c h w
  · have ha : aftF c = FC.zero := by unfold aftF; rw [if_neg h]
    have hd : doneF c = false := by unfold doneF; simp [h]
    rw [ha, hd]
    exact after_err plan_any c h w
theorem awk (w : World) : Calls Try.prog 12 #[] w fun e w' => e = .returned (.bool true) ∧ Ext w w' := awake_any plan_any after_any w

end Go.Proofs.Ytcbadcbahmclpaa
