/- Layer 26: the laws FaultplanPlans, FaultplanAfters. -/
import Derived.Test.YtcbadcbahmclpaaFpra
import Derived.Test.YtcbadcbahmclpaaFprg
import Derived.Test.YtcbadcbahmclpaaFprh
import Derived.Test.YtcbadcbahmclpaaFpj
import Derived.Test.YtcbadcbahmclpaaFpo
set_option linter.unusedSimpArgs false
set_option linter.unusedVariables false
namespace Go.Proofs.Ytcbadcbahmclpaa
open Go.RowKit

theorem rafter_any : AfterOK 16 := by
  intro c w
  by_cases h : chkF c = 0
  · exact rafter_ok rplan_any c h w
  · have ha : aftF c = FC.zero := by unfold aftF; rw [if_neg h]
    have hd : doneF c = false := by unfold doneF; simp [h]
    rw [ha, hd]
    exact rafter_err rplan_any c h w
theorem law_plans (c : FC) (w : World) :
    Calls Try.prog 4 #[.agg #[.bool c.wr, .bool c.rg, .int .i64 c.pt, .bool c.sh, .bool c.fl, .bool c.bh, .bool c.bz, .int .i64 c.en, .bool c.wb, .bool c.tr, .bool c.ow, .bool c.on, .bool c.ca, .bool c.bk, .bool c.di, .bool c.fu, .int .i64 c.mi]] w fun e w' => e = .returned (.bool true) ∧ Ext w w' := plans_ok plan_any rplan_any awk c w
theorem law_afters (c : FC) (w : World) :
    Calls Try.prog 5 #[.agg #[.bool c.wr, .bool c.rg, .int .i64 c.pt, .bool c.sh, .bool c.fl, .bool c.bh, .bool c.bz, .int .i64 c.en, .bool c.wb, .bool c.tr, .bool c.ow, .bool c.on, .bool c.ca, .bool c.bk, .bool c.di, .bool c.fu, .int .i64 c.mi]] w fun e w' => e = .returned (.bool true) ∧ Ext w w' := afters_ok after_any rafter_any awk c w

end Go.Proofs.Ytcbadcbahmclpaa
