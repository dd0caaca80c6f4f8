/- Layer 26: the law FaultplanPrivate. -/
import Derived.Test.YtcbadcbahmclpaaFpra
import Derived.Test.YtcbadcbahmclpaaFprf
import Derived.Test.YtcbadcbahmclpaaFpe
set_option linter.unusedSimpArgs false
set_option linter.unusedVariables false
namespace Go.Proofs.Ytcbadcbahmclpaa
open Go.RowKit

theorem law_priv (c : FC) (w : World) :
    Calls Try.prog 9 #[.agg #[.bool c.wr, .bool c.rg, .int .i64 c.pt, .bool c.sh, .bool c.fl, .bool c.bh, .bool c.bz, .int .i64 c.en, .bool c.wb, .bool c.tr, .bool c.ow, .bool c.on, .bool c.ca, .bool c.bk, .bool c.di, .bool c.fu, .int .i64 c.mi]] w fun e w' => e = .returned (.bool true) ∧ Ext w w' := by
  cases e1 : (!c.rg)
  · cases e2 : (chkF c != 0)
    · exact priv_in plan_any after_any rfchk_any awk c e1 e2 w
    · exact priv_out2 rfchk_any awk c e1 e2 w
  · exact priv_out1 rfchk_any awk c e1 w

end Go.Proofs.Ytcbadcbahmclpaa
