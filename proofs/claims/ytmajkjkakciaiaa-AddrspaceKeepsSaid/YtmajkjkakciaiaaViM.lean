/- Address spaces, the reference's side: covered. -/
import Derived.Test.YtmajkjkakciaiaaVhM
set_option linter.unusedSimpArgs false
set_option linter.unusedVariables false
namespace Go.Proofs.Ytmajkjkakciaiaa
open Go.RowKit

attribute [local irreducible] Wp WL WO fin finB rnd Exit.then Exit.inBlock G GD LT Rd Fn FnB FvB Iter
attribute [local go_sem] RV.row TD.row
def rcI (p : PT) (g c : Int) (i : Nat) : List (Nat × AV) × Bs := ([(7, .d (.s (.int .i64 (g + i)))), (1, .d (.s (.int .i64 g))), (2, .d (.s (.int .i64 c))), (3, .p 0 0)], [(0, some (26, p.td.row.map .d))])
end Go.Proofs.Ytmajkjkakciaiaa
