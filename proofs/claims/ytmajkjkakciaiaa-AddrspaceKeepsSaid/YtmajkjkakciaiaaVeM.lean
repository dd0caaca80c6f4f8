/- Address spaces, the reference's side: normal. -/
import Derived.Test.YtmajkjkakciaiaaVdM
set_option linter.unusedSimpArgs false
set_option linter.unusedVariables false
namespace Go.Proofs.Ytmajkjkakciaiaa
open Go.RowKit

attribute [local irreducible] Wp WL WO fin finB rnd Exit.then Exit.inBlock G GD LT Rd Fn FnB FvB Iter
attribute [local go_sem] RV.row TD.row
def nmI (l : List RV) (i : Nat) : List (Nat × AV) × Bs := ([(4, .d (.s (.int .i64 (i : Int)))), (0, .d (.l (rws l))), (3, .o 0 (rws (normS l i)).length)], [(0, some (23, (rws (normS l i)).flatten.map .d))])
end Go.Proofs.Ytmajkjkakciaiaa
