/- Address spaces, the reference's side: Map. -/
import Derived.Test.YtmajkjkakciaiaaVgM
set_option linter.unusedSimpArgs false
set_option linter.unusedVariables false
namespace Go.Proofs.Ytmajkjkakciaiaa
open Go.RowKit

attribute [local irreducible] Wp WL WO fin finB rnd Exit.then Exit.inBlock G GD LT Rd Fn FnB FvB Iter
attribute [local go_sem] RV.row TD.row
def rmI (l : List RV) (r : RV) (i : Nat) : List (Nat × AV) × Bs := ([(11, .d (.s (.int .i64 (i : Int)))), (8, .d (.l (rws l))), (9, .o 0 (rws (rmT l r i).1).length), (10, .d (.s (.bool (rmT l r i).2))), (3, .p 1 0), (4, .p 2 0)], [(0, some (23, (rws (rmT l r i).1).flatten.map .d)), (1, some (23, r.row.map .d)), (2, some (26, zDs.map .d))])
end Go.Proofs.Ytmajkjkakciaiaa
