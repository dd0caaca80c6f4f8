/- Layer 26: macros on ranges of cells, for the loops. -/
import Derived.Test.YtcbadcbahmclpaaFpt
set_option linter.unusedSimpArgs false
set_option linter.unusedVariables false
namespace Go.Proofs.Ytcbadcbahmclpaa
open Go.RowKit

macro "thrb" : tactic => `(tactic| (repeat (first | (with_reducible assumption) | ((with_reducible refine T_newAt ?_ ?_); (focus (simp; done)); rfl) | (with_reducible refine T_wext ?_ _ _) | (with_reducible refine T_alloc ?_ _) | (with_reducible refine T_drew ?_) | (with_reducible refine World.there_setCells ?_ _ _ _))))
macro "rngb" : tactic => `(tactic| (repeat (first | (with_reducible assumption) | ((with_reducible refine R_newAt ?_ ?_); (focus (simp; done)); rfl) | (with_reducible refine R_wext ?_ _ _) | (with_reducible refine R_alloc ?_ _) | (with_reducible refine R_drew ?_) | ((with_reducible refine World.rangeAt_setCells_same _ _ _ _ ?_); thrb) | (with_reducible refine World.rangeAt_setCells_apart ?_ _ _ _ (Or.inl (by assumption))))))

end Go.Proofs.Ytcbadcbahmclpaa
