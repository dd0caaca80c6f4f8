/- Layer 26: the law FaultplanEnds. -/
import Derived.Test.YtcbadcbahmclpaaFpra
import Derived.Test.YtcbadcbahmclpaaFpre
set_option linter.unusedSimpArgs false
set_option linter.unusedVariables false
namespace Go.Proofs.Ytcbadcbahmclpaa
open Go.RowKit


set_option maxRecDepth 100000 in
set_option maxHeartbeats 8000000 in
theorem law_ends_err (c : FC) (h : ¬ chkF c = 0) (w : World) :
    Calls Try.prog 6 #[.agg #[.bool c.wr, .bool c.rg, .int .i64 c.pt, .bool c.sh, .bool c.fl, .bool c.bh, .bool c.bz, .int .i64 c.en, .bool c.wb, .bool c.tr, .bool c.ow, .bool c.on, .bool c.ca, .bool c.bk, .bool c.di, .bool c.fu, .int .i64 c.mi]] w fun e w' => e = .returned (.bool true) ∧ Ext w w' := by
  have e1 : (chkF c != 0) = true := by simp [h]
  clear h
  go_enter Try.func6, Try.ntmps6
  go_wp2_with (first | (refine wpList_load_mid rfl 23 _ rfl w.heap.size 0 rfl (caseL c) _ ((case_new w c).range (by (exact Ext.of_below (by (repeat' (first | (with_reducible exact Below.refl _ _) | (with_reducible assumption) | (with_reducible refine Below.alloc ?_ ?_ _) | (with_reducible refine Below.wext ?_ ?_ _ _) | (with_reducible refine Below.drew ?_) | (with_reducible refine Below.setCell ?_ ?_ _) | (with_reducible exact Nat.le_refl _) | (with_reducible refine Below.drewN' ?_ _) | (simp; omega) | (simp; done))))))) Try.underlying23 rfl Try.info_fc ?_; simp only [caseL]) | (go_at_call 13; refine (plan_any _ _).mono ?_; rintro e w1 ⟨rfl, os1, n1, rfl⟩) | (go_at_call 12; refine (awk _).mono ?_; rintro e w1 ⟨rfl, os1, n1, rfl⟩))
  all_goals go_returns
  all_goals exact ⟨rfl, by (exact Ext.of_below (by (repeat' (first | (with_reducible exact Below.refl _ _) | (with_reducible assumption) | (with_reducible refine Below.alloc ?_ ?_ _) | (with_reducible refine Below.wext ?_ ?_ _ _) | (with_reducible refine Below.drew ?_) | (with_reducible refine Below.setCell ?_ ?_ _) | (with_reducible exact Nat.le_refl _) | (with_reducible refine Below.drewN' ?_ _) | (simp; omega) | (simp; done)))))⟩
theorem law_ends (c : FC) (w : World) :
    Calls Try.prog 6 #[.agg #[.bool c.wr, .bool c.rg, .int .i64 c.pt, .bool c.sh, .bool c.fl, .bool c.bh, .bool c.bz, .int .i64 c.en, .bool c.wb, .bool c.tr, .bool c.ow, .bool c.on, .bool c.ca, .bool c.bk, .bool c.di, .bool c.fu, .int .i64 c.mi]] w fun e w' => e = .returned (.bool true) ∧ Ext w w' := by
  by_cases h : chkF c = 0
  · exact ends_ok plan_any after_any awk c h w
  · exact law_ends_err c h w

end Go.Proofs.Ytcbadcbahmclpaa
