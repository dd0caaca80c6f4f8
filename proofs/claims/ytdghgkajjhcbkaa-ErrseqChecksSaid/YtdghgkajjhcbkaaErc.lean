/- The laws of layer 29 but one: each returns true. -/
import Derived.Test.YtdghgkajjhcbkaaErb
set_option linter.unusedSimpArgs false
set_option linter.unusedVariables false
namespace Go.Proofs.Ytdghgkajjhcbkaa
open Go.RowKit

set_option maxHeartbeats 1000000 in
theorem law_valid (c : Int) (s : Bool) (w : World) :
    Calls Try.prog 3 #[.agg #[.int .i64 c, .bool s]] w fun e w' => e = .returned (.bool true) ∧ Ext w w' := by
  go_enter Try.func3, Try.ntmps3
  go_wp2_with fail
  (refine wp_region_ext (by kernel_rfl) (by kernel_rfl) ?_; (repeat (any_goals (refine wpQuiet_step (fun K hK => ?_); go_simp; (first | (refine hK _ ?_; clear hK K) | (apply Exists.intro; refine ⟨fun _ => ?_, hK _ ?_⟩; (first | (go_at_call 9; exact Calls.ext_of (valid_any _ _ _)) | (go_at_call 10; exact Calls.ext_of (rvalid_any _ _ _)) | (go_at_call 11; exact Calls.ext_of (new_any _)) | (go_at_call 12; exact Calls.ext_of (awake_any _))); (clear hK K)) | (split <;> (refine hK _ ?_; clear hK K)))))); all_goals (refine wpQuiet_nil ?_; intro wq hwq; obtain ⟨⟨osq, nq⟩, hwq2⟩ := hwq; subst hwq2; dsimp only))
  all_goals go_wp2
  all_goals go_returns
  all_goals exact ⟨rfl, by (exact Ext.of_below (by (repeat' (first | (with_reducible exact Below.refl _ _) | (with_reducible assumption) | (with_reducible refine Below.alloc ?_ ?_ _) | (with_reducible refine Below.wext ?_ ?_ _ _) | (with_reducible refine Below.drew ?_) | (with_reducible refine Below.setCell ?_ ?_ _) | (with_reducible exact Nat.le_refl _) | (simp; omega) | (simp; done)))))⟩

set_option maxHeartbeats 1000000 in
theorem law_sets (c : Int) (s : Bool) (w : World) :
    Calls Try.prog 4 #[.agg #[.int .i64 c, .bool s]] w fun e w' => e = .returned (.bool true) ∧ Ext w w' := by
  have h1 : setV (setR c s) = .tuple #[.agg #[.int .i64 (setR c s).1, .bool (setR c s).2.1], .int .i64 (setR c s).2.2] := rfl
  have h2 : samV (samR c s) = .tuple #[.int .i64 (samR c s).1, .int .i64 (samR c s).2] := rfl
  go_enter Try.func4, Try.ntmps4
  go_wp2_with (first | (go_at_call 13; refine (set_any _ _ _).mono ?_; rintro e w1 ⟨rfl, os1, n1, rfl⟩) | (go_at_call 14; refine (rset_any _ _ _).mono ?_; rintro e w1 ⟨rfl, os1, n1, rfl⟩) | (go_at_call 15; refine (sam_any _ _ _).mono ?_; rintro e w1 ⟨rfl, os1, n1, rfl⟩) | (go_at_call 16; refine (rsam_any _ _ _).mono ?_; rintro e w1 ⟨rfl, os1, n1, rfl⟩) | (go_at_call 12; refine (awake_any _).mono ?_; rintro e w1 ⟨rfl, os1, n1, rfl⟩))
  all_goals go_returns
  all_goals exact ⟨rfl, by (exact Ext.of_below (by (repeat' (first | (with_reducible exact Below.refl _ _) | (with_reducible assumption) | (with_reducible refine Below.alloc ?_ ?_ _) | (with_reducible refine Below.wext ?_ ?_ _ _) | (with_reducible refine Below.drew ?_) | (with_reducible refine Below.setCell ?_ ?_ _) | (with_reducible exact Nat.le_refl _) | (simp; omega) | (simp; done)))))⟩

set_option maxHeartbeats 1000000 in
theorem law_checks (c : Int) (s : Bool) (p : Int) (w : World) :
    Calls Try.prog 5 #[.agg #[.int .i64 c, .bool s], .int .i64 p] w fun e w' => e = .returned (.bool true) ∧ Ext w w' := by
  have h1 : chkV (chkR c s p) = .tuple #[.agg #[.int .i64 (chkR c s p).1, .bool (chkR c s p).2.1], .int .i64 (chkR c s p).2.2.1, .int .i64 (chkR c s p).2.2.2] := rfl
  go_enter Try.func5, Try.ntmps5
  go_wp2_with (first | (go_at_call 17; refine (chk_any _ _ _ _).mono ?_; rintro e w1 ⟨rfl, os1, n1, rfl⟩) | (go_at_call 18; refine (rchk_any _ _ _ _).mono ?_; rintro e w1 ⟨rfl, os1, n1, rfl⟩) | (go_at_call 12; refine (awake_any _).mono ?_; rintro e w1 ⟨rfl, os1, n1, rfl⟩))
  all_goals go_returns
  all_goals exact ⟨rfl, by (exact Ext.of_below (by (repeat' (first | (with_reducible exact Below.refl _ _) | (with_reducible assumption) | (with_reducible refine Below.alloc ?_ ?_ _) | (with_reducible refine Below.wext ?_ ?_ _ _) | (with_reducible refine Below.drew ?_) | (with_reducible refine Below.setCell ?_ ?_ _) | (with_reducible exact Nat.le_refl _) | (simp; omega) | (simp; done)))))⟩

end Go.Proofs.Ytdghgkajjhcbkaa
