/- The contracts of Check and awake. -/
import Derived.Test.YtdghgkajjhcbkaaErr
set_option linter.unusedSimpArgs false
set_option linter.unusedVariables false
namespace Go.Proofs.Ytdghgkajjhcbkaa
open Go.RowKit

set_option maxHeartbeats 400000 in
theorem chk_any (c : Int) (s : Bool) (p : Int) (w : World) :
    Calls Try.prog 17 #[.agg #[.int .i64 c, .bool s], .int .i64 p] w fun e w' => e = .returned (chkV (chkR c s p)) ∧ Ext w w' := by
  by_cases hv : validB c s = true
  · have hbd := valid_bd hv
    go_enter Try.func17, Try.ntmps17
    go_wp2_with (first | (go_at_call 9; refine (valid_any _ _ _).mono ?_; rintro e w1 ⟨rfl, os1, n1, rfl⟩) | go_region)
    all_goals go_returns
    all_goals refine ⟨?_, by (exact Ext.of_below (by (repeat' (first | (with_reducible exact Below.refl _ _) | (with_reducible assumption) | (with_reducible refine Below.alloc ?_ ?_ _) | (with_reducible refine Below.wext ?_ ?_ _ _) | (with_reducible refine Below.drew ?_) | (with_reducible refine Below.setCell ?_ ?_ _) | (with_reducible exact Nat.le_refl _) | (simp; omega) | (simp; done)))))⟩
    all_goals (simp_all [chkR, chkV] <;> (repeat' split) <;> (try simp_all) <;> (try omega))
  · go_enter Try.func17, Try.ntmps17
    go_wp2_with (first | (go_at_call 9; refine (valid_any _ _ _).mono ?_; rintro e w1 ⟨rfl, os1, n1, rfl⟩))
    all_goals go_returns
    all_goals refine ⟨?_, by (exact Ext.of_below (by (repeat' (first | (with_reducible exact Below.refl _ _) | (with_reducible assumption) | (with_reducible refine Below.alloc ?_ ?_ _) | (with_reducible refine Below.wext ?_ ?_ _ _) | (with_reducible refine Below.drew ?_) | (with_reducible refine Below.setCell ?_ ?_ _) | (with_reducible exact Nat.le_refl _) | (simp; omega) | (simp; done)))))⟩
    all_goals simp_all [chkR, chkV]

set_option maxHeartbeats 400000 in
theorem rchk_any (c : Int) (s : Bool) (p : Int) (w : World) :
    Calls Try.prog 18 #[.agg #[.int .i64 c, .bool s], .int .i64 p] w fun e w' => e = .returned (chkV (chkR c s p)) ∧ Ext w w' := by
  by_cases hv : validB c s = true
  · have hbd := valid_bd hv
    go_enter Try.func18, Try.ntmps18
    go_wp2_with (first | (go_at_call 10; refine (rvalid_any _ _ _).mono ?_; rintro e w1 ⟨rfl, os1, n1, rfl⟩) | go_region)
    all_goals go_returns
    all_goals refine ⟨?_, by (exact Ext.of_below (by (repeat' (first | (with_reducible exact Below.refl _ _) | (with_reducible assumption) | (with_reducible refine Below.alloc ?_ ?_ _) | (with_reducible refine Below.wext ?_ ?_ _ _) | (with_reducible refine Below.drew ?_) | (with_reducible refine Below.setCell ?_ ?_ _) | (with_reducible exact Nat.le_refl _) | (simp; omega) | (simp; done)))))⟩
    all_goals (simp_all [chkR, chkV] <;> (repeat' split) <;> (try simp_all) <;> (try omega))
  · go_enter Try.func18, Try.ntmps18
    go_wp2_with (first | (go_at_call 10; refine (rvalid_any _ _ _).mono ?_; rintro e w1 ⟨rfl, os1, n1, rfl⟩))
    all_goals go_returns
    all_goals refine ⟨?_, by (exact Ext.of_below (by (repeat' (first | (with_reducible exact Below.refl _ _) | (with_reducible assumption) | (with_reducible refine Below.alloc ?_ ?_ _) | (with_reducible refine Below.wext ?_ ?_ _ _) | (with_reducible refine Below.drew ?_) | (with_reducible refine Below.setCell ?_ ?_ _) | (with_reducible exact Nat.le_refl _) | (simp; omega) | (simp; done)))))⟩
    all_goals simp_all [chkR, chkV]

set_option maxHeartbeats 400000 in
theorem awake_any (w : World) :
    Calls Try.prog 12 #[] w fun e w' => e = .returned (.bool true) ∧ Ext w w' := by
  have h1 : setV (setR 0 false) = .tuple #[.agg #[.int .i64 1, .bool false], .int .i64 0] := by rfl
  have h2 : setV (setR 1 false) = .tuple #[.agg #[.int .i64 1, .bool false], .int .i64 0] := by rfl
  have h3 : samV (samR 1 false) = .tuple #[.int .i64 0, .int .i64 0] := by rfl
  have h4 : chkV (chkR 1 false 0) = .tuple #[.agg #[.int .i64 1, .bool true], .int .i64 1, .int .i64 15] := by rfl
  have h5 : chkV (chkR 1 true 1) = .tuple #[.agg #[.int .i64 1, .bool true], .int .i64 1, .int .i64 0] := by rfl
  have h6 : setV (setR 1 true) = .tuple #[.agg #[.int .i64 2, .bool false], .int .i64 0] := by rfl
  have h7 : chkV (chkR 2 false 3) = .tuple #[.agg #[.int .i64 0, .bool false], .int .i64 0, .int .i64 2] := by rfl
  have h8 : validB 0 true = false := by rfl
  have h9 : validB 1 true = true := by rfl
  go_enter Try.func12, Try.ntmps12
  go_wp2_with (first | (go_at_call 11; refine (new_any _).mono ?_; rintro e w1 ⟨rfl, os1, n1, rfl⟩) | (go_at_call 13; refine (set_any _ _ _).mono ?_; rintro e w1 ⟨rfl, os1, n1, rfl⟩) | (go_at_call 15; refine (sam_any _ _ _).mono ?_; rintro e w1 ⟨rfl, os1, n1, rfl⟩) | (go_at_call 17; refine (chk_any _ _ _ _).mono ?_; rintro e w1 ⟨rfl, os1, n1, rfl⟩) | (go_at_call 9; refine (valid_any _ _ _).mono ?_; rintro e w1 ⟨rfl, os1, n1, rfl⟩))
  all_goals go_returns
  all_goals refine ⟨?_, by (exact Ext.of_below (by (repeat' (first | (with_reducible exact Below.refl _ _) | (with_reducible assumption) | (with_reducible refine Below.alloc ?_ ?_ _) | (with_reducible refine Below.wext ?_ ?_ _ _) | (with_reducible refine Below.drew ?_) | (with_reducible refine Below.setCell ?_ ?_ _) | (with_reducible exact Nat.le_refl _) | (simp; omega) | (simp; done)))))⟩
  all_goals rfl

end Go.Proofs.Ytdghgkajjhcbkaa
