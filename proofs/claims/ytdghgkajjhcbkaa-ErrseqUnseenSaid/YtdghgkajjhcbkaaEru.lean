/- ErrseqUnseen: case by case. -/
import Derived.Test.YtdghgkajjhcbkaaErw
set_option linter.unusedSimpArgs false
set_option linter.unusedVariables false
namespace Go.Proofs.Ytdghgkajjhcbkaa
open Go.RowKit

theorem sam_bad {c : Int} {s : Bool} (hv : validB c s = false) : samR c s = (0, 1) := by
  unfold samR; rw [if_neg (by simp [hv])]
theorem sam_fresh {c : Int} {s : Bool} (hv : validB c s = true) (hf : freshB c s = true) : samR c s = (c - 1, 0) := by
  unfold samR; rw [if_pos hv, if_pos hf]
theorem sam_seen {c : Int} {s : Bool} (hv : validB c s = true) (hf : freshB c s = false) : samR c s = (c, 0) := by
  unfold samR; rw [if_pos hv, if_neg (by simp [hf])]

set_option maxHeartbeats 1000000 in
theorem unseen_bad (c : Int) (s : Bool) (w : World) (hv : validB c s = false) :
    Calls Try.prog 8 #[.agg #[.int .i64 c, .bool s]] w fun e w' => e = .returned (.bool true) ∧ Ext w w' := by
  have e1 : samV (samR c s) = .tuple #[.int .i64 0, .int .i64 1] := by rw [sam_bad hv]; rfl
  clear hv
  go_enter Try.func8, Try.ntmps8
  go_wp2_with (first | (go_at_call 15; refine (sam_any _ _ _).mono ?_; rintro e w1 ⟨rfl, os1, n1, rfl⟩) | (go_at_call 17; refine (chk_any _ _ _ _).mono ?_; rintro e w1 ⟨rfl, os1, n1, rfl⟩) | (go_at_call 12; refine (awake_any _).mono ?_; rintro e w1 ⟨rfl, os1, n1, rfl⟩))
  all_goals go_returns
  all_goals exact ⟨rfl, by (exact Ext.of_below (by (repeat' (first | (with_reducible exact Below.refl _ _) | (with_reducible assumption) | (with_reducible refine Below.alloc ?_ ?_ _) | (with_reducible refine Below.wext ?_ ?_ _ _) | (with_reducible refine Below.drew ?_) | (with_reducible refine Below.setCell ?_ ?_ _) | (with_reducible exact Nat.le_refl _) | (simp; omega) | (simp; done)))))⟩

set_option maxHeartbeats 1000000 in
theorem unseen_fresh (c : Int) (s : Bool) (w : World) (hv : validB c s = true) (hf : freshB c s = true) :
    Calls Try.prog 8 #[.agg #[.int .i64 c, .bool s]] w fun e w' => e = .returned (.bool true) ∧ Ext w w' := by
  have hbd := valid_bd hv
  have hs : 0 < c ∧ s = false := by simpa [freshB] using hf
  obtain ⟨hs0, rfl⟩ := hs
  have hv1 : validB c true = true := valid_seen (by omega) (by omega) _
  have e1 : samV (samR c false) = .tuple #[.int .i64 (c - 1), .int .i64 0] := by rw [sam_fresh hv hf]; rfl
  have e2 : chkV (chkR c false (c - 1)) = .tuple #[.agg #[.int .i64 c, .bool true], .int .i64 c, .int .i64 15] := by rw [chk_told hv (by omega) (by omega)]; rfl
  have e3 : samV (samR c true) = .tuple #[.int .i64 c, .int .i64 0] := by rw [sam_seen hv1 (by simp [freshB])]; rfl
  have e4 : chkV (chkR c true c) = .tuple #[.agg #[.int .i64 c, .bool true], .int .i64 c, .int .i64 0] := by rw [chk_same hv1]; rfl
  clear hv hf hv1
  go_enter Try.func8, Try.ntmps8
  go_wp2_with (first | (go_at_call 15; refine (sam_any _ _ _).mono ?_; rintro e w1 ⟨rfl, os1, n1, rfl⟩) | (go_at_call 17; refine (chk_any _ _ _ _).mono ?_; rintro e w1 ⟨rfl, os1, n1, rfl⟩) | (go_at_call 12; refine (awake_any _).mono ?_; rintro e w1 ⟨rfl, os1, n1, rfl⟩))
  all_goals go_returns
  all_goals exact ⟨rfl, by (exact Ext.of_below (by (repeat' (first | (with_reducible exact Below.refl _ _) | (with_reducible assumption) | (with_reducible refine Below.alloc ?_ ?_ _) | (with_reducible refine Below.wext ?_ ?_ _ _) | (with_reducible refine Below.drew ?_) | (with_reducible refine Below.setCell ?_ ?_ _) | (with_reducible exact Nat.le_refl _) | (simp; omega) | (simp; done)))))⟩

set_option maxHeartbeats 1000000 in
theorem unseen_seen (c : Int) (s : Bool) (w : World) (hv : validB c s = true) (hf : freshB c s = false) (hs : s = true) :
    Calls Try.prog 8 #[.agg #[.int .i64 c, .bool s]] w fun e w' => e = .returned (.bool true) ∧ Ext w w' := by
  obtain rfl := hs
  have hbd := valid_bd hv
  have e1 : samV (samR c true) = .tuple #[.int .i64 c, .int .i64 0] := by rw [sam_seen hv hf]; rfl
  have e2 : chkV (chkR c true c) = .tuple #[.agg #[.int .i64 c, .bool true], .int .i64 c, .int .i64 0] := by rw [chk_same hv]; rfl
  clear hv hf
  go_enter Try.func8, Try.ntmps8
  go_wp2_with (first | (go_at_call 15; refine (sam_any _ _ _).mono ?_; rintro e w1 ⟨rfl, os1, n1, rfl⟩) | (go_at_call 17; refine (chk_any _ _ _ _).mono ?_; rintro e w1 ⟨rfl, os1, n1, rfl⟩) | (go_at_call 12; refine (awake_any _).mono ?_; rintro e w1 ⟨rfl, os1, n1, rfl⟩))
  all_goals go_returns
  all_goals exact ⟨rfl, by (exact Ext.of_below (by (repeat' (first | (with_reducible exact Below.refl _ _) | (with_reducible assumption) | (with_reducible refine Below.alloc ?_ ?_ _) | (with_reducible refine Below.wext ?_ ?_ _ _) | (with_reducible refine Below.drew ?_) | (with_reducible refine Below.setCell ?_ ?_ _) | (with_reducible exact Nat.le_refl _) | (simp; omega) | (simp; done)))))⟩

set_option maxHeartbeats 1000000 in
theorem unseen_none (c : Int) (s : Bool) (w : World) (hv : validB c s = true) (hf : freshB c s = false) (hs : s = false) :
    Calls Try.prog 8 #[.agg #[.int .i64 c, .bool s]] w fun e w' => e = .returned (.bool true) ∧ Ext w w' := by
  obtain rfl := hs
  have hbd := valid_bd hv
  have hc0 : c ≤ 0 := by simpa [freshB] using hf
  obtain rfl : c = 0 := by omega
  have e1 : samV (samR 0 false) = .tuple #[.int .i64 0, .int .i64 0] := by rfl
  have e2 : chkV (chkR 0 false 0) = .tuple #[.agg #[.int .i64 0, .bool false], .int .i64 0, .int .i64 0] := by rfl
  clear hv hf
  go_enter Try.func8, Try.ntmps8
  go_wp2_with (first | (go_at_call 15; refine (sam_any _ _ _).mono ?_; rintro e w1 ⟨rfl, os1, n1, rfl⟩) | (go_at_call 17; refine (chk_any _ _ _ _).mono ?_; rintro e w1 ⟨rfl, os1, n1, rfl⟩) | (go_at_call 12; refine (awake_any _).mono ?_; rintro e w1 ⟨rfl, os1, n1, rfl⟩))
  all_goals go_returns
  all_goals exact ⟨rfl, by (exact Ext.of_below (by (repeat' (first | (with_reducible exact Below.refl _ _) | (with_reducible assumption) | (with_reducible refine Below.alloc ?_ ?_ _) | (with_reducible refine Below.wext ?_ ?_ _ _) | (with_reducible refine Below.drew ?_) | (with_reducible refine Below.setCell ?_ ?_ _) | (with_reducible exact Nat.le_refl _) | (simp; omega) | (simp; done)))))⟩

theorem law_unseen (c : Int) (s : Bool) (w : World) :
    Calls Try.prog 8 #[.agg #[.int .i64 c, .bool s]] w fun e w' => e = .returned (.bool true) ∧ Ext w w' := by
  by_cases hv : validB c s = true
  · by_cases hf : freshB c s = true
    · exact unseen_fresh c s w hv hf
    · cases hs : s with
      | true => exact hs ▸ unseen_seen c s w hv (by simpa using hf) hs
      | false => exact hs ▸ unseen_none c s w hv (by simpa using hf) hs
  · exact unseen_bad c s w (by simpa using hv)

end Go.Proofs.Ytdghgkajjhcbkaa
