/- ErrseqTwice: case by case. -/
import Derived.Test.YtdghgkajjhcbkaaErb
set_option linter.unusedSimpArgs false
set_option linter.unusedVariables false
namespace Go.Proofs.Ytdghgkajjhcbkaa
open Go.RowKit

theorem chk_same {c : Int} {s : Bool} (hv : validB c s = true) : chkR c s c = (c, s, c, 0) := by
  have := valid_bd hv
  unfold chkR; rw [if_pos hv, if_neg (by omega), if_pos rfl]
theorem chk_told {c : Int} {s : Bool} {p : Int} (hv : validB c s = true) (h0 : 0 ≤ p) (h1 : p < c) : chkR c s p = (c, true, c, 15) := by
  unfold chkR; rw [if_pos hv, if_neg (by omega), if_neg (by omega)]
theorem set_next {c : Int} {s : Bool} (hv : validB c s = true) (hf : freshB c s = false) (hm : c < 1073741824) : setR c s = (c + 1, false, 0) := by
  unfold setR; rw [if_pos hv, if_neg (by simp [hf]), if_neg (by omega)]
theorem set_keep {c : Int} {s : Bool} (hv : validB c s = true) (hf : freshB c s = true) : setR c s = (c, s, 0) := by
  unfold setR; rw [if_pos hv, if_pos hf]

theorem valid_seen {c : Int} (h0 : 0 < c) (h1 : c ≤ 1073741824) (s : Bool) : validB c s = true := by
  unfold validB; cases s <;> simp <;> omega

set_option maxHeartbeats 1000000 in
theorem twice_bad (c : Int) (s : Bool) (p : Int) (w : World) (hv : validB c s = false) :
    Calls Try.prog 7 #[.agg #[.int .i64 c, .bool s], .int .i64 p] w fun e w' => e = .returned (.bool true) ∧ Ext w w' := by
  have e1 : chkV (chkR c s p) = .tuple #[.agg #[.int .i64 0, .bool false], .int .i64 0, .int .i64 1] := by simp [chkR, chkV, hv]
  clear hv
  go_enter Try.func7, Try.ntmps7
  go_wp2_with (first | (go_at_call 17; refine (chk_any _ _ _ _).mono ?_; rintro e w1 ⟨rfl, os1, n1, rfl⟩) | (go_at_call 12; refine (awake_any _).mono ?_; rintro e w1 ⟨rfl, os1, n1, rfl⟩))
  all_goals go_returns
  all_goals exact ⟨rfl, by (exact Ext.of_below (by (repeat' (first | (with_reducible exact Below.refl _ _) | (with_reducible assumption) | (with_reducible refine Below.alloc ?_ ?_ _) | (with_reducible refine Below.wext ?_ ?_ _ _) | (with_reducible refine Below.drew ?_) | (with_reducible refine Below.setCell ?_ ?_ _) | (with_reducible exact Nat.le_refl _) | (simp; omega) | (simp; done)))))⟩

set_option maxHeartbeats 1000000 in
theorem twice_out (c : Int) (s : Bool) (p : Int) (w : World) (hv : validB c s = true) (hp : p < 0 ∨ c < p) :
    Calls Try.prog 7 #[.agg #[.int .i64 c, .bool s], .int .i64 p] w fun e w' => e = .returned (.bool true) ∧ Ext w w' := by
  have e1 : chkV (chkR c s p) = .tuple #[.agg #[.int .i64 0, .bool false], .int .i64 0, .int .i64 2] := by simp [chkR, chkV, hv, hp]
  clear hv hp
  go_enter Try.func7, Try.ntmps7
  go_wp2_with (first | (go_at_call 17; refine (chk_any _ _ _ _).mono ?_; rintro e w1 ⟨rfl, os1, n1, rfl⟩) | (go_at_call 12; refine (awake_any _).mono ?_; rintro e w1 ⟨rfl, os1, n1, rfl⟩))
  all_goals go_returns
  all_goals exact ⟨rfl, by (exact Ext.of_below (by (repeat' (first | (with_reducible exact Below.refl _ _) | (with_reducible assumption) | (with_reducible refine Below.alloc ?_ ?_ _) | (with_reducible refine Below.wext ?_ ?_ _ _) | (with_reducible refine Below.drew ?_) | (with_reducible refine Below.setCell ?_ ?_ _) | (with_reducible exact Nat.le_refl _) | (simp; omega) | (simp; done)))))⟩

set_option maxHeartbeats 1000000 in
theorem twice_fresh (c : Int) (s : Bool) (p : Int) (w : World) (hv : validB c s = true) (hp : p = c) (hf : freshB c s = true) :
    Calls Try.prog 7 #[.agg #[.int .i64 c, .bool s], .int .i64 p] w fun e w' => e = .returned (.bool true) ∧ Ext w w' := by
  obtain rfl := hp
  have hbd := valid_bd hv
  have hs : 0 < p ∧ s = false := by simpa [freshB] using hf
  obtain ⟨hs0, rfl⟩ := hs
  have e1 : chkV (chkR p false p) = .tuple #[.agg #[.int .i64 p, .bool false], .int .i64 p, .int .i64 0] := by rw [chk_same hv]; rfl
  have e2 : setV (setR p false) = .tuple #[.agg #[.int .i64 p, .bool false], .int .i64 0] := by rw [set_keep hv hf]; rfl
  have e3 : (p == 0) = false := by simp; omega
  clear hv hf
  go_enter Try.func7, Try.ntmps7
  go_wp2_with (first | (go_at_call 17; refine (chk_any _ _ _ _).mono ?_; rintro e w1 ⟨rfl, os1, n1, rfl⟩) | (go_at_call 13; refine (set_any _ _ _).mono ?_; rintro e w1 ⟨rfl, os1, n1, rfl⟩) | (go_at_call 12; refine (awake_any _).mono ?_; rintro e w1 ⟨rfl, os1, n1, rfl⟩))
  all_goals go_returns
  all_goals exact ⟨rfl, by (exact Ext.of_below (by (repeat' (first | (with_reducible exact Below.refl _ _) | (with_reducible assumption) | (with_reducible refine Below.alloc ?_ ?_ _) | (with_reducible refine Below.wext ?_ ?_ _ _) | (with_reducible refine Below.drew ?_) | (with_reducible refine Below.setCell ?_ ?_ _) | (with_reducible exact Nat.le_refl _) | (simp; omega) | (simp; done)))))⟩

set_option maxHeartbeats 1000000 in
theorem twice_full (c : Int) (s : Bool) (p : Int) (w : World) (hv : validB c s = true) (hp : p = c) (hf : freshB c s = false) (hm : c = 1073741824) :
    Calls Try.prog 7 #[.agg #[.int .i64 c, .bool s], .int .i64 p] w fun e w' => e = .returned (.bool true) ∧ Ext w w' := by
  obtain rfl := hm
  obtain rfl := hp
  obtain rfl : s = true := by simpa [freshB] using hf
  have e1 : chkV (chkR 1073741824 true 1073741824) = .tuple #[.agg #[.int .i64 1073741824, .bool true], .int .i64 1073741824, .int .i64 0] := by rfl
  have e2 : setV (setR 1073741824 true) = .tuple #[.agg #[.int .i64 0, .bool false], .int .i64 9] := by rfl
  clear hv hf
  go_enter Try.func7, Try.ntmps7
  go_wp2_with (first | (go_at_call 17; refine (chk_any _ _ _ _).mono ?_; rintro e w1 ⟨rfl, os1, n1, rfl⟩) | (go_at_call 13; refine (set_any _ _ _).mono ?_; rintro e w1 ⟨rfl, os1, n1, rfl⟩) | (go_at_call 12; refine (awake_any _).mono ?_; rintro e w1 ⟨rfl, os1, n1, rfl⟩))
  all_goals go_returns
  all_goals exact ⟨rfl, by (exact Ext.of_below (by (repeat' (first | (with_reducible exact Below.refl _ _) | (with_reducible assumption) | (with_reducible refine Below.alloc ?_ ?_ _) | (with_reducible refine Below.wext ?_ ?_ _ _) | (with_reducible refine Below.drew ?_) | (with_reducible refine Below.setCell ?_ ?_ _) | (with_reducible exact Nat.le_refl _) | (simp; omega) | (simp; done)))))⟩

set_option maxHeartbeats 1000000 in
theorem twice_zero (c : Int) (s : Bool) (p : Int) (w : World) (hv : validB c s = true) (hp : p = c) (hc : c = 0) :
    Calls Try.prog 7 #[.agg #[.int .i64 c, .bool s], .int .i64 p] w fun e w' => e = .returned (.bool true) ∧ Ext w w' := by
  obtain rfl := hc
  obtain rfl := hp
  obtain rfl : s = false := by simpa [validB] using hv
  have e1 : chkV (chkR 0 false 0) = .tuple #[.agg #[.int .i64 0, .bool false], .int .i64 0, .int .i64 0] := by rfl
  have e2 : setV (setR 0 false) = .tuple #[.agg #[.int .i64 1, .bool false], .int .i64 0] := by rfl
  have e3 : chkV (chkR 1 false 0) = .tuple #[.agg #[.int .i64 1, .bool true], .int .i64 1, .int .i64 15] := by rfl
  clear hv
  go_enter Try.func7, Try.ntmps7
  go_wp2_with (first | (go_at_call 17; refine (chk_any _ _ _ _).mono ?_; rintro e w1 ⟨rfl, os1, n1, rfl⟩) | (go_at_call 13; refine (set_any _ _ _).mono ?_; rintro e w1 ⟨rfl, os1, n1, rfl⟩) | (go_at_call 12; refine (awake_any _).mono ?_; rintro e w1 ⟨rfl, os1, n1, rfl⟩))
  all_goals go_returns
  all_goals exact ⟨rfl, by (exact Ext.of_below (by (repeat' (first | (with_reducible exact Below.refl _ _) | (with_reducible assumption) | (with_reducible refine Below.alloc ?_ ?_ _) | (with_reducible refine Below.wext ?_ ?_ _ _) | (with_reducible refine Below.drew ?_) | (with_reducible refine Below.setCell ?_ ?_ _) | (with_reducible exact Nat.le_refl _) | (simp; omega) | (simp; done)))))⟩

set_option maxHeartbeats 1000000 in
theorem twice_seen (c : Int) (s : Bool) (p : Int) (w : World) (hv : validB c s = true) (hp : p = c) (hf : freshB c s = false) (h0 : 0 < c) (hm : c < 1073741824) :
    Calls Try.prog 7 #[.agg #[.int .i64 c, .bool s], .int .i64 p] w fun e w' => e = .returned (.bool true) ∧ Ext w w' := by
  obtain rfl := hp
  obtain rfl : s = true := by simpa [freshB, h0] using hf
  have e1 : chkV (chkR p true p) = .tuple #[.agg #[.int .i64 p, .bool true], .int .i64 p, .int .i64 0] := by rw [chk_same hv]; rfl
  have e2 : setV (setR p true) = .tuple #[.agg #[.int .i64 (p + 1), .bool false], .int .i64 0] := by rw [set_next hv hf (by omega)]; rfl
  have hv2 : validB (p + 1) false = true := valid_seen (by omega) (by omega) _
  have e3 : chkV (chkR (p + 1) false p) = .tuple #[.agg #[.int .i64 (p + 1), .bool true], .int .i64 (p + 1), .int .i64 15] := by rw [chk_told hv2 (by omega) (by omega)]; rfl
  clear hv hf hv2
  go_enter Try.func7, Try.ntmps7
  go_wp2_with (first | (go_at_call 17; refine (chk_any _ _ _ _).mono ?_; rintro e w1 ⟨rfl, os1, n1, rfl⟩) | (go_at_call 13; refine (set_any _ _ _).mono ?_; rintro e w1 ⟨rfl, os1, n1, rfl⟩) | (go_at_call 12; refine (awake_any _).mono ?_; rintro e w1 ⟨rfl, os1, n1, rfl⟩))
  all_goals go_returns
  all_goals exact ⟨rfl, by (exact Ext.of_below (by (repeat' (first | (with_reducible exact Below.refl _ _) | (with_reducible assumption) | (with_reducible refine Below.alloc ?_ ?_ _) | (with_reducible refine Below.wext ?_ ?_ _ _) | (with_reducible refine Below.drew ?_) | (with_reducible refine Below.setCell ?_ ?_ _) | (with_reducible exact Nat.le_refl _) | (simp; omega) | (simp; done)))))⟩

set_option maxHeartbeats 1000000 in
theorem twice_told (c : Int) (s : Bool) (p : Int) (w : World) (hv : validB c s = true) (hp0 : 0 ≤ p) (hp : p < c) (hm : c < 1073741824) :
    Calls Try.prog 7 #[.agg #[.int .i64 c, .bool s], .int .i64 p] w fun e w' => e = .returned (.bool true) ∧ Ext w w' := by
  have hv1 : validB c true = true := valid_seen (by omega) (by omega) _
  have hf1 : freshB c true = false := by simp [freshB]
  have e1 : chkV (chkR c s p) = .tuple #[.agg #[.int .i64 c, .bool true], .int .i64 c, .int .i64 15] := by rw [chk_told hv (by omega) (by omega)]; rfl
  have e1b : chkV (chkR c true c) = .tuple #[.agg #[.int .i64 c, .bool true], .int .i64 c, .int .i64 0] := by rw [chk_same hv1]; rfl
  have e2 : setV (setR c true) = .tuple #[.agg #[.int .i64 (c + 1), .bool false], .int .i64 0] := by rw [set_next hv1 hf1 (by omega)]; rfl
  have hv2 : validB (c + 1) false = true := valid_seen (by omega) (by omega) _
  have e3 : chkV (chkR (c + 1) false c) = .tuple #[.agg #[.int .i64 (c + 1), .bool true], .int .i64 (c + 1), .int .i64 15] := by rw [chk_told hv2 (by omega) (by omega)]; rfl
  clear hv hv1 hf1 hv2
  go_enter Try.func7, Try.ntmps7
  go_wp2_with (first | (go_at_call 17; refine (chk_any _ _ _ _).mono ?_; rintro e w1 ⟨rfl, os1, n1, rfl⟩) | (go_at_call 13; refine (set_any _ _ _).mono ?_; rintro e w1 ⟨rfl, os1, n1, rfl⟩) | (go_at_call 12; refine (awake_any _).mono ?_; rintro e w1 ⟨rfl, os1, n1, rfl⟩))
  all_goals go_returns
  all_goals exact ⟨rfl, by (exact Ext.of_below (by (repeat' (first | (with_reducible exact Below.refl _ _) | (with_reducible assumption) | (with_reducible refine Below.alloc ?_ ?_ _) | (with_reducible refine Below.wext ?_ ?_ _ _) | (with_reducible refine Below.drew ?_) | (with_reducible refine Below.setCell ?_ ?_ _) | (with_reducible exact Nat.le_refl _) | (simp; omega) | (simp; done)))))⟩

set_option maxHeartbeats 1000000 in
theorem twice_toldfull (c : Int) (s : Bool) (p : Int) (w : World) (hv : validB c s = true) (hp0 : 0 ≤ p) (hp : p < c) (hm : c = 1073741824) :
    Calls Try.prog 7 #[.agg #[.int .i64 c, .bool s], .int .i64 p] w fun e w' => e = .returned (.bool true) ∧ Ext w w' := by
  obtain rfl := hm
  have e1 : chkV (chkR 1073741824 s p) = .tuple #[.agg #[.int .i64 1073741824, .bool true], .int .i64 1073741824, .int .i64 15] := by rw [chk_told hv (by omega) (by omega)]; rfl
  have e1b : chkV (chkR 1073741824 true 1073741824) = .tuple #[.agg #[.int .i64 1073741824, .bool true], .int .i64 1073741824, .int .i64 0] := by rfl
  have e2 : setV (setR 1073741824 true) = .tuple #[.agg #[.int .i64 0, .bool false], .int .i64 9] := by rfl
  clear hv
  go_enter Try.func7, Try.ntmps7
  go_wp2_with (first | (go_at_call 17; refine (chk_any _ _ _ _).mono ?_; rintro e w1 ⟨rfl, os1, n1, rfl⟩) | (go_at_call 13; refine (set_any _ _ _).mono ?_; rintro e w1 ⟨rfl, os1, n1, rfl⟩) | (go_at_call 12; refine (awake_any _).mono ?_; rintro e w1 ⟨rfl, os1, n1, rfl⟩))
  all_goals go_returns
  all_goals exact ⟨rfl, by (exact Ext.of_below (by (repeat' (first | (with_reducible exact Below.refl _ _) | (with_reducible assumption) | (with_reducible refine Below.alloc ?_ ?_ _) | (with_reducible refine Below.wext ?_ ?_ _ _) | (with_reducible refine Below.drew ?_) | (with_reducible refine Below.setCell ?_ ?_ _) | (with_reducible exact Nat.le_refl _) | (simp; omega) | (simp; done)))))⟩

theorem law_twice (c : Int) (s : Bool) (p : Int) (w : World) :
    Calls Try.prog 7 #[.agg #[.int .i64 c, .bool s], .int .i64 p] w fun e w' => e = .returned (.bool true) ∧ Ext w w' := by
  by_cases hv : validB c s = true
  · have hbd := valid_bd hv
    by_cases hp : p < 0 ∨ c < p
    · exact twice_out c s p w hv hp
    · by_cases hpc : p = c
      · by_cases hf : freshB c s = true
        · exact twice_fresh c s p w hv hpc hf
        · have hf' : freshB c s = false := by simpa using hf
          by_cases h0 : c = 0
          · exact twice_zero c s p w hv hpc h0
          · by_cases hm : c = 1073741824
            · exact twice_full c s p w hv hpc hf' hm
            · exact twice_seen c s p w hv hpc hf' (by omega) (by omega)
      · by_cases hm : c = 1073741824
        · exact twice_toldfull c s p w hv (by omega) (by omega) hm
        · exact twice_told c s p w hv (by omega) (by omega) (by omega)
  · exact twice_bad c s p w (by simpa using hv)

end Go.Proofs.Ytdghgkajjhcbkaa
