/- The contracts of the functions of layer 29 and of its reference. -/
import Derived.Test.YtdghgkajjhcbkaaLib
set_option linter.unusedSimpArgs false
set_option linter.unusedVariables false
namespace Go.Proofs.Ytdghgkajjhcbkaa
open Go.RowKit

def validB (c : Int) (s : Bool) : Bool := decide (0 ≤ c) && decide (c ≤ 1073741824) && !(s && decide (c = 0))
def freshB (c : Int) (s : Bool) : Bool := decide (0 < c) && !s
theorem valid_bd {c : Int} {s : Bool} (h : validB c s = true) : 0 ≤ c ∧ c ≤ 1073741824 := by
  unfold validB at h; simp at h; omega
theorem fresh_bd {c : Int} {s : Bool} (h : freshB c s = true) : 0 < c := by
  unfold freshB at h; simp at h; omega

set_option maxHeartbeats 400000 in
theorem valid_any (c : Int) (s : Bool) (w : World) :
    Calls Try.prog 9 #[.agg #[.int .i64 c, .bool s]] w fun e w' => e = .returned (.bool (validB c s)) ∧ Ext w w' := by
  go_enter Try.func9, Try.ntmps9
  go_wp2
  all_goals go_ret
  all_goals refine ⟨ret_b ?_, by (exact Ext.of_below (by (repeat' (first | (with_reducible exact Below.refl _ _) | (with_reducible assumption) | (with_reducible refine Below.alloc ?_ ?_ _) | (with_reducible refine Below.wext ?_ ?_ _ _) | (with_reducible refine Below.drew ?_) | (with_reducible refine Below.setCell ?_ ?_ _) | (with_reducible exact Nat.le_refl _) | (simp; omega) | (simp; done)))))⟩
  all_goals (unfold validB; rw [Bool.eq_iff_iff]; cases s <;> simp_all <;> omega)

set_option maxHeartbeats 400000 in
theorem rvalid_any (c : Int) (s : Bool) (w : World) :
    Calls Try.prog 10 #[.agg #[.int .i64 c, .bool s]] w fun e w' => e = .returned (.bool (validB c s)) ∧ Ext w w' := by
  go_enter Try.func10, Try.ntmps10
  go_wp2
  all_goals go_ret
  all_goals refine ⟨ret_b ?_, by (exact Ext.of_below (by (repeat' (first | (with_reducible exact Below.refl _ _) | (with_reducible assumption) | (with_reducible refine Below.alloc ?_ ?_ _) | (with_reducible refine Below.wext ?_ ?_ _ _) | (with_reducible refine Below.drew ?_) | (with_reducible refine Below.setCell ?_ ?_ _) | (with_reducible exact Nat.le_refl _) | (simp; omega) | (simp; done)))))⟩
  all_goals (unfold validB; rw [Bool.eq_iff_iff]; cases s <;> simp_all <;> omega)

set_option maxHeartbeats 400000 in
theorem new_any (w : World) :
    Calls Try.prog 11 #[] w fun e w' => e = .returned (.agg #[.int .i64 0, .bool false]) ∧ Ext w w' := by
  go_enter Try.func11, Try.ntmps11
  go_wp2
  go_returns
  exact ⟨rfl, by (exact Ext.of_below (by (repeat' (first | (with_reducible exact Below.refl _ _) | (with_reducible assumption) | (with_reducible refine Below.alloc ?_ ?_ _) | (with_reducible refine Below.wext ?_ ?_ _ _) | (with_reducible refine Below.drew ?_) | (with_reducible refine Below.setCell ?_ ?_ _) | (with_reducible exact Nat.le_refl _) | (simp; omega) | (simp; done)))))⟩

set_option maxHeartbeats 400000 in
theorem fresh_any (c : Int) (s : Bool) (w : World) :
    Calls Try.prog 20 #[.agg #[.int .i64 c, .bool s]] w fun e w' => e = .returned (.bool (freshB c s)) ∧ Ext w w' := by
  go_enter Try.func20, Try.ntmps20
  go_wp2
  all_goals go_ret
  all_goals refine ⟨ret_b ?_, by (exact Ext.of_below (by (repeat' (first | (with_reducible exact Below.refl _ _) | (with_reducible assumption) | (with_reducible refine Below.alloc ?_ ?_ _) | (with_reducible refine Below.wext ?_ ?_ _ _) | (with_reducible refine Below.drew ?_) | (with_reducible refine Below.setCell ?_ ?_ _) | (with_reducible exact Nat.le_refl _) | (simp; omega) | (simp; done)))))⟩
  all_goals (unfold freshB; rw [Bool.eq_iff_iff]; cases s <;> simp_all <;> omega)

/-- What Set answers: the count, the mark, the error. -/
def setR (c : Int) (s : Bool) : Int × Bool × Int := if validB c s = true then (if freshB c s = true then (c, s, 0) else if c = 1073741824 then (0, false, 9) else (c + 1, false, 0)) else (0, false, 1)
/-- What Sample answers: the position, the error. -/
def samR (c : Int) (s : Bool) : Int × Int := if validB c s = true then (if freshB c s = true then (c - 1, 0) else (c, 0)) else (0, 1)
/-- What Check answers: the count, the mark, the position, the error. -/
def chkR (c : Int) (s : Bool) (p : Int) : Int × Bool × Int × Int := if validB c s = true then (if p < 0 ∨ c < p then (0, false, 0, 2) else if p = c then (c, s, p, 0) else (c, true, c, 15)) else (0, false, 0, 1)

def setV (r : Int × Bool × Int) : Value := .tuple #[.agg #[.int .i64 r.1, .bool r.2.1], .int .i64 r.2.2]
def samV (r : Int × Int) : Value := .tuple #[.int .i64 r.1, .int .i64 r.2]
def chkV (r : Int × Bool × Int × Int) : Value := .tuple #[.agg #[.int .i64 r.1, .bool r.2.1], .int .i64 r.2.2.1, .int .i64 r.2.2.2]

set_option maxHeartbeats 400000 in
theorem set_any (c : Int) (s : Bool) (w : World) :
    Calls Try.prog 13 #[.agg #[.int .i64 c, .bool s]] w fun e w' => e = .returned (setV (setR c s)) ∧ Ext w w' := by
  by_cases hv : validB c s = true
  · have := valid_bd hv
    go_enter Try.func13, Try.ntmps13
    go_wp2_with (first | (go_at_call 9; refine (valid_any _ _ _).mono ?_; rintro e w1 ⟨rfl, os1, n1, rfl⟩) | (go_at_call 20; refine (fresh_any _ _ _).mono ?_; rintro e w1 ⟨rfl, os1, n1, rfl⟩))
    all_goals go_returns
    all_goals refine ⟨?_, by (exact Ext.of_below (by (repeat' (first | (with_reducible exact Below.refl _ _) | (with_reducible assumption) | (with_reducible refine Below.alloc ?_ ?_ _) | (with_reducible refine Below.wext ?_ ?_ _ _) | (with_reducible refine Below.drew ?_) | (with_reducible refine Below.setCell ?_ ?_ _) | (with_reducible exact Nat.le_refl _) | (simp; omega) | (simp; done)))))⟩
    all_goals simp_all [setR, setV]
  · go_enter Try.func13, Try.ntmps13
    go_wp2_with (first | (go_at_call 9; refine (valid_any _ _ _).mono ?_; rintro e w1 ⟨rfl, os1, n1, rfl⟩))
    all_goals go_returns
    all_goals refine ⟨?_, by (exact Ext.of_below (by (repeat' (first | (with_reducible exact Below.refl _ _) | (with_reducible assumption) | (with_reducible refine Below.alloc ?_ ?_ _) | (with_reducible refine Below.wext ?_ ?_ _ _) | (with_reducible refine Below.drew ?_) | (with_reducible refine Below.setCell ?_ ?_ _) | (with_reducible exact Nat.le_refl _) | (simp; omega) | (simp; done)))))⟩
    all_goals simp_all [setR, setV]

set_option maxHeartbeats 400000 in
theorem rset_any (c : Int) (s : Bool) (w : World) :
    Calls Try.prog 14 #[.agg #[.int .i64 c, .bool s]] w fun e w' => e = .returned (setV (setR c s)) ∧ Ext w w' := by
  by_cases hv : validB c s = true
  · have hbd := valid_bd hv
    go_enter Try.func14, Try.ntmps14
    go_wp2_with (first | (go_at_call 10; refine (rvalid_any _ _ _).mono ?_; rintro e w1 ⟨rfl, os1, n1, rfl⟩))
    all_goals go_returns
    all_goals refine ⟨?_, by (exact Ext.of_below (by (repeat' (first | (with_reducible exact Below.refl _ _) | (with_reducible assumption) | (with_reducible refine Below.alloc ?_ ?_ _) | (with_reducible refine Below.wext ?_ ?_ _ _) | (with_reducible refine Below.drew ?_) | (with_reducible refine Below.setCell ?_ ?_ _) | (with_reducible exact Nat.le_refl _) | (simp; omega) | (simp; done)))))⟩
    all_goals (cases s <;> simp_all [setR, setV, freshB] <;> (repeat' split) <;> (try simp_all) <;> (try omega))
  · go_enter Try.func14, Try.ntmps14
    go_wp2_with (first | (go_at_call 10; refine (rvalid_any _ _ _).mono ?_; rintro e w1 ⟨rfl, os1, n1, rfl⟩))
    all_goals go_returns
    all_goals refine ⟨?_, by (exact Ext.of_below (by (repeat' (first | (with_reducible exact Below.refl _ _) | (with_reducible assumption) | (with_reducible refine Below.alloc ?_ ?_ _) | (with_reducible refine Below.wext ?_ ?_ _ _) | (with_reducible refine Below.drew ?_) | (with_reducible refine Below.setCell ?_ ?_ _) | (with_reducible exact Nat.le_refl _) | (simp; omega) | (simp; done)))))⟩
    all_goals (cases s <;> simp_all [setR, setV, freshB] <;> (repeat' split) <;> (try simp_all) <;> (try omega))

set_option maxHeartbeats 400000 in
theorem sam_any (c : Int) (s : Bool) (w : World) :
    Calls Try.prog 15 #[.agg #[.int .i64 c, .bool s]] w fun e w' => e = .returned (samV (samR c s)) ∧ Ext w w' := by
  by_cases hv : validB c s = true
  · have hbd := valid_bd hv
    go_enter Try.func15, Try.ntmps15
    go_wp2_with (first | (go_at_call 9; refine (valid_any _ _ _).mono ?_; rintro e w1 ⟨rfl, os1, n1, rfl⟩) | (go_at_call 20; refine (fresh_any _ _ _).mono ?_; rintro e w1 ⟨rfl, os1, n1, rfl⟩))
    all_goals go_returns
    all_goals refine ⟨?_, by (exact Ext.of_below (by (repeat' (first | (with_reducible exact Below.refl _ _) | (with_reducible assumption) | (with_reducible refine Below.alloc ?_ ?_ _) | (with_reducible refine Below.wext ?_ ?_ _ _) | (with_reducible refine Below.drew ?_) | (with_reducible refine Below.setCell ?_ ?_ _) | (with_reducible exact Nat.le_refl _) | (simp; omega) | (simp; done)))))⟩
    all_goals (simp_all [samR, samV])
  · go_enter Try.func15, Try.ntmps15
    go_wp2_with (first | (go_at_call 9; refine (valid_any _ _ _).mono ?_; rintro e w1 ⟨rfl, os1, n1, rfl⟩) | (go_at_call 20; refine (fresh_any _ _ _).mono ?_; rintro e w1 ⟨rfl, os1, n1, rfl⟩))
    all_goals go_returns
    all_goals refine ⟨?_, by (exact Ext.of_below (by (repeat' (first | (with_reducible exact Below.refl _ _) | (with_reducible assumption) | (with_reducible refine Below.alloc ?_ ?_ _) | (with_reducible refine Below.wext ?_ ?_ _ _) | (with_reducible refine Below.drew ?_) | (with_reducible refine Below.setCell ?_ ?_ _) | (with_reducible exact Nat.le_refl _) | (simp; omega) | (simp; done)))))⟩
    all_goals (simp_all [samR, samV])

set_option maxHeartbeats 400000 in
theorem rsam_any (c : Int) (s : Bool) (w : World) :
    Calls Try.prog 16 #[.agg #[.int .i64 c, .bool s]] w fun e w' => e = .returned (samV (samR c s)) ∧ Ext w w' := by
  by_cases hv : validB c s = true
  · have hbd := valid_bd hv
    go_enter Try.func16, Try.ntmps16
    go_wp2_with (first | (go_at_call 10; refine (rvalid_any _ _ _).mono ?_; rintro e w1 ⟨rfl, os1, n1, rfl⟩))
    all_goals go_returns
    all_goals refine ⟨?_, by (exact Ext.of_below (by (repeat' (first | (with_reducible exact Below.refl _ _) | (with_reducible assumption) | (with_reducible refine Below.alloc ?_ ?_ _) | (with_reducible refine Below.wext ?_ ?_ _ _) | (with_reducible refine Below.drew ?_) | (with_reducible refine Below.setCell ?_ ?_ _) | (with_reducible exact Nat.le_refl _) | (simp; omega) | (simp; done)))))⟩
    all_goals (cases s <;> simp_all [samR, samV, freshB] <;> (repeat' split) <;> (try simp_all) <;> (try omega))
  · go_enter Try.func16, Try.ntmps16
    go_wp2_with (first | (go_at_call 10; refine (rvalid_any _ _ _).mono ?_; rintro e w1 ⟨rfl, os1, n1, rfl⟩))
    all_goals go_returns
    all_goals refine ⟨?_, by (exact Ext.of_below (by (repeat' (first | (with_reducible exact Below.refl _ _) | (with_reducible assumption) | (with_reducible refine Below.alloc ?_ ?_ _) | (with_reducible refine Below.wext ?_ ?_ _ _) | (with_reducible refine Below.drew ?_) | (with_reducible refine Below.setCell ?_ ?_ _) | (with_reducible exact Nat.le_refl _) | (simp; omega) | (simp; done)))))⟩
    all_goals (cases s <;> simp_all [samR, samV, freshB] <;> (repeat' split) <;> (try simp_all) <;> (try omega))

end Go.Proofs.Ytdghgkajjhcbkaa
