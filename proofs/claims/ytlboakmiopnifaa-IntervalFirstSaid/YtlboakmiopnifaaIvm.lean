/- Layer 02: both, one. -/
import Derived.Test.YtlboakmiopnifaaIvl
set_option linter.unusedSimpArgs false
set_option linter.unusedVariables false
namespace Go.Proofs.Ytlboakmiopnifaa
open Go.RowKit

/-- The error of the first of two lists that has one. -/
def bothI (a b : List (Int × Int)) : Int := if chkI a = 0 then chkI b else chkI a
set_option maxHeartbeats 4000000 in
theorem both_any (a b : List (Int × Int)) (v u : Value) (w : World) (hv : isSl w v 2 a.length (ivF a)) (hu : isSl w u 2 b.length (ivF b)) :
    Calls Try.prog 45 #[v, u] w fun e w' => e = .returned (.int .i64 (bothI a b)) ∧ Ext w w' := by
  have HV : Hid (isSl w v 2 a.length (ivF a)) := hv
  have HU : Hid (isSl w u 2 b.length (ivF b)) := hu
  by_cases h : chkI a = 0
  · have e1 : (chkI a != 0) = false := by simp [h]
    have HB : Hid (bothI a b = chkI b) := by show bothI a b = _; unfold bothI; rw [if_pos h]
    clear hv hu h
    go_enter Try.func45, Try.ntmps45
    go_upto_region 2 with (first | (go_at_call 13; refine (chk_any a v _ (HV.out.ext (by (exact Ext.of_below (by (repeat' (first | (with_reducible exact Below.refl _ _) | (with_reducible assumption) | (with_reducible refine Below.alloc ?_ ?_ _) | (with_reducible refine Below.wext ?_ ?_ _ _) | (with_reducible refine Below.drew ?_) | (with_reducible refine Below.setCell ?_ ?_ _) | (with_reducible exact Nat.le_refl _) | (with_reducible refine Below.drewN' ?_ _) | (simp; omega) | (simp; done)))))))).mono ?_; rintro e w1 ⟨rfl, os1, n1, rfl⟩))
    go_upto_region 9999 with (first | (go_at_call 13; refine (chk_any b u _ (HU.out.ext (by (exact Ext.of_below (by (repeat' (first | (with_reducible exact Below.refl _ _) | (with_reducible assumption) | (with_reducible refine Below.alloc ?_ ?_ _) | (with_reducible refine Below.wext ?_ ?_ _ _) | (with_reducible refine Below.drew ?_) | (with_reducible refine Below.setCell ?_ ?_ _) | (with_reducible exact Nat.le_refl _) | (with_reducible refine Below.drewN' ?_ _) | (simp; omega) | (simp; done)))))))).mono ?_; rintro e w1 ⟨rfl, os2, n2, rfl⟩))
    all_goals go_ret
    all_goals (rw [HB.out]; exact ⟨rfl, by (exact Ext.of_below (by (repeat' (first | (with_reducible exact Below.refl _ _) | (with_reducible assumption) | (with_reducible refine Below.alloc ?_ ?_ _) | (with_reducible refine Below.wext ?_ ?_ _ _) | (with_reducible refine Below.drew ?_) | (with_reducible refine Below.setCell ?_ ?_ _) | (with_reducible exact Nat.le_refl _) | (with_reducible refine Below.drewN' ?_ _) | (simp; omega) | (simp; done)))))⟩)
  · have e1 : (chkI a != 0) = true := by simp [h]
    have HB : Hid (bothI a b = chkI a) := by show bothI a b = _; unfold bothI; rw [if_neg h]
    clear hv hu h
    go_enter Try.func45, Try.ntmps45
    go_upto_region 9999 with (first | (go_at_call 13; refine (chk_any a _ _ (HV.out.ext (by (exact Ext.of_below (by (repeat' (first | (with_reducible exact Below.refl _ _) | (with_reducible assumption) | (with_reducible refine Below.alloc ?_ ?_ _) | (with_reducible refine Below.wext ?_ ?_ _ _) | (with_reducible refine Below.drew ?_) | (with_reducible refine Below.setCell ?_ ?_ _) | (with_reducible exact Nat.le_refl _) | (with_reducible refine Below.drewN' ?_ _) | (simp; omega) | (simp; done)))))))).mono ?_; rintro e w1 ⟨rfl, os1, n1, rfl⟩))
    all_goals go_ret
    all_goals (rw [HB.out]; exact ⟨rfl, by (exact Ext.of_below (by (repeat' (first | (with_reducible exact Below.refl _ _) | (with_reducible assumption) | (with_reducible refine Below.alloc ?_ ?_ _) | (with_reducible refine Below.wext ?_ ?_ _ _) | (with_reducible refine Below.drew ?_) | (with_reducible refine Below.setCell ?_ ?_ _) | (with_reducible exact Nat.le_refl _) | (with_reducible refine Below.drewN' ?_ _) | (simp; omega) | (simp; done)))))⟩)

/-- The list of an interval. -/
def oneI (x : Int × Int) : List (Int × Int) := if x.1 = x.2 then [] else [x]
set_option maxHeartbeats 4000000 in
theorem one_any (f t : Int) (w : World) :
    Calls Try.prog 40 #[.agg #[.int .i64 f, .int .i64 t]] w fun e w' => ∃ v, e = .returned v ∧ isSl w' v 2 (oneI (f, t)).length (ivF (oneI (f, t))) ∧ Ext w w' := by
  by_cases h : f = t
  · have e1 : (f == t) = true := by simp [h]
    have HO : Hid (oneI (f, t) = []) := by show oneI (f, t) = []; unfold oneI; rw [if_pos h]
    clear h
    go_enter Try.func40, Try.ntmps40
    go_wp2_with fail
    all_goals go_ret
    all_goals (rw [HO.out]; exact ⟨_, rfl, isSl_nil _ _, by (exact Ext.of_below (by (repeat' (first | (with_reducible exact Below.refl _ _) | (with_reducible assumption) | (with_reducible refine Below.alloc ?_ ?_ _) | (with_reducible refine Below.wext ?_ ?_ _ _) | (with_reducible refine Below.drew ?_) | (with_reducible refine Below.setCell ?_ ?_ _) | (with_reducible exact Nat.le_refl _) | (with_reducible refine Below.drewN' ?_ _) | (simp; omega) | (simp; done)))))⟩)
  · have e1 : (f == t) = false := by simp [h]
    have HO : Hid (oneI (f, t) = [(f, t)]) := by show oneI (f, t) = _; unfold oneI; rw [if_neg h]
    clear h
    go_enter Try.func40, Try.ntmps40
    go_wp2_with fail
    all_goals go_ret
    all_goals (rw [HO.out]; exact ⟨_, rfl, isSl_new1 _ _ [.int .i64 f, .int .i64 t] _ (by simp), by (exact Ext.of_below (by (repeat' (first | (with_reducible exact Below.refl _ _) | (with_reducible assumption) | (with_reducible refine Below.alloc ?_ ?_ _) | (with_reducible refine Below.wext ?_ ?_ _ _) | (with_reducible refine Below.drew ?_) | (with_reducible refine Below.setCell ?_ ?_ _) | (with_reducible exact Nat.le_refl _) | (with_reducible refine Below.drewN' ?_ _) | (simp; omega) | (simp; done)))))⟩)

end Go.Proofs.Ytlboakmiopnifaa
