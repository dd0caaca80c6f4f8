/- Layer 02: awake. -/
import Derived.Test.YtlboakmiopnifaaIwb
set_option linter.unusedSimpArgs false
set_option linter.unusedVariables false
namespace Go.Proofs.Ytlboakmiopnifaa
open Go.RowKit

theorem add_c (v : Value) (w : World) (h : isSl w v 2 (pairI [1, 3]).length (ivF (pairI [1, 3]))) : Calls Try.prog 17 #[v, .agg #[.int .i64 3, .int .i64 5]] w (resP w.heap.size [(1, 5)] 0 w) := by
  have := add_any [(1, 3)] 3 5 v w h (by simp)
  rw [show errI [(1, 3)] 3 5 = 0 by decide, if_pos rfl, show uniL [(1, 3)] (oneI (3, 5)) = [(1, 5)] by simp [uniL, oneI, mergeI, putI]] at this
  exact this
theorem rem_c (v : Value) (w : World) (h : isSl w v 2 (pairI [1, 9]).length (ivF (pairI [1, 9]))) : Calls Try.prog 18 #[v, .agg #[.int .i64 3, .int .i64 5]] w (resP w.heap.size [(1, 3), (5, 9)] 0 w) := by
  have := rem_any [(1, 9)] 3 5 v w h (by simp)
  rw [show errI [(1, 9)] 3 5 = 0 by decide, if_pos rfl, show cutI [(1, 9)] (oneI (3, 5)) = [(1, 3), (5, 9)] by decide] at this
  exact this
theorem fg_c (v : Value) (w : World) (h : isSl w v 2 (pairI [2, 4]).length (ivF (pairI [2, 4]))) : Calls Try.prog 24 #[v, .int .i64 0, .int .i64 10, .int .i64 3] w fun e w' => e = .returned (.tuple #[.int .i64 4, .int .i64 0]) ∧ Ext w w' := by
  have := fg_any [(2, 4)] 0 10 3 v w h (by simp)
  rw [show fgI [(2, 4)] 0 10 3 (cutI (oneI (0, 10)) [(2, 4)]) = (4, 0) by decide] at this
  exact this
theorem same_c (l : List (Int × Int)) (v u : Value) (w : World) (hv : isSl w v 2 l.length (ivF l)) (hu : isSl w u 2 l.length (ivF l)) :
    Calls Try.prog 21 #[v, u] w fun e w' => e = .returned (.bool true) ∧ Ext w w' := by
  have := same_any l l v u w hv hu
  rw [decide_eq_true rfl] at this
  exact this
theorem chk_c (v : Value) (w : World) (h : isSl w v 2 (pairI [1, 3, 3, 4]).length (ivF (pairI [1, 3, 3, 4]))) : Calls Try.prog 13 #[v] w fun e w' => e = .returned (.int .i64 10) ∧ Ext w w' := by
  have := chk_any [(1, 3), (3, 4)] v w h
  rw [show chkI [(1, 3), (3, 4)] = 10 by decide] at this
  exact this
theorem cont_c (v : Value) (m : Int) (b : Bool) (hb : (chkI [(1, 3)] == 0 && inI [(1, 3)] m) = b) (w : World) (h : isSl w v 2 (pairI [1, 3]).length (ivF (pairI [1, 3]))) :
    Calls Try.prog 15 #[v, .int .i64 m] w fun e w' => e = .returned (.bool b) ∧ Ext w w' := by
  have := cont_any [(1, 3)] v m w h
  rw [hb] at this
  exact this

set_option maxRecDepth 100000 in
set_option maxHeartbeats 8000000 in
theorem awake_ok : AwakeI := by
  intro w
  have t1 : Hid True := trivial
  have t2 : Hid True := trivial
  have t3 : Hid True := trivial
  have t4 : Hid True := trivial
  have t5 : Hid True := trivial
  have t6 : Hid True := trivial
  have t7 : Hid True := trivial
  have t8 : Hid True := trivial
  have t9 : Hid True := trivial
  have t10 : Hid True := trivial
  have t11 : Hid True := trivial
  have t12 : Hid True := trivial
  have t13 : Hid True := trivial
  have t14 : Hid True := trivial
  have t15 : Hid True := trivial
  have t16 : Hid True := trivial
  go_enter Try.func12, Try.ntmps12
  go_upto_region 9999 with (first | (clear t1; go_at_call 36; refine (iv_any [1, 3] _ _ (by exact isSl_newN _ _ _ [1, 3] _ (by simp) rfl (by unfold maxLen; omega)) (by simp)).mono ?_; rintro e w1 ⟨r1, rfl, hown, hbel⟩; obtain ⟨os_r1, n_r1, rfl⟩ := Ext.of_below hbel; have Hr1 : Hid (isSl _ r1 2 (pairI [1, 3]).length (ivF (pairI [1, 3]))) := isSl_of_own hown; clear hown hbel) | (clear t2; go_at_call 17; refine (add_c r1 _ (isSl.ext Hr1.out (by (exact Ext.of_below (by (repeat' (first | (with_reducible exact Below.refl _ _) | (with_reducible assumption) | (with_reducible refine Below.alloc ?_ ?_ _) | (with_reducible refine Below.wext ?_ ?_ _ _) | (with_reducible refine Below.drew ?_) | (with_reducible refine Below.setCell ?_ ?_ _) | (with_reducible exact Nat.le_refl _) | (with_reducible refine Below.drewN' ?_ _) | (simp; omega) | (simp; done)))))))).mono ?_; rintro e w1 ⟨rA, rfl, hown, hbel⟩; obtain ⟨os_rA, n_rA, rfl⟩ := Ext.of_below hbel; have HrA : Hid (isSl _ rA 2 ([(1, 5)] : List (Int × Int)).length (ivF [(1, 5)])) := isSl_of_own hown; clear hown hbel) | (clear t3; go_at_call 36; refine (iv_any [1, 9] _ _ (by exact isSl_newN _ _ _ [1, 9] _ (by simp) rfl (by unfold maxLen; omega)) (by simp)).mono ?_; rintro e w1 ⟨r2, rfl, hown, hbel⟩; obtain ⟨os_r2, n_r2, rfl⟩ := Ext.of_below hbel; have Hr2 : Hid (isSl _ r2 2 (pairI [1, 9]).length (ivF (pairI [1, 9]))) := isSl_of_own hown; clear hown hbel) | (clear t4; go_at_call 18; refine (rem_c r2 _ (isSl.ext Hr2.out (by (exact Ext.of_below (by (repeat' (first | (with_reducible exact Below.refl _ _) | (with_reducible assumption) | (with_reducible refine Below.alloc ?_ ?_ _) | (with_reducible refine Below.wext ?_ ?_ _ _) | (with_reducible refine Below.drew ?_) | (with_reducible refine Below.setCell ?_ ?_ _) | (with_reducible exact Nat.le_refl _) | (with_reducible refine Below.drewN' ?_ _) | (simp; omega) | (simp; done)))))))).mono ?_; rintro e w1 ⟨rB, rfl, hown, hbel⟩; obtain ⟨os_rB, n_rB, rfl⟩ := Ext.of_below hbel; have HrB : Hid (isSl _ rB 2 ([(1, 3), (5, 9)] : List (Int × Int)).length (ivF [(1, 3), (5, 9)])) := isSl_of_own hown; clear hown hbel) | (clear t5; go_at_call 36; refine (iv_any [2, 4] _ _ (by exact isSl_newN _ _ _ [2, 4] _ (by simp) rfl (by unfold maxLen; omega)) (by simp)).mono ?_; rintro e w1 ⟨r3, rfl, hown, hbel⟩; obtain ⟨os_r3, n_r3, rfl⟩ := Ext.of_below hbel; have Hr3 : Hid (isSl _ r3 2 (pairI [2, 4]).length (ivF (pairI [2, 4]))) := isSl_of_own hown; clear hown hbel) | (clear t6; go_at_call 24; refine (fg_c r3 _ (isSl.ext Hr3.out (by (exact Ext.of_below (by (repeat' (first | (with_reducible exact Below.refl _ _) | (with_reducible assumption) | (with_reducible refine Below.alloc ?_ ?_ _) | (with_reducible refine Below.wext ?_ ?_ _ _) | (with_reducible refine Below.drew ?_) | (with_reducible refine Below.setCell ?_ ?_ _) | (with_reducible exact Nat.le_refl _) | (with_reducible refine Below.drewN' ?_ _) | (simp; omega) | (simp; done)))))))).mono ?_; rintro e w1 ⟨rfl, os_6, n_6, rfl⟩) | (clear t7; go_at_call 36; refine (iv_any [1, 5] _ _ (by exact isSl_newN _ _ _ [1, 5] _ (by simp) rfl (by unfold maxLen; omega)) (by simp)).mono ?_; rintro e w1 ⟨r4, rfl, hown, hbel⟩; obtain ⟨os_r4, n_r4, rfl⟩ := Ext.of_below hbel; have Hr4 : Hid (isSl _ r4 2 (pairI [1, 5]).length (ivF (pairI [1, 5]))) := isSl_of_own hown; clear hown hbel) | (clear t8; go_at_call 21; refine (same_c [(1, 5)] rA r4 _ (isSl.ext HrA.out (by (exact Ext.of_below (by (repeat' (first | (with_reducible exact Below.refl _ _) | (with_reducible assumption) | (with_reducible refine Below.alloc ?_ ?_ _) | (with_reducible refine Below.wext ?_ ?_ _ _) | (with_reducible refine Below.drew ?_) | (with_reducible refine Below.setCell ?_ ?_ _) | (with_reducible exact Nat.le_refl _) | (with_reducible refine Below.drewN' ?_ _) | (simp; omega) | (simp; done))))))) (isSl.ext Hr4.out (by (exact Ext.of_below (by (repeat' (first | (with_reducible exact Below.refl _ _) | (with_reducible assumption) | (with_reducible refine Below.alloc ?_ ?_ _) | (with_reducible refine Below.wext ?_ ?_ _ _) | (with_reducible refine Below.drew ?_) | (with_reducible refine Below.setCell ?_ ?_ _) | (with_reducible exact Nat.le_refl _) | (with_reducible refine Below.drewN' ?_ _) | (simp; omega) | (simp; done)))))))).mono ?_; rintro e w1 ⟨rfl, os_8, n_8, rfl⟩) | (clear t9; go_at_call 36; refine (iv_any [1, 3, 5, 9] _ _ (by exact isSl_newN _ _ _ [1, 3, 5, 9] _ (by simp) rfl (by unfold maxLen; omega)) (by simp)).mono ?_; rintro e w1 ⟨r5, rfl, hown, hbel⟩; obtain ⟨os_r5, n_r5, rfl⟩ := Ext.of_below hbel; have Hr5 : Hid (isSl _ r5 2 (pairI [1, 3, 5, 9]).length (ivF (pairI [1, 3, 5, 9]))) := isSl_of_own hown; clear hown hbel) | (clear t10; go_at_call 21; refine (same_c [(1, 3), (5, 9)] rB r5 _ (isSl.ext HrB.out (by (exact Ext.of_below (by (repeat' (first | (with_reducible exact Below.refl _ _) | (with_reducible assumption) | (with_reducible refine Below.alloc ?_ ?_ _) | (with_reducible refine Below.wext ?_ ?_ _ _) | (with_reducible refine Below.drew ?_) | (with_reducible refine Below.setCell ?_ ?_ _) | (with_reducible exact Nat.le_refl _) | (with_reducible refine Below.drewN' ?_ _) | (simp; omega) | (simp; done))))))) (isSl.ext Hr5.out (by (exact Ext.of_below (by (repeat' (first | (with_reducible exact Below.refl _ _) | (with_reducible assumption) | (with_reducible refine Below.alloc ?_ ?_ _) | (with_reducible refine Below.wext ?_ ?_ _ _) | (with_reducible refine Below.drew ?_) | (with_reducible refine Below.setCell ?_ ?_ _) | (with_reducible exact Nat.le_refl _) | (with_reducible refine Below.drewN' ?_ _) | (simp; omega) | (simp; done)))))))).mono ?_; rintro e w1 ⟨rfl, os_10, n_10, rfl⟩) | (clear t11; go_at_call 36; refine (iv_any [1, 3, 3, 4] _ _ (by exact isSl_newN _ _ _ [1, 3, 3, 4] _ (by simp) rfl (by unfold maxLen; omega)) (by simp)).mono ?_; rintro e w1 ⟨r6, rfl, hown, hbel⟩; obtain ⟨os_r6, n_r6, rfl⟩ := Ext.of_below hbel; have Hr6 : Hid (isSl _ r6 2 (pairI [1, 3, 3, 4]).length (ivF (pairI [1, 3, 3, 4]))) := isSl_of_own hown; clear hown hbel) | (clear t12; go_at_call 13; refine (chk_c r6 _ (isSl.ext Hr6.out (by (exact Ext.of_below (by (repeat' (first | (with_reducible exact Below.refl _ _) | (with_reducible assumption) | (with_reducible refine Below.alloc ?_ ?_ _) | (with_reducible refine Below.wext ?_ ?_ _ _) | (with_reducible refine Below.drew ?_) | (with_reducible refine Below.setCell ?_ ?_ _) | (with_reducible exact Nat.le_refl _) | (with_reducible refine Below.drewN' ?_ _) | (simp; omega) | (simp; done)))))))).mono ?_; rintro e w1 ⟨rfl, os_12, n_12, rfl⟩) | (clear t13; go_at_call 36; refine (iv_any [1, 3] _ _ (by exact isSl_newN _ _ _ [1, 3] _ (by simp) rfl (by unfold maxLen; omega)) (by simp)).mono ?_; rintro e w1 ⟨r7, rfl, hown, hbel⟩; obtain ⟨os_r7, n_r7, rfl⟩ := Ext.of_below hbel; have Hr7 : Hid (isSl _ r7 2 (pairI [1, 3]).length (ivF (pairI [1, 3]))) := isSl_of_own hown; clear hown hbel) | (clear t14; go_at_call 15; refine (cont_c r7 2 true (by decide) _ (isSl.ext Hr7.out (by (exact Ext.of_below (by (repeat' (first | (with_reducible exact Below.refl _ _) | (with_reducible assumption) | (with_reducible refine Below.alloc ?_ ?_ _) | (with_reducible refine Below.wext ?_ ?_ _ _) | (with_reducible refine Below.drew ?_) | (with_reducible refine Below.setCell ?_ ?_ _) | (with_reducible exact Nat.le_refl _) | (with_reducible refine Below.drewN' ?_ _) | (simp; omega) | (simp; done)))))))).mono ?_; rintro e w1 ⟨rfl, os_14, n_14, rfl⟩) | (clear t15; go_at_call 36; refine (iv_any [1, 3] _ _ (by exact isSl_newN _ _ _ [1, 3] _ (by simp) rfl (by unfold maxLen; omega)) (by simp)).mono ?_; rintro e w1 ⟨r8, rfl, hown, hbel⟩; obtain ⟨os_r8, n_r8, rfl⟩ := Ext.of_below hbel; have Hr8 : Hid (isSl _ r8 2 (pairI [1, 3]).length (ivF (pairI [1, 3]))) := isSl_of_own hown; clear hown hbel) | (clear t16; go_at_call 15; refine (cont_c r8 3 false (by decide) _ (isSl.ext Hr8.out (by (exact Ext.of_below (by (repeat' (first | (with_reducible exact Below.refl _ _) | (with_reducible assumption) | (with_reducible refine Below.alloc ?_ ?_ _) | (with_reducible refine Below.wext ?_ ?_ _ _) | (with_reducible refine Below.drew ?_) | (with_reducible refine Below.setCell ?_ ?_ _) | (with_reducible exact Nat.le_refl _) | (with_reducible refine Below.drewN' ?_ _) | (simp; omega) | (simp; done)))))))).mono ?_; rintro e w1 ⟨rfl, os_16, n_16, rfl⟩))
  all_goals go_ret
  all_goals exact ⟨rfl, by (exact Ext.of_below (by (repeat' (first | (with_reducible exact Below.refl _ _) | (with_reducible assumption) | (with_reducible refine Below.alloc ?_ ?_ _) | (with_reducible refine Below.wext ?_ ?_ _ _) | (with_reducible refine Below.drew ?_) | (with_reducible refine Below.setCell ?_ ?_ _) | (with_reducible exact Nat.le_refl _) | (with_reducible refine Below.drewN' ?_ _) | (simp; omega) | (simp; done)))))⟩

end Go.Proofs.Ytlboakmiopnifaa
