/- Layer 02: put: the first interval; intervals that are joined. -/
import Derived.Test.YtlboakmiopnifaaIvk
import Derived.Deep.AppendLies
set_option linter.unusedSimpArgs false
set_option linter.unusedVariables false
namespace Go.Proofs.Ytlboakmiopnifaa
open Go.RowKit

set_option maxHeartbeats 4000000 in
theorem put_nil (a : Option Addr) (c base : Nat) (x1 x2 : Int) (w : World) (hb : base ≤ w.heap.size)
    (h : w.ownsRow base 28 2 (.slice a 0 c) 0 []) :
    Calls Try.prog 46 #[.slice a 0 c, .agg #[.int .i64 x1, .int .i64 x2]] w (putPost base [(x1, x2)] w) := by
  obtain ⟨i0, hi0, hz0, hs0, hy0⟩ := infoIv_parts
  have H : Hid (w.ownsRow base 28 2 (.slice a 0 c) 0 []) := h
  clear h
  go_enter Try.func46, Try.ntmps46
  go_upto_region 2 with fail
  go_region
  go_wp2_with (first | (at_builtin; have tokA : True := trivial; refine wpList_append_own _ rfl _ _ 22 rfl base 28 i0 (.agg #[.int .i64 0, .int .i64 0]) 2 16 Try.underlying22 hi0 hz0 hs0 hy0 rfl (by decide) _ _ _ rfl (own_ext H.out (by (exact Ext.of_below (by (repeat' (first | (with_reducible exact Below.refl _ _) | (with_reducible assumption) | (with_reducible refine Below.alloc ?_ ?_ _) | (with_reducible refine Below.wext ?_ ?_ _ _) | (with_reducible refine Below.drew ?_) | (with_reducible refine Below.setCell ?_ ?_ _) | (with_reducible exact Nat.le_refl _) | (with_reducible refine Below.drewN' ?_ _) | (simp; omega) | (simp; done))))))) ⟨_, 0, none⟩ 1 1 [.int .i64 x1, .int .i64 x2] rfl rfl (cells_new2 _ _ _ _ (by simp)) (by simp [Value.oneCell']) (by unfold maxLen; omega) (by omega) (by simp; omega) ?_; intro vA wA hownA hgrA _))
  go_ret
  refine ⟨vA, rfl, hownA, ?_⟩
  refine Below.trans (below_le hb (Ext.below (by (exact Ext.of_below (by (repeat' (first | (with_reducible exact Below.refl _ _) | (with_reducible assumption) | (with_reducible refine Below.alloc ?_ ?_ _) | (with_reducible refine Below.wext ?_ ?_ _ _) | (with_reducible refine Below.drew ?_) | (with_reducible refine Below.setCell ?_ ?_ _) | (with_reducible exact Nat.le_refl _) | (with_reducible refine Below.drewN' ?_ _) | (simp; omega) | (simp; done)))))))) (below_of_grown hgrA (by simp; omega) (fun k hk => ?_))
  exact (H.out.lt k hk).1

set_option maxHeartbeats 8000000 in
theorem put_join (l : List (Int × Int)) (y : Int × Int) (g cap base : Nat) (x1 x2 : Int) (w : World) (hb : base ≤ w.heap.size) (hn : l.length ≤ 1000) (hx : x1 ≤ y.2)
    (h : w.ownsRow base 28 2 (.slice (some ⟨g, 0, none⟩) (l.length + 1) cap) (l.length + 1) (ivF (l ++ [y]))) :
    Calls Try.prog 46 #[.slice (some ⟨g, 0, none⟩) (l.length + 1) cap, .agg #[.int .i64 x1, .int .i64 x2]] w (putPost base (l ++ [(y.1, if x2 ≤ y.2 then y.2 else x2)]) w) := by
  have H : Hid (w.ownsRow base 28 2 (.slice (some ⟨g, 0, none⟩) (l.length + 1) cap) (l.length + 1) (ivF (l ++ [y]))) := h
  have zg : LtD g w.heap.size := (h.lt g rfl).2
  have c1 : w.cell? ⟨g, l.length * 2 + 1, none⟩ = some (.int .i64 y.2) := by
    rw [h.cellAt _ (by omega), ivF_snd (l ++ [y]) l.length (by simp)]
    simp
  have f1 : w.frozen? ⟨g, l.length * 2 + 1, none⟩ = false := h.frozenAt _
  have hd : decide (x1 ≤ y.2) = true := by simpa using hx
  clear h
  go_enter Try.func46, Try.ntmps46
  go_upto_region 3 with (first | ((with_reducible (apply wp_cond_split)); rfl; (all_goals intro hcd); (all_goals (first | (exfalso; exact Bool.noConfusion hcd) | ((try simp only [hcd]); go_prune)))) | ((fail_if_success go_not_at_region 2); ((with_reducible refine wp_region_quiet_lit ?_ ?_ ?_); kernel_rfl; kernel_rfl; (first | go_big_quiet_step (fail) | quiet_step (fail)); (first | go_big_quiet_step (fail) | quiet_step (fail)); (first | go_big_quiet_step (fail) | quiet_step (fail)); (first | go_big_quiet_step (fail) | (refine wpQuiet_liftE (wanted_T rfl rfl rfl) ?_; refine lift_fieldAddr rfl rfl ?_; apply Exists.intro; refine ⟨fun hgd => ?_, ?_⟩; (focus ((try simp only [Bool.and_eq_true, Bool.not_eq_true', Bool.or_eq_true, Bool.or_eq_false_iff, Bool.and_eq_false_iff, Bool.not_eq_eq_eq_not, Bool.not_true, Bool.not_false, decide_eq_true_eq, decide_eq_false_iff_not, bne_iff_ne, beq_iff_eq, beq_eq_false_iff_ne, bne_eq_false_iff_eq, ne_eq, int_eq_le, Int.not_lt, Int.not_le] at hgd); (try simp only [Act.put, List.setIfInBounds_toArray, List.set_cons_zero, List.set_cons_succ]); go_simp; (try simp (disch := omega) only [IntWalk.i64_in, IntWalk.wrap64_in]); (first | done | exact rfl | (intro _; exact rfl)))); simp only [Act.put, List.setIfInBounds_toArray, List.set_cons_zero, List.set_cons_succ])); (first | go_big_quiet_step (fail) | (refine wpQuiet_liftE (wanted_T rfl rfl rfl) ?_; refine lift_put (n := 11) rfl (fun h => h) ?_; refine lift_load rfl rfl ?_; apply Exists.intro; refine ⟨fun hgd => ?_, ?_⟩; (focus ((try simp only [Bool.and_eq_true, Bool.not_eq_true', Bool.or_eq_true, Bool.or_eq_false_iff, Bool.and_eq_false_iff, Bool.not_eq_eq_eq_not, Bool.not_true, Bool.not_false, decide_eq_true_eq, decide_eq_false_iff_not, bne_iff_ne, beq_iff_eq, beq_eq_false_iff_ne, bne_eq_false_iff_eq, ne_eq, int_eq_le, Int.not_lt, Int.not_le] at hgd); (try simp only [Act.put, List.setIfInBounds_toArray, List.set_cons_zero, List.set_cons_succ]); go_simp; (try simp (disch := omega) only [IntWalk.i64_in, IntWalk.wrap64_in]); (first | done | exact rfl | (intro _; exact rfl)))); simp only [Act.put, List.setIfInBounds_toArray, List.set_cons_zero, List.set_cons_succ])); (first | go_big_quiet_step (fail) | (refine wpQuiet_liftE (wanted_T rfl rfl rfl) ?_; (first | refine lift_moveL rfl rfl ?_ | refine lift_move rfl rfl ?_); simp only [Act.put, List.setIfInBounds_toArray, List.set_cons_zero, List.set_cons_succ])); (first | go_big_quiet_step (fail) | (refine wpQuiet_liftE (wanted_T rfl rfl rfl) ?_; (first | refine lift_moveL rfl rfl ?_ | refine lift_move rfl rfl ?_); simp only [Act.put, List.setIfInBounds_toArray, List.set_cons_zero, List.set_cons_succ])); (first | go_big_quiet_step (fail) | (refine wpQuiet_liftE (wanted_T rfl rfl rfl) ?_; refine lift_put (n := 14) rfl (fun h => h) ?_; refine lift_binOp_tc rfl rfl ?_; apply Exists.intro; refine ⟨fun hgd => ?_, ?_⟩; (focus ((try simp only [Bool.and_eq_true, Bool.not_eq_true', Bool.or_eq_true, Bool.or_eq_false_iff, Bool.and_eq_false_iff, Bool.not_eq_eq_eq_not, Bool.not_true, Bool.not_false, decide_eq_true_eq, decide_eq_false_iff_not, bne_iff_ne, beq_iff_eq, beq_eq_false_iff_ne, bne_eq_false_iff_eq, ne_eq, int_eq_le, Int.not_lt, Int.not_le] at hgd); (try simp only [Act.put, List.setIfInBounds_toArray, List.set_cons_zero, List.set_cons_succ]); go_simp; (try simp (disch := omega) only [IntWalk.i64_in, IntWalk.wrap64_in]); (first | done | exact rfl | (intro _; exact rfl)))); simp only [Act.put, List.setIfInBounds_toArray, List.set_cons_zero, List.set_cons_succ])); (first | go_big_quiet_step (fail) | (refine wpQuiet_liftE (wanted_T rfl rfl rfl) ?_; refine lift_put (n := 13) rfl (fun h => h) ?_; refine lift_put (n := 15) rfl (fun h => h) ?_; refine lift_indexAddr_tt rfl rfl rfl ?_; apply Exists.intro; refine ⟨fun hgd => ?_, ?_⟩; (focus ((try simp only [Bool.and_eq_true, Bool.not_eq_true', Bool.or_eq_true, Bool.or_eq_false_iff, Bool.and_eq_false_iff, Bool.not_eq_eq_eq_not, Bool.not_true, Bool.not_false, decide_eq_true_eq, decide_eq_false_iff_not, bne_iff_ne, beq_iff_eq, beq_eq_false_iff_ne, bne_eq_false_iff_eq, ne_eq, int_eq_le, Int.not_lt, Int.not_le] at hgd); (try simp only [Act.put, List.setIfInBounds_toArray, List.set_cons_zero, List.set_cons_succ]); go_simp; (try simp (disch := omega) only [IntWalk.i64_in, IntWalk.wrap64_in]); (first | done | exact rfl | (intro _; exact rfl)))); simp only [Act.put, List.setIfInBounds_toArray, List.set_cons_zero, List.set_cons_succ])); (first | go_big_quiet_step (fail) | (refine wpQuiet_liftE (wanted_T rfl rfl rfl) ?_; refine lift_put (n := 16) rfl (fun h => h) ?_; refine lift_fieldAddr rfl rfl ?_; apply Exists.intro; refine ⟨fun hgd => ?_, ?_⟩; (focus ((try simp only [Bool.and_eq_true, Bool.not_eq_true', Bool.or_eq_true, Bool.or_eq_false_iff, Bool.and_eq_false_iff, Bool.not_eq_eq_eq_not, Bool.not_true, Bool.not_false, decide_eq_true_eq, decide_eq_false_iff_not, bne_iff_ne, beq_iff_eq, beq_eq_false_iff_ne, bne_eq_false_iff_eq, ne_eq, int_eq_le, Int.not_lt, Int.not_le] at hgd); (try simp only [Act.put, List.setIfInBounds_toArray, List.set_cons_zero, List.set_cons_succ]); go_simp; (try simp (disch := omega) only [IntWalk.i64_in, IntWalk.wrap64_in]); (first | done | exact rfl | (intro _; exact rfl)))); simp only [Act.put, List.setIfInBounds_toArray, List.set_cons_zero, List.set_cons_succ])); (first | go_big_quiet_step (fail) | (refine wpQuiet_liftE (wanted_T rfl rfl rfl) ?_; refine lift_put (n := 17) rfl (fun h => h) ?_; refine lift_load rfl rfl ?_; apply Exists.intro; refine ⟨fun hgd => ?_, ?_⟩; (focus ((try simp only [Bool.and_eq_true, Bool.not_eq_true', Bool.or_eq_true, Bool.or_eq_false_iff, Bool.and_eq_false_iff, Bool.not_eq_eq_eq_not, Bool.not_true, Bool.not_false, decide_eq_true_eq, decide_eq_false_iff_not, bne_iff_ne, beq_iff_eq, beq_eq_false_iff_ne, bne_eq_false_iff_eq, ne_eq, int_eq_le, Int.not_lt, Int.not_le] at hgd); (try simp only [Act.put, List.setIfInBounds_toArray, List.set_cons_zero, List.set_cons_succ]); go_simp; (try simp (disch := omega) only [IntWalk.i64_in, IntWalk.wrap64_in]); (first | done | exact rfl | (intro _; exact rfl)))); simp only [Act.put, List.setIfInBounds_toArray, List.set_cons_zero, List.set_cons_succ])); (first | go_big_quiet_step (fail) | (refine wpQuiet_liftE (wanted_T rfl rfl rfl) ?_; refine lift_put (n := 12) rfl (fun h => h) ?_; refine lift_put (n := 18) rfl (fun h => h) ?_; refine lift_binOp_tt rfl rfl rfl ?_; apply Exists.intro; refine ⟨fun hgd => ?_, ?_⟩; (focus ((try simp only [Bool.and_eq_true, Bool.not_eq_true', Bool.or_eq_true, Bool.or_eq_false_iff, Bool.and_eq_false_iff, Bool.not_eq_eq_eq_not, Bool.not_true, Bool.not_false, decide_eq_true_eq, decide_eq_false_iff_not, bne_iff_ne, beq_iff_eq, beq_eq_false_iff_ne, bne_eq_false_iff_eq, ne_eq, int_eq_le, Int.not_lt, Int.not_le] at hgd); (try simp only [Act.put, List.setIfInBounds_toArray, List.set_cons_zero, List.set_cons_succ]); go_simp; (try simp (disch := omega) only [IntWalk.i64_in, IntWalk.wrap64_in]); (first | done | exact rfl | (intro _; exact rfl)))); simp only [Act.put, List.setIfInBounds_toArray, List.set_cons_zero, List.set_cons_succ])); (first | (refine wpQuiet_pick_and rfl rfl rfl rfl ?_; simp only [Act.put, List.setIfInBounds_toArray, List.set_cons_zero, List.set_cons_succ]) | go_big_quiet_step (fail)); (with_reducible refine wpQuiet_nil ?_); intro wq hwq; obtain ⟨nq, hwq2⟩ := hwq; subst hwq2)) | ((fail_if_success go_not_at_region 3); go_region))
  go_region
  go_wp2_with fail
  · go_ret
    refine ⟨_, rfl, ?_, ?_⟩
    · have e : (l ++ [(y.1, y.2)]).length = l.length + 1 := by simp
      rw [← ivF_set, e]
      exact own_set (own_ext H.out (by (exact Ext.of_below (by (repeat' (first | (with_reducible exact Below.refl _ _) | (with_reducible assumption) | (with_reducible refine Below.alloc ?_ ?_ _) | (with_reducible refine Below.wext ?_ ?_ _ _) | (with_reducible refine Below.drew ?_) | (with_reducible refine Below.setCell ?_ ?_ _) | (with_reducible exact Nat.le_refl _) | (with_reducible refine Below.drewN' ?_ _) | (simp; omega) | (simp; done))))))) (by omega)
    · have hg := (H.out.lt g rfl).1
      refine Below.setCell ?_ hg _
      exact below_le hb (Ext.below (by (exact Ext.of_below (by (repeat' (first | (with_reducible exact Below.refl _ _) | (with_reducible assumption) | (with_reducible refine Below.alloc ?_ ?_ _) | (with_reducible refine Below.wext ?_ ?_ _ _) | (with_reducible refine Below.drew ?_) | (with_reducible refine Below.setCell ?_ ?_ _) | (with_reducible exact Nat.le_refl _) | (with_reducible refine Below.drewN' ?_ _) | (simp; omega) | (simp; done)))))))
  · go_ret
    refine ⟨_, rfl, ?_, ?_⟩
    · have e : (l ++ [(y.1, x2)]).length = l.length + 1 := by simp
      rw [← ivF_set, e]
      exact own_set (own_ext H.out (by (exact Ext.of_below (by (repeat' (first | (with_reducible exact Below.refl _ _) | (with_reducible assumption) | (with_reducible refine Below.alloc ?_ ?_ _) | (with_reducible refine Below.wext ?_ ?_ _ _) | (with_reducible refine Below.drew ?_) | (with_reducible refine Below.setCell ?_ ?_ _) | (with_reducible exact Nat.le_refl _) | (with_reducible refine Below.drewN' ?_ _) | (simp; omega) | (simp; done))))))) (by omega)
    · have hg := (H.out.lt g rfl).1
      refine Below.setCell ?_ hg _
      exact below_le hb (Ext.below (by (exact Ext.of_below (by (repeat' (first | (with_reducible exact Below.refl _ _) | (with_reducible assumption) | (with_reducible refine Below.alloc ?_ ?_ _) | (with_reducible refine Below.wext ?_ ?_ _ _) | (with_reducible refine Below.drew ?_) | (with_reducible refine Below.setCell ?_ ?_ _) | (with_reducible exact Nat.le_refl _) | (with_reducible refine Below.drewN' ?_ _) | (simp; omega) | (simp; done)))))))

/-- put: the list with the interval, in a row of its own. -/
theorem put_any (l : List (Int × Int)) (v : Value) (base : Nat) (x1 x2 : Int) (w : World) (hb : base ≤ w.heap.size) (hn : l.length ≤ 1000)
    (h : w.ownsRow base 28 2 v l.length (ivF l)) :
    Calls Try.prog 46 #[v, .agg #[.int .i64 x1, .int .i64 x2]] w (putPost base (putI l (x1, x2)) w) := by
  rcases List.eq_nil_or_concat l with rfl | ⟨l', y, rfl⟩
  · have hv : ∃ a c, v = .slice a 0 c := by
      rcases h.2 with ⟨hv, _⟩ | ⟨g, cap, cur, hv, _⟩
      · exact ⟨none, 0, hv⟩
      · exact ⟨_, cap, hv⟩
    obtain ⟨a, c, rfl⟩ := hv
    exact put_nil a c base x1 x2 w hb h
  · have e : (l' ++ [y]).length = l'.length + 1 := by simp
    simp only [List.concat_eq_append] at h hn ⊢
    rw [e] at h hn
    obtain ⟨g, cap, rfl, _, _⟩ := h.form (by omega)
    rw [putI_app]
    by_cases hx : x1 ≤ y.2
    · rw [if_pos hx]
      exact put_join l' y g cap base x1 x2 w hb (by omega) hx h
    · rw [if_neg hx]
      exact put_app l' y g cap base x1 x2 w hb (by omega) hx h

end Go.Proofs.Ytlboakmiopnifaa
