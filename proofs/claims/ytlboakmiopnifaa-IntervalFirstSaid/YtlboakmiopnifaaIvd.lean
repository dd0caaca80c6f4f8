/- Layer 02: the reference's In, Contains, Few. -/
import Derived.Test.YtlboakmiopnifaaIvc
set_option linter.unusedSimpArgs false
set_option linter.unusedVariables false
namespace Go.Proofs.Ytlboakmiopnifaa
open Go.RowKit

theorem in_round {l : List (Int × Int)} {k : Nat} {n : Int} (hk : k < l.length) : inI (l.drop k) n = ((decide ((l[k]).1 ≤ n) && decide (n < (l[k]).2)) || inI (l.drop (k + 1)) n) := by
  rw [List.drop_eq_getElem_cons hk]
  rfl

set_option maxHeartbeats 1000000 in
theorem rin_nil (a : Option Addr) (c : Nat) (n : Int) (w : World) :
    Calls Try.prog 39 #[.slice a 0 c, .int .i64 n] w fun e w' => e = .returned (.bool false) ∧ Ext w w' := by
  go_enter Try.func39, Try.ntmps39
  go_wp2_with fail
  refine wp_loop_rounds 1 ?_
  rw [rounds_succ]
  go_wp2_with fail
  all_goals go_ret
  all_goals exact ⟨rfl, by (exact Ext.of_below (by (repeat' (first | (with_reducible exact Below.refl _ _) | (with_reducible assumption) | (with_reducible refine Below.alloc ?_ ?_ _) | (with_reducible refine Below.wext ?_ ?_ _ _) | (with_reducible refine Below.drew ?_) | (with_reducible refine Below.setCell ?_ ?_ _) | (with_reducible exact Nat.le_refl _) | (with_reducible refine Below.drewN' ?_ _) | (simp; omega) | (simp; done)))))⟩

set_option maxHeartbeats 4000000 in
theorem rin_some (l : List (Int × Int)) (m : Int) (b o c : Nat) (w : World) (hl : l.length ≤ maxLen) (h : ∀ j, j < l.length * 2 → w.cell? ⟨b, o + j, none⟩ = (ivF l)[j]?) :
    Calls Try.prog 39 #[.slice (some ⟨b, o, none⟩) l.length c, .int .i64 m] w fun e w' => e = .returned (.bool (inI l m)) ∧ Ext w w' := by
  have HL : Hid (∀ j, j < l.length * 2 → w.cell? ⟨b, o + j, none⟩ = (ivF l)[j]?) := h
  unfold maxLen at hl
  clear h
  go_enter Try.func39, Try.ntmps39
  go_wp2_with fail
  go_loopw [5] (fun v wr => ∃ k : Nat, v = .int .i64 k ∧ k ≤ l.length ∧ inI l m = inI (l.drop k) m ∧ ∃ n, wr = w.drewN n) (fun v _ => l.length - (intOf v).toNat)
  case atStart => exact ⟨0, rfl, by omega, by simp, 0, rfl⟩
  case round =>
    obtain ⟨k, rfl, hk, he, n, rfl⟩ := hrel
    have HE : Hid (inI l m = inI (l.drop k) m) := he
    clear he
    by_cases hlt : k < l.length
    · obtain ⟨a0, a1⟩ := iv_cells HL.out k hlt
      go_upto_region 9999 with (first | ((with_reducible (apply wp_cond_split)); rfl; (all_goals intro hcd); (all_goals (first | (exfalso; exact Bool.noConfusion hcd) | ((try simp only [hcd]); go_prune)))) | ((fail_if_success go_not_at_region 4); ((with_reducible refine wp_region_same ?_); (first | go_big_quiet_step (fail) | quiet_step (fail)); (first | go_big_quiet_step (fail) | quiet_step (fail)); (first | go_big_quiet_step (fail) | quiet_step (fail)); (first | go_big_quiet_step (fail) | quiet_step (fail)); (first | go_big_quiet_step (fail) | quiet_step (fail)); (first | go_big_quiet_step (fail) | quiet_step (fail)); (first | go_big_quiet_step (fail) | quiet_step (fail)); (first | go_big_quiet_step (fail) | quiet_step (fail)); (first | go_big_quiet_step (fail) | (refine wpQuiet_liftE (wanted_T rfl rfl rfl) ?_; (first | refine lift_moveL rfl rfl ?_ | refine lift_move rfl rfl ?_); simp only [Act.put, List.setIfInBounds_toArray, List.set_cons_zero, List.set_cons_succ])); (first | go_big_quiet_step (fail) | (refine wpQuiet_liftE (wanted_T rfl rfl rfl) ?_; (first | refine lift_moveL rfl rfl ?_ | refine lift_move rfl rfl ?_); simp only [Act.put, List.setIfInBounds_toArray, List.set_cons_zero, List.set_cons_succ])); (first | go_big_quiet_step (fail) | (refine wpQuiet_liftE (wanted_T rfl rfl rfl) ?_; (first | refine lift_moveL rfl rfl ?_ | refine lift_move rfl rfl ?_); simp only [Act.put, List.setIfInBounds_toArray, List.set_cons_zero, List.set_cons_succ])); (first | go_big_quiet_step (fail) | (refine wpQuiet_liftE (wanted_T rfl rfl rfl) ?_; refine lift_put (n := 21) rfl (fun h => h) ?_; refine lift_put (n := 22) rfl (fun h => h) ?_; refine lift_indexAddr_tt rfl rfl rfl ?_; apply Exists.intro; refine ⟨fun hgd => ?_, ?_⟩; (focus ((try simp only [Bool.and_eq_true, Bool.not_eq_true', Bool.or_eq_true, Bool.or_eq_false_iff, Bool.and_eq_false_iff, Bool.not_eq_eq_eq_not, Bool.not_true, Bool.not_false, decide_eq_true_eq, decide_eq_false_iff_not, bne_iff_ne, beq_iff_eq, beq_eq_false_iff_ne, bne_eq_false_iff_eq, ne_eq, int_eq_le, Int.not_lt, Int.not_le] at hgd); (try simp only [Act.put, List.setIfInBounds_toArray, List.set_cons_zero, List.set_cons_succ]); go_simp; (try simp (disch := omega) only [IntWalk.i64_in, IntWalk.wrap64_in]); (first | done | exact rfl | (intro _; exact rfl)))); simp only [Act.put, List.setIfInBounds_toArray, List.set_cons_zero, List.set_cons_succ])); (first | go_big_quiet_step (fail) | (refine wpQuiet_liftE (wanted_T rfl rfl rfl) ?_; refine lift_put (n := 23) rfl (fun h => h) ?_; refine lift_fieldAddr rfl rfl ?_; apply Exists.intro; refine ⟨fun hgd => ?_, ?_⟩; (focus ((try simp only [Bool.and_eq_true, Bool.not_eq_true', Bool.or_eq_true, Bool.or_eq_false_iff, Bool.and_eq_false_iff, Bool.not_eq_eq_eq_not, Bool.not_true, Bool.not_false, decide_eq_true_eq, decide_eq_false_iff_not, bne_iff_ne, beq_iff_eq, beq_eq_false_iff_ne, bne_eq_false_iff_eq, ne_eq, int_eq_le, Int.not_lt, Int.not_le] at hgd); (try simp only [Act.put, List.setIfInBounds_toArray, List.set_cons_zero, List.set_cons_succ]); go_simp; (try simp (disch := omega) only [IntWalk.i64_in, IntWalk.wrap64_in]); (first | done | exact rfl | (intro _; exact rfl)))); simp only [Act.put, List.setIfInBounds_toArray, List.set_cons_zero, List.set_cons_succ])); (first | go_big_quiet_step (fail) | (refine wpQuiet_liftE (wanted_T rfl rfl rfl) ?_; refine lift_put (n := 24) rfl (fun h => h) ?_; refine lift_load rfl rfl ?_; apply Exists.intro; refine ⟨fun hgd => ?_, ?_⟩; (focus ((try simp only [Bool.and_eq_true, Bool.not_eq_true', Bool.or_eq_true, Bool.or_eq_false_iff, Bool.and_eq_false_iff, Bool.not_eq_eq_eq_not, Bool.not_true, Bool.not_false, decide_eq_true_eq, decide_eq_false_iff_not, bne_iff_ne, beq_iff_eq, beq_eq_false_iff_ne, bne_eq_false_iff_eq, ne_eq, int_eq_le, Int.not_lt, Int.not_le] at hgd); (try simp only [Act.put, List.setIfInBounds_toArray, List.set_cons_zero, List.set_cons_succ]); go_simp; (try simp (disch := omega) only [IntWalk.i64_in, IntWalk.wrap64_in]); (first | done | exact rfl | (intro _; exact rfl)))); simp only [Act.put, List.setIfInBounds_toArray, List.set_cons_zero, List.set_cons_succ])); (first | go_big_quiet_step (fail) | (refine wpQuiet_liftE (wanted_T rfl rfl rfl) ?_; refine lift_put (n := 20) rfl (fun h => h) ?_; refine lift_put (n := 25) rfl (fun h => h) ?_; refine lift_binOp_tt rfl rfl rfl ?_; apply Exists.intro; refine ⟨fun hgd => ?_, ?_⟩; (focus ((try simp only [Bool.and_eq_true, Bool.not_eq_true', Bool.or_eq_true, Bool.or_eq_false_iff, Bool.and_eq_false_iff, Bool.not_eq_eq_eq_not, Bool.not_true, Bool.not_false, decide_eq_true_eq, decide_eq_false_iff_not, bne_iff_ne, beq_iff_eq, beq_eq_false_iff_ne, bne_eq_false_iff_eq, ne_eq, int_eq_le, Int.not_lt, Int.not_le] at hgd); (try simp only [Act.put, List.setIfInBounds_toArray, List.set_cons_zero, List.set_cons_succ]); go_simp; (try simp (disch := omega) only [IntWalk.i64_in, IntWalk.wrap64_in]); (first | done | exact rfl | (intro _; exact rfl)))); simp only [Act.put, List.setIfInBounds_toArray, List.set_cons_zero, List.set_cons_succ])); (first | (refine wpQuiet_pick_and rfl rfl rfl rfl ?_; simp only [Act.put, List.setIfInBounds_toArray, List.set_cons_zero, List.set_cons_succ]) | go_big_quiet_step (fail)); (with_reducible refine wpQuiet_nil ?_); intro wq hwq; subst hwq)))
      · go_ret
        refine ⟨ret_b ?_, Ext.of_below (by first | exact Below.drewN' (Below.refl _ _) _ | (repeat' (first | (with_reducible exact Below.refl _ _) | (with_reducible assumption) | (with_reducible refine Below.alloc ?_ ?_ _) | (with_reducible refine Below.wext ?_ ?_ _ _) | (with_reducible refine Below.drew ?_) | (with_reducible refine Below.setCell ?_ ?_ _) | (with_reducible exact Nat.le_refl _) | (with_reducible refine Below.drewN' ?_ _) | (simp; omega) | (simp; done))))⟩
        have h := (by assumption : (decide ((l[k]).1 ≤ m) && decide (m < (l[k]).2)) = true)
        rw [HE.out, in_round hlt, h]; rfl
      · have h := (by assumption : (decide ((l[k]).1 ≤ m) && decide (m < (l[k]).2)) = false)
        have he : inI l m = inI (l.drop (k + 1)) m := by
          rw [HE.out, in_round hlt, h]; rfl
        go_roundw
        case rel => exact ⟨k + 1, by go_num, by omega, he, _, rfl⟩
        case measure => simp [intOf]; omega
    · go_wp2_with fail
      all_goals go_ret
      all_goals refine ⟨ret_b ?_, Ext.of_below (by first | exact Below.drewN' (Below.refl _ _) _ | (repeat' (first | (with_reducible exact Below.refl _ _) | (with_reducible assumption) | (with_reducible refine Below.alloc ?_ ?_ _) | (with_reducible refine Below.wext ?_ ?_ _ _) | (with_reducible refine Below.drew ?_) | (with_reducible refine Below.setCell ?_ ?_ _) | (with_reducible exact Nat.le_refl _) | (with_reducible refine Below.drewN' ?_ _) | (simp; omega) | (simp; done))))⟩
      all_goals (have e := HE.out; rw [show k = l.length by omega] at e; rw [e]; simp [inI])

theorem rin_any (l : List (Int × Int)) (m : Int) (v : Value) (w : World) (h : isSl w v 2 l.length (ivF l)) :
    Calls Try.prog 39 #[v, .int .i64 m] w fun e w' => e = .returned (.bool (inI l m)) ∧ Ext w w' := by
  obtain ⟨_, h2⟩ := h
  rcases h2 with ⟨a0, c0, hv, hn⟩ | ⟨b, o, cap, hv, hn, hc, hlt, hx⟩
  · obtain rfl : l = [] := List.length_eq_zero_iff.1 hn
    rw [hv]
    exact rin_nil a0 c0 m w
  · rw [hv]
    exact rin_some l m b o cap w (by omega) hx

end Go.Proofs.Ytlboakmiopnifaa
