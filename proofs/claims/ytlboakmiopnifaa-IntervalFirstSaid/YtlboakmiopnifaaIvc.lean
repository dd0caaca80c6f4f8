/- Layer 02: Check of the code. -/
import Derived.Test.YtlboakmiopnifaaIvb
set_option linter.unusedSimpArgs false
set_option linter.unusedVariables false
namespace Go.Proofs.Ytlboakmiopnifaa
open Go.RowKit

theorem rchk_any (l : List (Int × Int)) (v : Value) (w : World) (h : isSl w v 2 l.length (ivF l)) :
    Calls Try.prog 14 #[v] w fun e w' => e = .returned (.int .i64 (chkI l)) ∧ Ext w w' := by
  obtain ⟨_, h2⟩ := h
  rcases h2 with ⟨a0, c0, hv, hn⟩ | ⟨b, o, cap, hv, hn, hc, hlt, hx⟩
  · obtain rfl : l = [] := List.length_eq_zero_iff.1 hn
    rw [hv]
    exact rchk_nil a0 c0 w
  · rw [hv]
    exact rchk_some l b o cap w (by omega) hx

set_option maxHeartbeats 1000000 in
theorem chk_nil (a : Option Addr) (c : Nat) (w : World) :
    Calls Try.prog 13 #[.slice a 0 c] w fun e w' => e = .returned (.int .i64 0) ∧ Ext w w' := by
  go_enter Try.func13, Try.ntmps13
  go_wp2_with fail
  refine wp_loop_rounds 1 ?_
  rw [rounds_succ]
  go_wp2_with fail
  all_goals go_ret
  all_goals exact ⟨rfl, by (exact Ext.of_below (by (repeat' (first | (with_reducible exact Below.refl _ _) | (with_reducible assumption) | (with_reducible refine Below.alloc ?_ ?_ _) | (with_reducible refine Below.wext ?_ ?_ _ _) | (with_reducible refine Below.drew ?_) | (with_reducible refine Below.setCell ?_ ?_ _) | (with_reducible exact Nat.le_refl _) | (with_reducible refine Below.drewN' ?_ _) | (simp; omega) | (simp; done)))))⟩

set_option maxHeartbeats 4000000 in
theorem chk_some (l : List (Int × Int)) (b o c : Nat) (w : World) (hl : l.length ≤ maxLen) (hb : b < w.heap.size) (h : ∀ j, j < l.length * 2 → w.cell? ⟨b, o + j, none⟩ = (ivF l)[j]?) :
    Calls Try.prog 13 #[.slice (some ⟨b, o, none⟩) l.length c] w fun e w' => e = .returned (.int .i64 (chkI l)) ∧ Ext w w' := by
  have HL : Hid (∀ j, j < l.length * 2 → w.cell? ⟨b, o + j, none⟩ = (ivF l)[j]?) := h
  have zb : LtD b w.heap.size := hb
  unfold maxLen at hl
  clear h hb
  go_enter Try.func13, Try.ntmps13
  go_wp2_with fail
  go_loopw [7] (fun v wr => ∃ k : Nat, v = .int .i64 k ∧ k ≤ l.length ∧ chkI l = chkFrom (prevI l k) (l.drop k) ∧ ∃ os n, wr = wext w os n) (fun v _ => l.length - (intOf v).toNat)
  case atStart => exact ⟨0, rfl, by omega, by simp [chkI, prevI], Ext.refl _⟩
  case round =>
    obtain ⟨k, rfl, hk, he, os0, n0, rfl⟩ := hrel
    have HE : Hid (chkI l = chkFrom (prevI l k) (l.drop k)) := he
    clear he
    by_cases hlt : k < l.length
    · obtain ⟨a0, a1⟩ := iv_cells HL.out k hlt
      have HR := chk_round hlt
      rw [← HE.out] at HR
      replace HR : Hid _ := HR
      by_cases h1 : l[k].2 ≤ l[k].1
      · have h1' : (l[k].1 ≥ l[k].2) := h1
        go_upto_region 9999 with (first | ((with_reducible (apply wp_cond_split)); rfl; (all_goals intro hcd); (all_goals (first | (exfalso; exact Bool.noConfusion hcd) | ((try simp only [hcd]); (try (have hcf := hcd; simp only [Bool.and_eq_true, Bool.or_eq_true, Bool.and_eq_false_iff, Bool.or_eq_false_iff, Bool.not_eq_true', Bool.not_eq_false', Bool.not_eq_eq_eq_not, Bool.not_true, Bool.not_false, decide_eq_true_eq, decide_eq_false_iff_not, bne_iff_ne, beq_iff_eq, beq_eq_false_iff_ne, bne_eq_false_iff_eq, ne_eq, int_eq_le, Int.not_lt, Int.not_le] at hcf)); go_prune)))))
        all_goals go_ret
        all_goals refine ⟨ret_i ?_, by (exact Ext.of_below (by (repeat' (first | (with_reducible exact Below.refl _ _) | (with_reducible assumption) | (with_reducible refine Below.alloc ?_ ?_ _) | (with_reducible refine Below.wext ?_ ?_ _ _) | (with_reducible refine Below.drew ?_) | (with_reducible refine Below.setCell ?_ ?_ _) | (with_reducible exact Nat.le_refl _) | (with_reducible refine Below.drewN' ?_ _) | (simp; omega) | (simp; done)))))⟩
        all_goals (rw [HR.out]; simp [stepE, h1])
      · obtain ⟨p0, p1⟩ := iv_cells HL.out (k - 1) (by omega)
        have hi : ((k : Int) - 1).toNat = k - 1 := by omega
        have hi1 : ((1 : Int) ≤ (k : Int)) = (0 < k) := propext (by omega)
        have hi2 : (k : Int) - 1 < l.length := by omega
        have hi3 : IntKind.i64.wrap ((k : Int) - 1) = (k : Int) - 1 := IntWalk.i64_in _ (by constructor <;> omega)
        have H1 : Hid (¬ (l[k]).2 ≤ (l[k]).1) := h1
        go_upto_region 9999 with (first | ((with_reducible (apply wp_cond_split)); rfl; (all_goals intro hcd); (all_goals (first | (exfalso; exact Bool.noConfusion hcd) | ((try simp only [hcd]); go_prune)))) | ((fail_if_success go_not_at_region 6); ((with_reducible refine wp_region_quiet_lit ?_ ?_ ?_); kernel_rfl; kernel_rfl; (first | go_big_quiet_step (fail) | quiet_step (fail)); (first | go_big_quiet_step (fail) | quiet_step (fail)); (first | go_big_quiet_step (fail) | quiet_step (fail)); (first | go_big_quiet_step (fail) | (refine wpQuiet_liftE (wanted_T rfl rfl rfl) ?_; refine lift_fieldAddr rfl rfl ?_; apply Exists.intro; refine ⟨fun hgd => ?_, ?_⟩; (focus ((try simp only [Bool.and_eq_true, Bool.not_eq_true', Bool.or_eq_true, Bool.or_eq_false_iff, Bool.and_eq_false_iff, Bool.not_eq_eq_eq_not, Bool.not_true, Bool.not_false, decide_eq_true_eq, decide_eq_false_iff_not, bne_iff_ne, beq_iff_eq, beq_eq_false_iff_ne, bne_eq_false_iff_eq, ne_eq, int_eq_le, Int.not_lt, Int.not_le] at hgd); (try simp only [Act.put, List.setIfInBounds_toArray, List.set_cons_zero, List.set_cons_succ]); go_simp; (try simp (disch := omega) only [IntWalk.i64_in, IntWalk.wrap64_in]); (first | done | exact rfl | (intro _; exact rfl)))); simp only [Act.put, List.setIfInBounds_toArray, List.set_cons_zero, List.set_cons_succ])); (first | go_big_quiet_step (fail) | (refine wpQuiet_liftE (wanted_T rfl rfl rfl) ?_; refine lift_put (n := 20) rfl (fun h => h) ?_; refine lift_load rfl rfl ?_; apply Exists.intro; refine ⟨fun hgd => ?_, ?_⟩; (focus ((try simp only [Bool.and_eq_true, Bool.not_eq_true', Bool.or_eq_true, Bool.or_eq_false_iff, Bool.and_eq_false_iff, Bool.not_eq_eq_eq_not, Bool.not_true, Bool.not_false, decide_eq_true_eq, decide_eq_false_iff_not, bne_iff_ne, beq_iff_eq, beq_eq_false_iff_ne, bne_eq_false_iff_eq, ne_eq, int_eq_le, Int.not_lt, Int.not_le] at hgd); (try simp only [Act.put, List.setIfInBounds_toArray, List.set_cons_zero, List.set_cons_succ]); go_simp; (try simp (disch := omega) only [IntWalk.i64_in, IntWalk.wrap64_in]); (first | done | exact rfl | (intro _; exact rfl)))); simp only [Act.put, List.setIfInBounds_toArray, List.set_cons_zero, List.set_cons_succ])); (first | go_big_quiet_step (fail) | (refine wpQuiet_liftE (wanted_T rfl rfl rfl) ?_; (first | refine lift_moveL rfl rfl ?_ | refine lift_move rfl rfl ?_); simp only [Act.put, List.setIfInBounds_toArray, List.set_cons_zero, List.set_cons_succ])); (first | go_big_quiet_step (fail) | (refine wpQuiet_liftE (wanted_T rfl rfl rfl) ?_; (first | refine lift_moveL rfl rfl ?_ | refine lift_move rfl rfl ?_); simp only [Act.put, List.setIfInBounds_toArray, List.set_cons_zero, List.set_cons_succ])); (first | go_big_quiet_step (fail) | (refine wpQuiet_liftE (wanted_T rfl rfl rfl) ?_; refine lift_put (n := 23) rfl (fun h => h) ?_; refine lift_binOp_tc rfl rfl ?_; apply Exists.intro; refine ⟨fun hgd => ?_, ?_⟩; (focus ((try simp only [Bool.and_eq_true, Bool.not_eq_true', Bool.or_eq_true, Bool.or_eq_false_iff, Bool.and_eq_false_iff, Bool.not_eq_eq_eq_not, Bool.not_true, Bool.not_false, decide_eq_true_eq, decide_eq_false_iff_not, bne_iff_ne, beq_iff_eq, beq_eq_false_iff_ne, bne_eq_false_iff_eq, ne_eq, int_eq_le, Int.not_lt, Int.not_le] at hgd); (try simp only [Act.put, List.setIfInBounds_toArray, List.set_cons_zero, List.set_cons_succ]); go_simp; (try simp (disch := omega) only [IntWalk.i64_in, IntWalk.wrap64_in]); (first | done | exact rfl | (intro _; exact rfl)))); simp only [Act.put, List.setIfInBounds_toArray, List.set_cons_zero, List.set_cons_succ])); (first | go_big_quiet_step (fail) | (refine wpQuiet_liftE (wanted_T rfl rfl rfl) ?_; refine lift_put (n := 22) rfl (fun h => h) ?_; refine lift_put (n := 24) rfl (fun h => h) ?_; refine lift_indexAddr_tt rfl rfl rfl ?_; apply Exists.intro; refine ⟨fun hgd => ?_, ?_⟩; (focus ((try simp only [Bool.and_eq_true, Bool.not_eq_true', Bool.or_eq_true, Bool.or_eq_false_iff, Bool.and_eq_false_iff, Bool.not_eq_eq_eq_not, Bool.not_true, Bool.not_false, decide_eq_true_eq, decide_eq_false_iff_not, bne_iff_ne, beq_iff_eq, beq_eq_false_iff_ne, bne_eq_false_iff_eq, ne_eq, int_eq_le, Int.not_lt, Int.not_le] at hgd); (try simp only [Act.put, List.setIfInBounds_toArray, List.set_cons_zero, List.set_cons_succ]); go_simp; (try simp (disch := omega) only [IntWalk.i64_in, IntWalk.wrap64_in]); (first | done | exact rfl | (intro _; exact rfl)))); simp only [Act.put, List.setIfInBounds_toArray, List.set_cons_zero, List.set_cons_succ])); (first | go_big_quiet_step (fail) | (refine wpQuiet_liftE (wanted_T rfl rfl rfl) ?_; refine lift_put (n := 25) rfl (fun h => h) ?_; refine lift_fieldAddr rfl rfl ?_; apply Exists.intro; refine ⟨fun hgd => ?_, ?_⟩; (focus ((try simp only [Bool.and_eq_true, Bool.not_eq_true', Bool.or_eq_true, Bool.or_eq_false_iff, Bool.and_eq_false_iff, Bool.not_eq_eq_eq_not, Bool.not_true, Bool.not_false, decide_eq_true_eq, decide_eq_false_iff_not, bne_iff_ne, beq_iff_eq, beq_eq_false_iff_ne, bne_eq_false_iff_eq, ne_eq, int_eq_le, Int.not_lt, Int.not_le] at hgd); (try simp only [Act.put, List.setIfInBounds_toArray, List.set_cons_zero, List.set_cons_succ]); go_simp; (try simp (disch := omega) only [IntWalk.i64_in, IntWalk.wrap64_in]); (first | done | exact rfl | (intro _; exact rfl)))); simp only [Act.put, List.setIfInBounds_toArray, List.set_cons_zero, List.set_cons_succ])); (first | go_big_quiet_step (fail) | (refine wpQuiet_liftE (wanted_T rfl rfl rfl) ?_; refine lift_put (n := 26) rfl (fun h => h) ?_; refine lift_load rfl rfl ?_; apply Exists.intro; refine ⟨fun hgd => ?_, ?_⟩; (focus ((try simp only [Bool.and_eq_true, Bool.not_eq_true', Bool.or_eq_true, Bool.or_eq_false_iff, Bool.and_eq_false_iff, Bool.not_eq_eq_eq_not, Bool.not_true, Bool.not_false, decide_eq_true_eq, decide_eq_false_iff_not, bne_iff_ne, beq_iff_eq, beq_eq_false_iff_ne, bne_eq_false_iff_eq, ne_eq, int_eq_le, Int.not_lt, Int.not_le] at hgd); (try simp only [Act.put, List.setIfInBounds_toArray, List.set_cons_zero, List.set_cons_succ]); go_simp; (try simp (disch := omega) only [IntWalk.i64_in, IntWalk.wrap64_in]); (first | done | exact rfl | (intro _; exact rfl)))); simp only [Act.put, List.setIfInBounds_toArray, List.set_cons_zero, List.set_cons_succ])); (first | go_big_quiet_step (fail) | (refine wpQuiet_liftE (wanted_T rfl rfl rfl) ?_; refine lift_put (n := 21) rfl (fun h => h) ?_; refine lift_put (n := 27) rfl (fun h => h) ?_; refine lift_binOp_tt rfl rfl rfl ?_; apply Exists.intro; refine ⟨fun hgd => ?_, ?_⟩; (focus ((try simp only [Bool.and_eq_true, Bool.not_eq_true', Bool.or_eq_true, Bool.or_eq_false_iff, Bool.and_eq_false_iff, Bool.not_eq_eq_eq_not, Bool.not_true, Bool.not_false, decide_eq_true_eq, decide_eq_false_iff_not, bne_iff_ne, beq_iff_eq, beq_eq_false_iff_ne, bne_eq_false_iff_eq, ne_eq, int_eq_le, Int.not_lt, Int.not_le] at hgd); (try simp only [Act.put, List.setIfInBounds_toArray, List.set_cons_zero, List.set_cons_succ]); go_simp; (try simp (disch := omega) only [IntWalk.i64_in, IntWalk.wrap64_in]); (first | done | exact rfl | (intro _; exact rfl)))); simp only [Act.put, List.setIfInBounds_toArray, List.set_cons_zero, List.set_cons_succ])); (first | (refine wpQuiet_pick_and rfl rfl rfl rfl ?_; simp only [Act.put, List.setIfInBounds_toArray, List.set_cons_zero, List.set_cons_succ]) | go_big_quiet_step (fail)); (with_reducible refine wpQuiet_nil ?_); intro wq hwq; obtain ⟨nq, hwq2⟩ := hwq; subst hwq2)))
        · go_ret
          refine ⟨ret_i ?_, by (exact Ext.of_below (by (repeat' (first | (with_reducible exact Below.refl _ _) | (with_reducible assumption) | (with_reducible refine Below.alloc ?_ ?_ _) | (with_reducible refine Below.wext ?_ ?_ _ _) | (with_reducible refine Below.drew ?_) | (with_reducible refine Below.setCell ?_ ?_ _) | (with_reducible exact Nat.le_refl _) | (with_reducible refine Below.drewN' ?_ _) | (simp; omega) | (simp; done)))))⟩
          have h2 : 0 < k ∧ (l[k]).1 ≤ (l[k - 1]'(by omega)).2 := by simpa using (by assumption : (decide (0 < k) && decide ((l[k]).1 ≤ (l[k - 1]'(by omega)).2)) = true)
          have h1' : ¬ (l[k]).2 ≤ (l[k]).1 := by have := H1.out; omega
          rw [HR.out, step10 hlt h1' h2]
          simp
        · have h2 : ¬ (0 < k ∧ (l[k]).1 ≤ (l[k - 1]'(by omega)).2) := by
            have h := (by assumption : (decide (0 < k) && decide ((l[k]).1 ≤ (l[k - 1]'(by omega)).2)) = false)
            intro hx
            simp [hx.1, hx.2] at h
          have h1' : ¬ (l[k]).2 ≤ (l[k]).1 := by have := H1.out; omega
          have he : chkI l = chkFrom (prevI l (k + 1)) (l.drop (k + 1)) := by
            rw [HR.out, step0 hlt h1' h2]; simp
          go_roundw
          case rel => exact ⟨k + 1, by go_num, by omega, he, by (exact Ext.of_below (by (repeat' (first | (with_reducible exact Below.refl _ _) | (with_reducible assumption) | (with_reducible refine Below.alloc ?_ ?_ _) | (with_reducible refine Below.wext ?_ ?_ _ _) | (with_reducible refine Below.drew ?_) | (with_reducible refine Below.setCell ?_ ?_ _) | (with_reducible exact Nat.le_refl _) | (with_reducible refine Below.drewN' ?_ _) | (simp; omega) | (simp; done)))))⟩
          case measure => simp [intOf]; omega
    · go_wp2_with fail
      all_goals go_ret
      all_goals refine ⟨ret_i ?_, by (exact Ext.of_below (by (repeat' (first | (with_reducible exact Below.refl _ _) | (with_reducible assumption) | (with_reducible refine Below.alloc ?_ ?_ _) | (with_reducible refine Below.wext ?_ ?_ _ _) | (with_reducible refine Below.drew ?_) | (with_reducible refine Below.setCell ?_ ?_ _) | (with_reducible exact Nat.le_refl _) | (with_reducible refine Below.drewN' ?_ _) | (simp; omega) | (simp; done)))))⟩
      all_goals (have e := HE.out; rw [show k = l.length by omega, chk_end] at e; exact e.symm)

theorem chk_any (l : List (Int × Int)) (v : Value) (w : World) (h : isSl w v 2 l.length (ivF l)) :
    Calls Try.prog 13 #[v] w fun e w' => e = .returned (.int .i64 (chkI l)) ∧ Ext w w' := by
  obtain ⟨_, h2⟩ := h
  rcases h2 with ⟨a0, c0, hv, hn⟩ | ⟨b, o, cap, hv, hn, hc, hlt, hx⟩
  · obtain rfl : l = [] := List.length_eq_zero_iff.1 hn
    rw [hv]
    exact chk_nil a0 c0 w
  · rw [hv]
    exact chk_some l b o cap w (by omega) hlt hx

end Go.Proofs.Ytlboakmiopnifaa
