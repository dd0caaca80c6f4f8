/- Layer 02: the reference's Contains, Few, Same. -/
import Derived.Test.YtlboakmiopnifaaIvd
import Derived.Laws.StructEq
set_option linter.unusedSimpArgs false
set_option linter.unusedVariables false
namespace Go.Proofs.Ytlboakmiopnifaa
open Go.RowKit

set_option maxHeartbeats 4000000 in
theorem rcont_any (l : List (Int × Int)) (m : Int) (v : Value) (w : World) (h : isSl w v 2 l.length (ivF l)) :
    Calls Try.prog 16 #[v, .int .i64 m] w fun e w' => e = .returned (.bool (chkI l == 0 && inI l m)) ∧ Ext w w' := by
  have H : Hid (isSl w v 2 l.length (ivF l)) := h
  clear h
  go_enter Try.func16, Try.ntmps16
  go_upto_region 9999 with (first | ((with_reducible (apply wp_cond_split)); rfl; (all_goals intro hcd); (all_goals (first | (exfalso; exact Bool.noConfusion hcd) | ((try simp only [hcd]); go_prune)))) | ((fail_if_success go_not_at_region 1); ((with_reducible refine wp_region_ext0 ?_); (first | go_big_quiet_step (fail) | quiet_step (fail)); (first | go_big_quiet_step (first | (go_at_call 14; with_reducible exact Calls.ext_of (rchk_any l _ _ (H.out.ext (by (exact Ext.of_below (by (repeat' (first | (with_reducible exact Below.refl _ _) | (with_reducible assumption) | (with_reducible refine Below.alloc ?_ ?_ _) | (with_reducible refine Below.wext ?_ ?_ _ _) | (with_reducible refine Below.drew ?_) | (with_reducible refine Below.setCell ?_ ?_ _) | (with_reducible exact Nat.le_refl _) | (with_reducible refine Below.drewN' ?_ _) | (simp; omega) | (simp; done)))))))))) | quiet_step (first | (go_at_call 14; with_reducible exact Calls.ext_of (rchk_any l _ _ (H.out.ext (by (exact Ext.of_below (by (repeat' (first | (with_reducible exact Below.refl _ _) | (with_reducible assumption) | (with_reducible refine Below.alloc ?_ ?_ _) | (with_reducible refine Below.wext ?_ ?_ _ _) | (with_reducible refine Below.drew ?_) | (with_reducible refine Below.setCell ?_ ?_ _) | (with_reducible exact Nat.le_refl _) | (with_reducible refine Below.drewN' ?_ _) | (simp; omega) | (simp; done))))))))))); (first | go_big_quiet_step (fail) | quiet_step (fail)); (first | go_big_quiet_step (fail) | quiet_step (fail)); (first | go_big_quiet_step (fail) | (refine wpQuiet_liftE (wanted_T rfl rfl rfl) ?_; (first | refine lift_moveL rfl rfl ?_ | refine lift_move rfl rfl ?_); simp only [Act.put, List.setIfInBounds_toArray, List.set_cons_zero, List.set_cons_succ])); (first | go_big_quiet_step (fail) | (refine wpQuiet_liftE (wanted_T rfl rfl rfl) ?_; (first | refine lift_moveL rfl rfl ?_ | refine lift_move rfl rfl ?_); simp only [Act.put, List.setIfInBounds_toArray, List.set_cons_zero, List.set_cons_succ])); (first | go_big_quiet_step (first | (go_at_call 39; with_reducible exact Calls.ext_of (rin_any l _ _ _ (H.out.ext (by (exact Ext.of_below (by (repeat' (first | (with_reducible exact Below.refl _ _) | (with_reducible assumption) | (with_reducible refine Below.alloc ?_ ?_ _) | (with_reducible refine Below.wext ?_ ?_ _ _) | (with_reducible refine Below.drew ?_) | (with_reducible refine Below.setCell ?_ ?_ _) | (with_reducible exact Nat.le_refl _) | (with_reducible refine Below.drewN' ?_ _) | (simp; omega) | (simp; done)))))))))) | (refine wpQuiet_liftE (wanted_T rfl rfl rfl) ?_; refine lift_put (n := 9) rfl (fun h => h) ?_; refine lift_put (n := 10) rfl (fun h => h) ?_; apply Exists.intro; refine ⟨fun hgd => ?_, ?_⟩; (focus ((try simp only [Bool.and_eq_true, Bool.not_eq_true', Bool.or_eq_true, Bool.or_eq_false_iff, Bool.and_eq_false_iff, Bool.not_eq_eq_eq_not, Bool.not_true, Bool.not_false, decide_eq_true_eq, decide_eq_false_iff_not, bne_iff_ne, beq_iff_eq, beq_eq_false_iff_ne, bne_eq_false_iff_eq, ne_eq, int_eq_le, Int.not_lt, Int.not_le] at hgd); (try simp only [Act.put, List.setIfInBounds_toArray, List.set_cons_zero, List.set_cons_succ]); go_simp; (try simp (disch := omega) only [IntWalk.i64_in, IntWalk.wrap64_in]); (first | done | (intro _; (first | (go_at_call 39; with_reducible exact Calls.ext_of (rin_any l _ _ _ (H.out.ext (by (exact Ext.of_below (by (repeat' (first | (with_reducible exact Below.refl _ _) | (with_reducible assumption) | (with_reducible refine Below.alloc ?_ ?_ _) | (with_reducible refine Below.wext ?_ ?_ _ _) | (with_reducible refine Below.drew ?_) | (with_reducible refine Below.setCell ?_ ?_ _) | (with_reducible exact Nat.le_refl _) | (with_reducible refine Below.drewN' ?_ _) | (simp; omega) | (simp; done))))))))))) | (first | (go_at_call 39; with_reducible exact Calls.ext_of (rin_any l _ _ _ (H.out.ext (by (exact Ext.of_below (by (repeat' (first | (with_reducible exact Below.refl _ _) | (with_reducible assumption) | (with_reducible refine Below.alloc ?_ ?_ _) | (with_reducible refine Below.wext ?_ ?_ _ _) | (with_reducible refine Below.drew ?_) | (with_reducible refine Below.setCell ?_ ?_ _) | (with_reducible exact Nat.le_refl _) | (with_reducible refine Below.drewN' ?_ _) | (simp; omega) | (simp; done))))))))))))); simp only [Act.put, List.setIfInBounds_toArray, List.set_cons_zero, List.set_cons_succ])); (first | (refine wpQuiet_pick_and rfl rfl rfl rfl ?_; simp only [Act.put, List.setIfInBounds_toArray, List.set_cons_zero, List.set_cons_succ]) | go_big_quiet_step (fail)); (first | go_big_quiet_step (fail) | quiet_step (fail)); (with_reducible refine wpQuiet_nil ?_); intro wq hwq; obtain ⟨⟨osq, nq⟩, hwq2⟩ := hwq; subst hwq2; (try dsimp only))) | (go_at_call 14; refine (rchk_any l _ _ (H.out.ext (by (exact Ext.of_below (by (repeat' (first | (with_reducible exact Below.refl _ _) | (with_reducible assumption) | (with_reducible refine Below.alloc ?_ ?_ _) | (with_reducible refine Below.wext ?_ ?_ _ _) | (with_reducible refine Below.drew ?_) | (with_reducible refine Below.setCell ?_ ?_ _) | (with_reducible exact Nat.le_refl _) | (with_reducible refine Below.drewN' ?_ _) | (simp; omega) | (simp; done)))))))).mono ?_; rintro e w1 ⟨rfl, os1, n1, rfl⟩) | (go_at_call 39; refine (rin_any l _ _ _ (H.out.ext (by (exact Ext.of_below (by (repeat' (first | (with_reducible exact Below.refl _ _) | (with_reducible assumption) | (with_reducible refine Below.alloc ?_ ?_ _) | (with_reducible refine Below.wext ?_ ?_ _ _) | (with_reducible refine Below.drew ?_) | (with_reducible refine Below.setCell ?_ ?_ _) | (with_reducible exact Nat.le_refl _) | (with_reducible refine Below.drewN' ?_ _) | (simp; omega) | (simp; done)))))))).mono ?_; rintro e w1 ⟨rfl, os1, n1, rfl⟩))
  all_goals go_ret
  all_goals exact ⟨rfl, by (exact Ext.of_below (by (repeat' (first | (with_reducible exact Below.refl _ _) | (with_reducible assumption) | (with_reducible refine Below.alloc ?_ ?_ _) | (with_reducible refine Below.wext ?_ ?_ _ _) | (with_reducible refine Below.drew ?_) | (with_reducible refine Below.setCell ?_ ?_ _) | (with_reducible exact Nat.le_refl _) | (with_reducible refine Below.drewN' ?_ _) | (simp; omega) | (simp; done)))))⟩

set_option maxHeartbeats 1000000 in
theorem few_any (a : Option Addr) (n c : Nat) (m : Int) (w : World) :
    Calls Try.prog 35 #[.slice a n c, .int .i64 m] w fun e w' => e = .returned (.bool (decide ((n : Int) ≤ m))) ∧ Ext w w' := by
  go_enter Try.func35, Try.ntmps35
  go_wp2_with fail
  all_goals go_ret
  all_goals exact ⟨rfl, by (exact Ext.of_below (by (repeat' (first | (with_reducible exact Below.refl _ _) | (with_reducible assumption) | (with_reducible refine Below.alloc ?_ ?_ _) | (with_reducible refine Below.wext ?_ ?_ _ _) | (with_reducible refine Below.drew ?_) | (with_reducible refine Below.setCell ?_ ?_ _) | (with_reducible exact Nat.le_refl _) | (with_reducible refine Below.drewN' ?_ _) | (simp; omega) | (simp; done)))))⟩

theorem eqF_step {P : Program} {d : Nat} {xs ys : Array Value} {f : Field} {fs : List Field} {w : World} {a b : Value} {x y : Bool} (hn : f.name ≠ "_") (hx : (part f.type xs f.offset).run P w = .ok a w) (hy : (part f.type ys f.offset).run P w = .ok b w)
    (he : (Op.equalIn d f.type a b).run P w = .ok x w) (hr : (Op.eqFields d xs ys fs).run P w = .ok y w) : (Op.eqFields d xs ys (f :: fs)).run P w = .ok (x && y) w := by
  simp only [Op.eqFields, Sem.run_ite, Sem.run_bind, hx, hy, he, hr, Result.andThen_ok, if_pos hn]
  cases x <;> rfl
theorem eqF_last {P : Program} {d : Nat} {xs ys : Array Value} {f : Field} {w : World} {a b : Value} {x : Bool} (hn : f.name ≠ "_") (hx : (part f.type xs f.offset).run P w = .ok a w) (hy : (part f.type ys f.offset).run P w = .ok b w)
    (he : (Op.equalIn d f.type a b).run P w = .ok x w) : (Op.eqFields d xs ys [f]).run P w = .ok x w := by
  have := eqF_step (fs := []) (y := true) hn hx hy he (by rfl)
  simpa using this
theorem run_neqiv (a b c d : Int) (w : World) : (binOp .neq 28 (.agg #[.int .i64 a, .int .i64 b]) (.agg #[.int .i64 c, .int .i64 d])).run Try.prog w = .ok (.bool (!(a == c && b == d))) w := by
  rw [run_neq_struct, run_equalIn_agg w 9999 _ _ _ (by rw [Program.fieldsOf, Try.underlying28]) (by kernel_rfl)]
  have e : (Op.eqFields 9999 #[.int .i64 a, .int .i64 b] #[.int .i64 c, .int .i64 d] (Try.prog.fieldsOf 28).toList).run Try.prog w = .ok (a == c && b == d) w := by
    rw [Program.fieldsOf, Try.underlying28]
    refine eqF_step (by decide) rfl rfl (run_equalIn_int w _ _ _ .i64 _ _ (by kernel_rfl)) ?_
    exact eqF_last (by decide) rfl rfl (run_equalIn_int w _ _ _ .i64 _ _ (by kernel_rfl))
  rw [e]; rfl
section
variable {C : World → Prop} {ops : Array Oper} {Q : Act → Prop} {rest : List Oper} {a : Act} {o : Oper}
theorem wpQuiet_neqiv (x y u v : Int) {n m : Nat} (hg : o.guard = none) (ho : o.op = .binOp .neq 28 (.tmp n) (.tmp m) 28) (hx : a.tmps.toList[n]? = some (.agg #[.int .i64 x, .int .i64 y])) (hy : a.tmps.toList[m]? = some (.agg #[.int .i64 u, .int .i64 v]))
    (h : wpQuiet Try.prog ops C Q rest (a.put o.dst (.bool (!(x == u && y == v))))) : wpQuiet Try.prog ops C Q (o :: rest) a := by
  refine wpQuiet_step fun K hK => ?_
  rw [if_pos (by unfold Region.wanted; rw [hg])]
  refine ⟨_, qa_binOp_tt ho (by rw [← Array.getElem?_toList]; exact hx) (by rw [← Array.getElem?_toList]; exact hy) ?_, hK _ h⟩
  intro w hw
  have hG : Try.prog.eqGuardType Try.prog.depth 28 = false := by kernel_rfl
  simp only [Sem.run_bind, run_eqGuard_agg w .neq 28 _ _ _ _ hG, Result.andThen_ok, run_neqiv]
  exact ⟨rfl, rfl⟩
end

set_option maxHeartbeats 4000000 in
theorem same_some (l r : List (Int × Int)) (ba oa ca bb ob cb : Nat) (w : World) (hl : l.length ≤ maxLen) (hn : l.length = r.length) (ha : ∀ j, j < l.length * 2 → w.cell? ⟨ba, oa + j, none⟩ = (ivF l)[j]?) (hb : ∀ j, j < r.length * 2 → w.cell? ⟨bb, ob + j, none⟩ = (ivF r)[j]?) :
    Calls Try.prog 21 #[.slice (some ⟨ba, oa, none⟩) l.length ca, .slice (some ⟨bb, ob, none⟩) l.length cb] w fun e w' => e = .returned (.bool (decide (l = r))) ∧ Ext w w' := by
  have HA : Hid (∀ j, j < l.length * 2 → w.cell? ⟨ba, oa + j, none⟩ = (ivF l)[j]?) := ha
  have HB : Hid (∀ j, j < r.length * 2 → w.cell? ⟨bb, ob + j, none⟩ = (ivF r)[j]?) := hb
  have HN : Hid (l.length = r.length) := hn
  unfold maxLen at hl
  clear ha hb hn
  go_enter Try.func21, Try.ntmps21
  go_wp2_with fail
  go_loopw [5] (fun v wr => ∃ k : Nat, v = .int .i64 k ∧ k ≤ l.length ∧ l.take k = r.take k ∧ ∃ n, wr = w.drewN n) (fun v _ => l.length - (intOf v).toNat)
  case atStart => exact ⟨0, rfl, by omega, by simp, 0, rfl⟩
  case round =>
    obtain ⟨k, rfl, hk, he, n, rfl⟩ := hrel
    have HE : Hid (l.take k = r.take k) := he
    clear he
    by_cases hlt : k < l.length
    · obtain ⟨a0, a1⟩ := iv_cells HA.out k hlt
      obtain ⟨b0, b1⟩ := iv_cells HB.out k (by have := HN.out; omega)
      go_upto_region 9999 with (first | ((with_reducible (apply wp_cond_split)); rfl; (all_goals intro hcd); (all_goals (first | (exfalso; exact Bool.noConfusion hcd) | ((try simp only [hcd]); go_prune)))) | ((fail_if_success go_not_at_region 6); ((with_reducible refine wp_region_quiet_lit ?_ ?_ ?_); kernel_rfl; kernel_rfl; (first | go_big_quiet_step (fail) | quiet_step (fail)); (first | go_big_quiet_step (fail) | quiet_step (fail)); (first | go_big_quiet_step (fail) | quiet_step (fail)); (first | go_big_quiet_step (fail) | quiet_step (fail)); (first | go_big_quiet_step (fail) | quiet_step (fail)); (first | go_big_quiet_step (fail) | quiet_step (fail)); (first | go_big_quiet_step (fail) | quiet_step (fail)); (first | go_big_quiet_step (fail) | quiet_step (fail)); (first | (refine wpQuiet_neqiv _ _ _ _ rfl rfl rfl rfl ?_; simp only [Act.put, List.setIfInBounds_toArray, List.set_cons_zero, List.set_cons_succ]) | go_big_quiet_step (fail)); (with_reducible refine wpQuiet_nil ?_); intro wq hwq; obtain ⟨nq, hwq2⟩ := hwq; subst hwq2)))
      · go_ret
        refine ⟨ret_b ?_, Ext.of_below (by first | exact Below.drewN' (Below.refl _ _) _ | (repeat' (first | (with_reducible exact Below.refl _ _) | (with_reducible assumption) | (with_reducible refine Below.alloc ?_ ?_ _) | (with_reducible refine Below.wext ?_ ?_ _ _) | (with_reducible refine Below.drew ?_) | (with_reducible refine Below.setCell ?_ ?_ _) | (with_reducible exact Nat.le_refl _) | (with_reducible refine Below.drewN' ?_ _) | (simp; omega) | (simp; done))))⟩
        have h := (by assumption : (!((l[k]).1 == (r[k]'(by have := HN.out; omega)).1 && (l[k]).2 == (r[k]'(by have := HN.out; omega)).2)) = true)
        have hne : l ≠ r := by
          rintro rfl
          simp at h
        simp [hne]
      · have h := (by assumption : (!((l[k]).1 == (r[k]'(by have := HN.out; omega)).1 && (l[k]).2 == (r[k]'(by have := HN.out; omega)).2)) = false)
        have he : l.take (k + 1) = r.take (k + 1) := by
          have hr : k < r.length := by have := HN.out; omega
          rw [List.take_succ_eq_append_getElem hlt, List.take_succ_eq_append_getElem hr, HE.out]
          congr 2
          have h' : (l[k]).1 = (r[k]'hr).1 ∧ (l[k]).2 = (r[k]'hr).2 := by simpa using h
          exact Prod.ext h'.1 h'.2
        go_roundw
        case rel => exact ⟨k + 1, by go_num, by omega, he, _, rfl⟩
        case measure => simp [intOf]; omega
    · go_wp2_with fail
      all_goals go_ret
      all_goals refine ⟨ret_b ?_, Ext.of_below (by first | exact Below.drewN' (Below.refl _ _) _ | (repeat' (first | (with_reducible exact Below.refl _ _) | (with_reducible assumption) | (with_reducible refine Below.alloc ?_ ?_ _) | (with_reducible refine Below.wext ?_ ?_ _ _) | (with_reducible refine Below.drew ?_) | (with_reducible refine Below.setCell ?_ ?_ _) | (with_reducible exact Nat.le_refl _) | (with_reducible refine Below.drewN' ?_ _) | (simp; omega) | (simp; done))))⟩
      all_goals (have e := HE.out; have hn := HN.out; rw [show k = l.length by omega, List.take_length, hn, List.take_length] at e; simp [e])

set_option maxHeartbeats 1000000 in
theorem same_nil (a b : Option Addr) (ca cb : Nat) (w : World) :
    Calls Try.prog 21 #[.slice a 0 ca, .slice b 0 cb] w fun e w' => e = .returned (.bool true) ∧ Ext w w' := by
  go_enter Try.func21, Try.ntmps21
  go_wp2_with fail
  refine wp_loop_rounds 1 ?_
  rw [rounds_succ]
  go_wp2_with fail
  all_goals go_ret
  all_goals exact ⟨rfl, by (exact Ext.of_below (by (repeat' (first | (with_reducible exact Below.refl _ _) | (with_reducible assumption) | (with_reducible refine Below.alloc ?_ ?_ _) | (with_reducible refine Below.wext ?_ ?_ _ _) | (with_reducible refine Below.drew ?_) | (with_reducible refine Below.setCell ?_ ?_ _) | (with_reducible exact Nat.le_refl _) | (with_reducible refine Below.drewN' ?_ _) | (simp; omega) | (simp; done)))))⟩
set_option maxHeartbeats 1000000 in
theorem same_len (a b : Option Addr) (n m ca cb : Nat) (h : n ≠ m) (w : World) :
    Calls Try.prog 21 #[.slice a n ca, .slice b m cb] w fun e w' => e = .returned (.bool false) ∧ Ext w w' := by
  have e1 : ((n : Int) != m) = true := by simp; omega
  have e2 : ¬ ((n : Int) = m) := by omega
  go_enter Try.func21, Try.ntmps21
  go_wp2_with fail
  all_goals go_ret
  all_goals exact ⟨rfl, by (exact Ext.of_below (by (repeat' (first | (with_reducible exact Below.refl _ _) | (with_reducible assumption) | (with_reducible refine Below.alloc ?_ ?_ _) | (with_reducible refine Below.wext ?_ ?_ _ _) | (with_reducible refine Below.drew ?_) | (with_reducible refine Below.setCell ?_ ?_ _) | (with_reducible exact Nat.le_refl _) | (with_reducible refine Below.drewN' ?_ _) | (simp; omega) | (simp; done)))))⟩
theorem same_any (l r : List (Int × Int)) (v u : Value) (w : World) (hv : isSl w v 2 l.length (ivF l)) (hu : isSl w u 2 r.length (ivF r)) :
    Calls Try.prog 21 #[v, u] w fun e w' => e = .returned (.bool (decide (l = r))) ∧ Ext w w' := by
  have sv : ∃ a c, v = .slice a l.length c := by
    obtain ⟨_, ⟨a0, c0, h, h0⟩ | ⟨b, o, c, h, _⟩⟩ := hv
    · exact ⟨a0, c0, by rw [h, h0]⟩
    · exact ⟨_, c, h⟩
  have su : ∃ a c, u = .slice a r.length c := by
    obtain ⟨_, ⟨a0, c0, h, h0⟩ | ⟨b, o, c, h, _⟩⟩ := hu
    · exact ⟨a0, c0, by rw [h, h0]⟩
    · exact ⟨_, c, h⟩
  by_cases hn : l.length = r.length
  · by_cases h0 : l.length = 0
    · obtain ⟨a, c, rfl⟩ := sv
      obtain ⟨a', c', rfl⟩ := su
      rw [← hn, h0]
      obtain rfl : l = [] := List.length_eq_zero_iff.1 h0
      obtain rfl : r = [] := List.length_eq_zero_iff.1 (by omega)
      simpa using same_nil a a' c c' w
    · obtain ⟨ba, oa, ca', e1, h1, h2, h3, h4⟩ := hv.cell (by omega)
      obtain ⟨bb, ob, cb', e2, g1, g2, g3, g4⟩ := hu.cell (by omega)
      subst e1 e2
      rw [← hn]
      exact same_some l r ba oa ca' bb ob cb' w (by omega) hn h4 g4
  · obtain ⟨a, c, rfl⟩ := sv
    obtain ⟨a', c', rfl⟩ := su
    have hne : l ≠ r := fun e => hn (by rw [e])
    simpa [hne] using same_len a a' l.length r.length c c' hn w

end Go.Proofs.Ytlboakmiopnifaa
