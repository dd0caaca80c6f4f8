/- Layer 02: slices' tails; a store into a row that a slice owns; what put makes of a list. -/
/- Layer 02: put. -/
/- Layer 02: put: the first interval; intervals that are joined. -/
/- Layer 02: both, one. -/
/- Layer 02: plain: the union's and the difference's lists, step by step. -/
import Derived.Test.YtkdjbiekjgeafaaQs
import Derived.Laws.AppendOwn
import Derived.Deep.AppendLies
set_option linter.unusedSimpArgs false
set_option linter.unusedVariables false
namespace Go.Proofs.Ytkdjbiekjgeafaa.Iv
open Go.RowKit

set_option maxRecDepth 100000 in
/-- s[1:] of a slice that reads as x :: l. -/
theorem isSl_tail {w : World} {b o n c : Nat} {x : Int × Int} {l : List (Int × Int)} (h : isSl w (.slice (some ⟨b, o, none⟩) (l.length + 1) c) 2 (l.length + 1) (ivF (x :: l))) :
    isSl w (.slice (some ⟨b, o + 2, none⟩) l.length (c - 1)) 2 l.length (ivF l) := by
  obtain ⟨b', o', c', hv, h1, h2, h3, h4⟩ := h.cell (by omega)
  cases hv
  refine ⟨ivF_len l, .inr ⟨b, o + 2, c - 1, rfl, by omega, by omega, h3, fun j hj => ?_⟩⟩
  have := h4 (j + 2) (by omega)
  rw [show o + 2 + j = o + (j + 2) by omega, this]
  rfl

set_option maxRecDepth 100000 in
/-- A store into a cell of a row that a slice owns. -/
theorem own_set {w : World} {base : Nat} {e : TypeId} {m n : Nat} {g cap : Nat} {xs : List Value} {i : Nat} {u : Value} (h : w.ownsRow base e m (.slice (some ⟨g, 0, none⟩) n cap) n xs) (hi : i < n * m) :
    (w.setCell ⟨g, i, none⟩ u).ownsRow base e m (.slice (some ⟨g, 0, none⟩) n cap) n (xs.set i u) := by
  obtain ⟨h1, h2⟩ := h
  refine ⟨by rw [List.length_set, h1], .inr ?_⟩
  rcases h2 with ⟨hv, _⟩ | ⟨g', cap', cur, hv, hb, hh, hn, hc, hs, ht⟩
  · cases hv
  · cases hv
    refine ⟨g, cap, cur.setIfInBounds i u, rfl, hb, ?_, hn, hc, by simpa using hs, ?_⟩
    · unfold World.setCell
      simp [Array.getElem?_modify, hh]
    · rw [Array.toList_setIfInBounds, List.take_set, ht]

set_option maxRecDepth 100000 in
theorem ivF_app (l r : List (Int × Int)) : ivF (l ++ r) = ivF l ++ ivF r := by
  induction l with
  | nil => rfl
  | cons x l ih => simp [ivF, ih]
/-- What put makes of a list. -/
def putI (l : List (Int × Int)) (x : Int × Int) : List (Int × Int) :=
  match l.getLast? with
  | some y => if x.1 ≤ y.2 then l.dropLast ++ [(y.1, if x.2 ≤ y.2 then y.2 else x.2)] else l ++ [x]
  | none => [x]
set_option maxRecDepth 100000 in
theorem putI_nil (x : Int × Int) : putI [] x = [x] := rfl
set_option maxRecDepth 100000 in
theorem putI_app (l : List (Int × Int)) (y x : Int × Int) : putI (l ++ [y]) x = if x.1 ≤ y.2 then l ++ [(y.1, if x.2 ≤ y.2 then y.2 else x.2)] else l ++ [y] ++ [x] := by
  simp [putI]
set_option maxRecDepth 100000 in
theorem ivF_set (l : List (Int × Int)) (y : Int × Int) (t : Int) : (ivF (l ++ [y])).set (l.length * 2 + 1) (.int .i64 t) = ivF (l ++ [(y.1, t)]) := by
  rw [ivF_app, ivF_app, ← ivF_len l]
  simp [ivF, List.set_append]

end Go.Proofs.Ytkdjbiekjgeafaa.Iv

set_option linter.unusedSimpArgs false
set_option linter.unusedVariables false
namespace Go.Proofs.Ytkdjbiekjgeafaa.Iv
open Go.RowKit

theorem Try.infoIv : (Try.prog.info? 45).map (fun i => (i.zero, i.size, i.bytes)) = some (some (.agg #[.int .i64 0, .int .i64 0]), 2, 16) := by kernel_rfl
set_option maxRecDepth 100000 in
theorem infoIv_parts : ∃ i0, Try.prog.info? 45 = some i0 ∧ i0.zero = some (.agg #[.int .i64 0, .int .i64 0]) ∧ i0.size = 2 ∧ i0.bytes = 16 := by
  have h := Try.infoIv
  cases hi : Try.prog.info? 45 with
  | none => rw [hi] at h; cases h
  | some i0 =>
    rw [hi] at h
    simp only [Option.map_some, Option.some.injEq, Prod.mk.injEq] at h
    exact ⟨i0, rfl, h.1, h.2.1, h.2.2⟩
set_option maxRecDepth 100000 in
theorem below_le {B : Nat} {w w' : World} (hB : B ≤ w.heap.size) (h : Below w.heap.size w w') : Below B w w' := ⟨h.os, h.tape, h.output, h.size, fun k hk => h.block k (by omega)⟩
/-- What put answers: the list with the interval, in a row of its own. -/
def putPost (base : Nat) (l : List (Int × Int)) (w : World) (e : Ending) (w' : World) : Prop :=
  ∃ v, e = .returned v ∧ w'.ownsRow base 45 2 v l.length (ivF l) ∧ Below base w w'

set_option maxRecDepth 100000 in
set_option maxHeartbeats 4000000 in
theorem put_app (l : List (Int × Int)) (y : Int × Int) (g cap base : Nat) (x1 x2 : Int) (w : World) (hb : base ≤ w.heap.size) (hn : l.length ≤ 1000) (hx : ¬ x1 ≤ y.2)
    (h : w.ownsRow base 45 2 (.slice (some ⟨g, 0, none⟩) (l.length + 1) cap) (l.length + 1) (ivF (l ++ [y]))) :
    Calls Try.prog 61 #[.slice (some ⟨g, 0, none⟩) (l.length + 1) cap, .agg #[.int .i64 x1, .int .i64 x2]] w (putPost base (l ++ [y] ++ [(x1, x2)]) w) := by
  obtain ⟨i0, hi0, hz0, hs0, hy0⟩ := infoIv_parts
  have H : Hid (w.ownsRow base 45 2 (.slice (some ⟨g, 0, none⟩) (l.length + 1) cap) (l.length + 1) (ivF (l ++ [y]))) := h
  have zg : LtD g w.heap.size := (h.lt g rfl).2
  have c1 : w.cell? ⟨g, l.length * 2 + 1, none⟩ = some (.int .i64 y.2) := by
    rw [h.cellAt _ (by omega), ivF_snd (l ++ [y]) l.length (by simp)]
    simp
  have hd : decide (x1 ≤ y.2) = false := by simpa using hx
  clear h hx
  go_enter Try.func61, Try.ntmps61
  go_upto_region 9999 with (first | (at_builtin; have tokA : True := trivial; refine wpList_append_own _ rfl _ _ 29 rfl base 45 i0 (.agg #[.int .i64 0, .int .i64 0]) 2 16 Try.underlying29 hi0 hz0 hs0 hy0 rfl (by decide) _ _ _ rfl (own_ext H.out (by (exact Ext.of_below (by (repeat' (first | (with_reducible exact Below.refl _ _) | (with_reducible assumption) | (with_reducible refine Below.alloc ?_ ?_ _) | (with_reducible refine Below.wext ?_ ?_ _ _) | (with_reducible refine Below.drew ?_) | (with_reducible refine Below.setCell ?_ ?_ _) | (with_reducible exact Nat.le_refl _) | (with_reducible refine Below.drewN' ?_ _) | (simp; omega) | (simp; done))))))) ⟨_, 0, none⟩ 1 1 [.int .i64 x1, .int .i64 x2] rfl rfl (cells_new2 _ _ _ _ (by simp)) (by simp [Value.oneCell']) (by unfold maxLen; omega) (by omega) (by simp; omega) ?_; intro vA wA hownA hgrA _) | ((with_reducible (apply wp_cond_split)); rfl; (all_goals intro hcd); (all_goals (first | (exfalso; exact Bool.noConfusion hcd) | ((try simp only [hcd]); go_prune)))) | ((fail_if_success go_not_at_region 2); ((with_reducible refine wp_region_quiet_lit ?_ ?_ ?_); kernel_rfl; kernel_rfl; (first | go_big_quiet_step (fail) | quiet_step (fail)); (first | go_big_quiet_step (fail) | quiet_step (fail)); (first | go_big_quiet_step (fail) | quiet_step (fail)); (first | go_big_quiet_step (fail) | (refine wpQuiet_liftE (wanted_T rfl rfl rfl) ?_; refine lift_fieldAddr rfl rfl ?_; apply Exists.intro; refine ⟨fun hgd => ?_, ?_⟩; (focus ((try simp only [Ya, Ye, Yb, Yd, Yc, Yg, Ys, Yt, Yh, Yi, Yj, Yk, Yl, Ym, Yn, int_eq_le, Yo, Yp] at hgd); (try simp only [Act.put, Zs, Zz, Zc]); go_simp; (try simp (disch := omega) only [Yq, Yr]); (first | done | exact rfl | (intro _; exact rfl)))); simp only [Act.put, Zs, Zz, Zc])); (first | go_big_quiet_step (fail) | (refine wpQuiet_liftE (wanted_T rfl rfl rfl) ?_; refine lift_put (n := 11) rfl (fun h => h) ?_; refine lift_load rfl rfl ?_; apply Exists.intro; refine ⟨fun hgd => ?_, ?_⟩; (focus ((try simp only [Ya, Ye, Yb, Yd, Yc, Yg, Ys, Yt, Yh, Yi, Yj, Yk, Yl, Ym, Yn, int_eq_le, Yo, Yp] at hgd); (try simp only [Act.put, Zs, Zz, Zc]); go_simp; (try simp (disch := omega) only [Yq, Yr]); (first | done | exact rfl | (intro _; exact rfl)))); simp only [Act.put, Zs, Zz, Zc])); (first | go_big_quiet_step (fail) | (refine wpQuiet_liftE (wanted_T rfl rfl rfl) ?_; (first | refine lift_moveL rfl rfl ?_ | refine lift_move rfl rfl ?_); simp only [Act.put, Zs, Zz, Zc])); (first | go_big_quiet_step (fail) | (refine wpQuiet_liftE (wanted_T rfl rfl rfl) ?_; (first | refine lift_moveL rfl rfl ?_ | refine lift_move rfl rfl ?_); simp only [Act.put, Zs, Zz, Zc])); (first | go_big_quiet_step (fail) | (refine wpQuiet_liftE (wanted_T rfl rfl rfl) ?_; refine lift_put (n := 14) rfl (fun h => h) ?_; refine lift_binOp_tc rfl rfl ?_; apply Exists.intro; refine ⟨fun hgd => ?_, ?_⟩; (focus ((try simp only [Ya, Ye, Yb, Yd, Yc, Yg, Ys, Yt, Yh, Yi, Yj, Yk, Yl, Ym, Yn, int_eq_le, Yo, Yp] at hgd); (try simp only [Act.put, Zs, Zz, Zc]); go_simp; (try simp (disch := omega) only [Yq, Yr]); (first | done | exact rfl | (intro _; exact rfl)))); simp only [Act.put, Zs, Zz, Zc])); (first | go_big_quiet_step (fail) | (refine wpQuiet_liftE (wanted_T rfl rfl rfl) ?_; refine lift_put (n := 13) rfl (fun h => h) ?_; refine lift_put (n := 15) rfl (fun h => h) ?_; refine lift_indexAddr_tt rfl rfl rfl ?_; apply Exists.intro; refine ⟨fun hgd => ?_, ?_⟩; (focus ((try simp only [Ya, Ye, Yb, Yd, Yc, Yg, Ys, Yt, Yh, Yi, Yj, Yk, Yl, Ym, Yn, int_eq_le, Yo, Yp] at hgd); (try simp only [Act.put, Zs, Zz, Zc]); go_simp; (try simp (disch := omega) only [Yq, Yr]); (first | done | exact rfl | (intro _; exact rfl)))); simp only [Act.put, Zs, Zz, Zc])); (first | go_big_quiet_step (fail) | (refine wpQuiet_liftE (wanted_T rfl rfl rfl) ?_; refine lift_put (n := 16) rfl (fun h => h) ?_; refine lift_fieldAddr rfl rfl ?_; apply Exists.intro; refine ⟨fun hgd => ?_, ?_⟩; (focus ((try simp only [Ya, Ye, Yb, Yd, Yc, Yg, Ys, Yt, Yh, Yi, Yj, Yk, Yl, Ym, Yn, int_eq_le, Yo, Yp] at hgd); (try simp only [Act.put, Zs, Zz, Zc]); go_simp; (try simp (disch := omega) only [Yq, Yr]); (first | done | exact rfl | (intro _; exact rfl)))); simp only [Act.put, Zs, Zz, Zc])); (first | go_big_quiet_step (fail) | (refine wpQuiet_liftE (wanted_T rfl rfl rfl) ?_; refine lift_put (n := 17) rfl (fun h => h) ?_; refine lift_load rfl rfl ?_; apply Exists.intro; refine ⟨fun hgd => ?_, ?_⟩; (focus ((try simp only [Ya, Ye, Yb, Yd, Yc, Yg, Ys, Yt, Yh, Yi, Yj, Yk, Yl, Ym, Yn, int_eq_le, Yo, Yp] at hgd); (try simp only [Act.put, Zs, Zz, Zc]); go_simp; (try simp (disch := omega) only [Yq, Yr]); (first | done | exact rfl | (intro _; exact rfl)))); simp only [Act.put, Zs, Zz, Zc])); (first | go_big_quiet_step (fail) | (refine wpQuiet_liftE (wanted_T rfl rfl rfl) ?_; refine lift_put (n := 12) rfl (fun h => h) ?_; refine lift_put (n := 18) rfl (fun h => h) ?_; refine lift_binOp_tt rfl rfl rfl ?_; apply Exists.intro; refine ⟨fun hgd => ?_, ?_⟩; (focus ((try simp only [Ya, Ye, Yb, Yd, Yc, Yg, Ys, Yt, Yh, Yi, Yj, Yk, Yl, Ym, Yn, int_eq_le, Yo, Yp] at hgd); (try simp only [Act.put, Zs, Zz, Zc]); go_simp; (try simp (disch := omega) only [Yq, Yr]); (first | done | exact rfl | (intro _; exact rfl)))); simp only [Act.put, Zs, Zz, Zc])); (first | (refine wpQuiet_pick_and rfl rfl rfl rfl ?_; simp only [Act.put, Zs, Zz, Zc]) | go_big_quiet_step (fail)); (with_reducible refine wpQuiet_nil ?_); intro wq hwq; obtain ⟨nq, hwq2⟩ := hwq; subst hwq2)) | ((fail_if_success go_not_at_region 3); go_region))
  go_ret
  refine ⟨vA, rfl, ?_, ?_⟩
  · have e1 : (l ++ [y] ++ [(x1, x2)]).length = l.length + 1 + 1 := by simp
    have e2 : ivF (l ++ [y] ++ [(x1, x2)]) = ivF (l ++ [y]) ++ [.int .i64 x1, .int .i64 x2] := by rw [ivF_app]; rfl
    simp only [List.append_assoc, List.cons_append, List.nil_append] at e1 e2 hownA ⊢
    rw [e1, e2]
    exact hownA
  · refine Below.trans (below_le hb (Ext.below (by (exact Ext.of_below (by (repeat' (first | (with_reducible exact Below.refl _ _) | (with_reducible assumption) | (with_reducible refine Below.alloc ?_ ?_ _) | (with_reducible refine Below.wext ?_ ?_ _ _) | (with_reducible refine Below.drew ?_) | (with_reducible refine Below.setCell ?_ ?_ _) | (with_reducible exact Nat.le_refl _) | (with_reducible refine Below.drewN' ?_ _) | (simp; omega) | (simp; done)))))))) (below_of_grown hgrA (by simp; omega) (fun k hk => ?_))
    have := (H.out.lt g rfl).1
    cases hk
    exact this

end Go.Proofs.Ytkdjbiekjgeafaa.Iv

set_option linter.unusedSimpArgs false
set_option linter.unusedVariables false
namespace Go.Proofs.Ytkdjbiekjgeafaa.Iv
open Go.RowKit

set_option maxRecDepth 100000 in
set_option maxHeartbeats 4000000 in
theorem put_nil (a : Option Addr) (c base : Nat) (x1 x2 : Int) (w : World) (hb : base ≤ w.heap.size)
    (h : w.ownsRow base 45 2 (.slice a 0 c) 0 []) :
    Calls Try.prog 61 #[.slice a 0 c, .agg #[.int .i64 x1, .int .i64 x2]] w (putPost base [(x1, x2)] w) := by
  obtain ⟨i0, hi0, hz0, hs0, hy0⟩ := infoIv_parts
  have H : Hid (w.ownsRow base 45 2 (.slice a 0 c) 0 []) := h
  clear h
  go_enter Try.func61, Try.ntmps61
  go_upto_region 2 with fail
  go_region
  go_wp2_with (first | (at_builtin; have tokA : True := trivial; refine wpList_append_own _ rfl _ _ 29 rfl base 45 i0 (.agg #[.int .i64 0, .int .i64 0]) 2 16 Try.underlying29 hi0 hz0 hs0 hy0 rfl (by decide) _ _ _ rfl (own_ext H.out (by (exact Ext.of_below (by (repeat' (first | (with_reducible exact Below.refl _ _) | (with_reducible assumption) | (with_reducible refine Below.alloc ?_ ?_ _) | (with_reducible refine Below.wext ?_ ?_ _ _) | (with_reducible refine Below.drew ?_) | (with_reducible refine Below.setCell ?_ ?_ _) | (with_reducible exact Nat.le_refl _) | (with_reducible refine Below.drewN' ?_ _) | (simp; omega) | (simp; done))))))) ⟨_, 0, none⟩ 1 1 [.int .i64 x1, .int .i64 x2] rfl rfl (cells_new2 _ _ _ _ (by simp)) (by simp [Value.oneCell']) (by unfold maxLen; omega) (by omega) (by simp; omega) ?_; intro vA wA hownA hgrA _))
  go_ret
  refine ⟨vA, rfl, hownA, ?_⟩
  refine Below.trans (below_le hb (Ext.below (by (exact Ext.of_below (by (repeat' (first | (with_reducible exact Below.refl _ _) | (with_reducible assumption) | (with_reducible refine Below.alloc ?_ ?_ _) | (with_reducible refine Below.wext ?_ ?_ _ _) | (with_reducible refine Below.drew ?_) | (with_reducible refine Below.setCell ?_ ?_ _) | (with_reducible exact Nat.le_refl _) | (with_reducible refine Below.drewN' ?_ _) | (simp; omega) | (simp; done)))))))) (below_of_grown hgrA (by simp; omega) (fun k hk => ?_))
  exact (H.out.lt k hk).1

set_option maxRecDepth 100000 in
set_option maxHeartbeats 8000000 in
theorem put_join (l : List (Int × Int)) (y : Int × Int) (g cap base : Nat) (x1 x2 : Int) (w : World) (hb : base ≤ w.heap.size) (hn : l.length ≤ 1000) (hx : x1 ≤ y.2)
    (h : w.ownsRow base 45 2 (.slice (some ⟨g, 0, none⟩) (l.length + 1) cap) (l.length + 1) (ivF (l ++ [y]))) :
    Calls Try.prog 61 #[.slice (some ⟨g, 0, none⟩) (l.length + 1) cap, .agg #[.int .i64 x1, .int .i64 x2]] w (putPost base (l ++ [(y.1, if x2 ≤ y.2 then y.2 else x2)]) w) := by
  have H : Hid (w.ownsRow base 45 2 (.slice (some ⟨g, 0, none⟩) (l.length + 1) cap) (l.length + 1) (ivF (l ++ [y]))) := h
  have zg : LtD g w.heap.size := (h.lt g rfl).2
  have c1 : w.cell? ⟨g, l.length * 2 + 1, none⟩ = some (.int .i64 y.2) := by
    rw [h.cellAt _ (by omega), ivF_snd (l ++ [y]) l.length (by simp)]
    simp
  have f1 : w.frozen? ⟨g, l.length * 2 + 1, none⟩ = false := h.frozenAt _
  have hd : decide (x1 ≤ y.2) = true := by simpa using hx
  clear h
  go_enter Try.func61, Try.ntmps61
  go_upto_region 3 with (first | ((with_reducible (apply wp_cond_split)); rfl; (all_goals intro hcd); (all_goals (first | (exfalso; exact Bool.noConfusion hcd) | ((try simp only [hcd]); go_prune)))) | ((fail_if_success go_not_at_region 2); ((with_reducible refine wp_region_quiet_lit ?_ ?_ ?_); kernel_rfl; kernel_rfl; (first | go_big_quiet_step (fail) | quiet_step (fail)); (first | go_big_quiet_step (fail) | quiet_step (fail)); (first | go_big_quiet_step (fail) | quiet_step (fail)); (first | go_big_quiet_step (fail) | (refine wpQuiet_liftE (wanted_T rfl rfl rfl) ?_; refine lift_fieldAddr rfl rfl ?_; apply Exists.intro; refine ⟨fun hgd => ?_, ?_⟩; (focus ((try simp only [Ya, Ye, Yb, Yd, Yc, Yg, Ys, Yt, Yh, Yi, Yj, Yk, Yl, Ym, Yn, int_eq_le, Yo, Yp] at hgd); (try simp only [Act.put, Zs, Zz, Zc]); go_simp; (try simp (disch := omega) only [Yq, Yr]); (first | done | exact rfl | (intro _; exact rfl)))); simp only [Act.put, Zs, Zz, Zc])); (first | go_big_quiet_step (fail) | (refine wpQuiet_liftE (wanted_T rfl rfl rfl) ?_; refine lift_put (n := 11) rfl (fun h => h) ?_; refine lift_load rfl rfl ?_; apply Exists.intro; refine ⟨fun hgd => ?_, ?_⟩; (focus ((try simp only [Ya, Ye, Yb, Yd, Yc, Yg, Ys, Yt, Yh, Yi, Yj, Yk, Yl, Ym, Yn, int_eq_le, Yo, Yp] at hgd); (try simp only [Act.put, Zs, Zz, Zc]); go_simp; (try simp (disch := omega) only [Yq, Yr]); (first | done | exact rfl | (intro _; exact rfl)))); simp only [Act.put, Zs, Zz, Zc])); (first | go_big_quiet_step (fail) | (refine wpQuiet_liftE (wanted_T rfl rfl rfl) ?_; (first | refine lift_moveL rfl rfl ?_ | refine lift_move rfl rfl ?_); simp only [Act.put, Zs, Zz, Zc])); (first | go_big_quiet_step (fail) | (refine wpQuiet_liftE (wanted_T rfl rfl rfl) ?_; (first | refine lift_moveL rfl rfl ?_ | refine lift_move rfl rfl ?_); simp only [Act.put, Zs, Zz, Zc])); (first | go_big_quiet_step (fail) | (refine wpQuiet_liftE (wanted_T rfl rfl rfl) ?_; refine lift_put (n := 14) rfl (fun h => h) ?_; refine lift_binOp_tc rfl rfl ?_; apply Exists.intro; refine ⟨fun hgd => ?_, ?_⟩; (focus ((try simp only [Ya, Ye, Yb, Yd, Yc, Yg, Ys, Yt, Yh, Yi, Yj, Yk, Yl, Ym, Yn, int_eq_le, Yo, Yp] at hgd); (try simp only [Act.put, Zs, Zz, Zc]); go_simp; (try simp (disch := omega) only [Yq, Yr]); (first | done | exact rfl | (intro _; exact rfl)))); simp only [Act.put, Zs, Zz, Zc])); (first | go_big_quiet_step (fail) | (refine wpQuiet_liftE (wanted_T rfl rfl rfl) ?_; refine lift_put (n := 13) rfl (fun h => h) ?_; refine lift_put (n := 15) rfl (fun h => h) ?_; refine lift_indexAddr_tt rfl rfl rfl ?_; apply Exists.intro; refine ⟨fun hgd => ?_, ?_⟩; (focus ((try simp only [Ya, Ye, Yb, Yd, Yc, Yg, Ys, Yt, Yh, Yi, Yj, Yk, Yl, Ym, Yn, int_eq_le, Yo, Yp] at hgd); (try simp only [Act.put, Zs, Zz, Zc]); go_simp; (try simp (disch := omega) only [Yq, Yr]); (first | done | exact rfl | (intro _; exact rfl)))); simp only [Act.put, Zs, Zz, Zc])); (first | go_big_quiet_step (fail) | (refine wpQuiet_liftE (wanted_T rfl rfl rfl) ?_; refine lift_put (n := 16) rfl (fun h => h) ?_; refine lift_fieldAddr rfl rfl ?_; apply Exists.intro; refine ⟨fun hgd => ?_, ?_⟩; (focus ((try simp only [Ya, Ye, Yb, Yd, Yc, Yg, Ys, Yt, Yh, Yi, Yj, Yk, Yl, Ym, Yn, int_eq_le, Yo, Yp] at hgd); (try simp only [Act.put, Zs, Zz, Zc]); go_simp; (try simp (disch := omega) only [Yq, Yr]); (first | done | exact rfl | (intro _; exact rfl)))); simp only [Act.put, Zs, Zz, Zc])); (first | go_big_quiet_step (fail) | (refine wpQuiet_liftE (wanted_T rfl rfl rfl) ?_; refine lift_put (n := 17) rfl (fun h => h) ?_; refine lift_load rfl rfl ?_; apply Exists.intro; refine ⟨fun hgd => ?_, ?_⟩; (focus ((try simp only [Ya, Ye, Yb, Yd, Yc, Yg, Ys, Yt, Yh, Yi, Yj, Yk, Yl, Ym, Yn, int_eq_le, Yo, Yp] at hgd); (try simp only [Act.put, Zs, Zz, Zc]); go_simp; (try simp (disch := omega) only [Yq, Yr]); (first | done | exact rfl | (intro _; exact rfl)))); simp only [Act.put, Zs, Zz, Zc])); (first | go_big_quiet_step (fail) | (refine wpQuiet_liftE (wanted_T rfl rfl rfl) ?_; refine lift_put (n := 12) rfl (fun h => h) ?_; refine lift_put (n := 18) rfl (fun h => h) ?_; refine lift_binOp_tt rfl rfl rfl ?_; apply Exists.intro; refine ⟨fun hgd => ?_, ?_⟩; (focus ((try simp only [Ya, Ye, Yb, Yd, Yc, Yg, Ys, Yt, Yh, Yi, Yj, Yk, Yl, Ym, Yn, int_eq_le, Yo, Yp] at hgd); (try simp only [Act.put, Zs, Zz, Zc]); go_simp; (try simp (disch := omega) only [Yq, Yr]); (first | done | exact rfl | (intro _; exact rfl)))); simp only [Act.put, Zs, Zz, Zc])); (first | (refine wpQuiet_pick_and rfl rfl rfl rfl ?_; simp only [Act.put, Zs, Zz, Zc]) | go_big_quiet_step (fail)); (with_reducible refine wpQuiet_nil ?_); intro wq hwq; obtain ⟨nq, hwq2⟩ := hwq; subst hwq2)) | ((fail_if_success go_not_at_region 3); go_region))
  go_region
  go_wp2_with fail
  · go_ret
    refine ⟨_, rfl, ?_, ?_⟩
    · have e : (l ++ [(y.1, y.2)]).length = l.length + 1 := by simp
      rw [← ivF_set, e]
      exact own_set (own_ext H.out (by (exact Ext.of_below (by (repeat' (first | (with_reducible exact Below.refl _ _) | (with_reducible assumption) | (with_reducible refine Below.alloc ?_ ?_ _) | (with_reducible refine Below.wext ?_ ?_ _ _) | (with_reducible refine Below.drew ?_) | (with_reducible refine Below.setCell ?_ ?_ _) | (with_reducible exact Nat.le_refl _) | (with_reducible refine Below.drewN' ?_ _) | (simp; omega) | (simp; done))))))) (by omega)
    · have hg := (H.out.lt g rfl).1
      refine Below.setCell ?_ hg _
      exact below_le hb (Ext.below (by (exact Ext.of_below (by (repeat' (first | (with_reducible exact Below.refl _ _) | (with_reducible assumption) | (with_reducible refine Below.alloc ?_ ?_ _) | (with_reducible refine Below.wext ?_ ?_ _ _) | (with_reducible refine Below.drew ?_) | (with_reducible refine Below.setCell ?_ ?_ _) | (with_reducible exact Nat.le_refl _) | (with_reducible refine Below.drewN' ?_ _) | (simp; omega) | (simp; done)))))))
  · go_ret
    refine ⟨_, rfl, ?_, ?_⟩
    · have e : (l ++ [(y.1, x2)]).length = l.length + 1 := by simp
      rw [← ivF_set, e]
      exact own_set (own_ext H.out (by (exact Ext.of_below (by (repeat' (first | (with_reducible exact Below.refl _ _) | (with_reducible assumption) | (with_reducible refine Below.alloc ?_ ?_ _) | (with_reducible refine Below.wext ?_ ?_ _ _) | (with_reducible refine Below.drew ?_) | (with_reducible refine Below.setCell ?_ ?_ _) | (with_reducible exact Nat.le_refl _) | (with_reducible refine Below.drewN' ?_ _) | (simp; omega) | (simp; done))))))) (by omega)
    · have hg := (H.out.lt g rfl).1
      refine Below.setCell ?_ hg _
      exact below_le hb (Ext.below (by (exact Ext.of_below (by (repeat' (first | (with_reducible exact Below.refl _ _) | (with_reducible assumption) | (with_reducible refine Below.alloc ?_ ?_ _) | (with_reducible refine Below.wext ?_ ?_ _ _) | (with_reducible refine Below.drew ?_) | (with_reducible refine Below.setCell ?_ ?_ _) | (with_reducible exact Nat.le_refl _) | (with_reducible refine Below.drewN' ?_ _) | (simp; omega) | (simp; done)))))))

set_option maxRecDepth 100000 in
/-- put: the list with the interval, in a row of its own. -/
theorem put_any (l : List (Int × Int)) (v : Value) (base : Nat) (x1 x2 : Int) (w : World) (hb : base ≤ w.heap.size) (hn : l.length ≤ 1000)
    (h : w.ownsRow base 45 2 v l.length (ivF l)) :
    Calls Try.prog 61 #[v, .agg #[.int .i64 x1, .int .i64 x2]] w (putPost base (putI l (x1, x2)) w) := by
  rcases List.eq_nil_or_concat l with rfl | ⟨l', y, rfl⟩
  · have hv : ∃ a c, v = .slice a 0 c := by
      rcases h.2 with ⟨hv, _⟩ | ⟨g, cap, cur, hv, _⟩
      · exact ⟨none, 0, hv⟩
      · exact ⟨_, cap, hv⟩
    obtain ⟨a, c, rfl⟩ := hv
    exact put_nil a c base x1 x2 w hb h
  · have e : (l' ++ [y]).length = l'.length + 1 := by simp
    simp only [List.concat_eq_append] at h hn ⊢
    rw [e] at h hn
    obtain ⟨g, cap, rfl, _, _⟩ := h.form (by omega)
    rw [putI_app]
    by_cases hx : x1 ≤ y.2
    · rw [if_pos hx]
      exact put_join l' y g cap base x1 x2 w hb (by omega) hx h
    · rw [if_neg hx]
      exact put_app l' y g cap base x1 x2 w hb (by omega) hx h

end Go.Proofs.Ytkdjbiekjgeafaa.Iv

set_option linter.unusedSimpArgs false
set_option linter.unusedVariables false
namespace Go.Proofs.Ytkdjbiekjgeafaa.Iv
open Go.RowKit

/-- The error of the first of two lists that has one. -/
def bothI (a b : List (Int × Int)) : Int := if chkI a = 0 then chkI b else chkI a
set_option maxRecDepth 100000 in
set_option maxHeartbeats 4000000 in
theorem both_any (a b : List (Int × Int)) (v u : Value) (w : World) (hv : isSl w v 2 a.length (ivF a)) (hu : isSl w u 2 b.length (ivF b)) :
    Calls Try.prog 60 #[v, u] w fun e w' => e = .returned (.int .i64 (bothI a b)) ∧ Ext w w' := by
  have HV : Hid (isSl w v 2 a.length (ivF a)) := hv
  have HU : Hid (isSl w u 2 b.length (ivF b)) := hu
  by_cases h : chkI a = 0
  · have e1 : (chkI a != 0) = false := by simp [h]
    have HB : Hid (bothI a b = chkI b) := by show bothI a b = _; unfold bothI; rw [if_pos h]
    clear hv hu h
    go_enter Try.func60, Try.ntmps60
    go_upto_region 2 with (first | (go_at_call 21; refine (chk_any a v _ (HV.out.ext (by (exact Ext.of_below (by (repeat' (first | (with_reducible exact Below.refl _ _) | (with_reducible assumption) | (with_reducible refine Below.alloc ?_ ?_ _) | (with_reducible refine Below.wext ?_ ?_ _ _) | (with_reducible refine Below.drew ?_) | (with_reducible refine Below.setCell ?_ ?_ _) | (with_reducible exact Nat.le_refl _) | (with_reducible refine Below.drewN' ?_ _) | (simp; omega) | (simp; done)))))))).mono ?_; rintro e w1 ⟨rfl, os1, n1, rfl⟩))
    go_upto_region 9999 with (first | (go_at_call 21; refine (chk_any b u _ (HU.out.ext (by (exact Ext.of_below (by (repeat' (first | (with_reducible exact Below.refl _ _) | (with_reducible assumption) | (with_reducible refine Below.alloc ?_ ?_ _) | (with_reducible refine Below.wext ?_ ?_ _ _) | (with_reducible refine Below.drew ?_) | (with_reducible refine Below.setCell ?_ ?_ _) | (with_reducible exact Nat.le_refl _) | (with_reducible refine Below.drewN' ?_ _) | (simp; omega) | (simp; done)))))))).mono ?_; rintro e w1 ⟨rfl, os2, n2, rfl⟩))
    all_goals go_ret
    all_goals (rw [HB.out]; exact ⟨rfl, by (exact Ext.of_below (by (repeat' (first | (with_reducible exact Below.refl _ _) | (with_reducible assumption) | (with_reducible refine Below.alloc ?_ ?_ _) | (with_reducible refine Below.wext ?_ ?_ _ _) | (with_reducible refine Below.drew ?_) | (with_reducible refine Below.setCell ?_ ?_ _) | (with_reducible exact Nat.le_refl _) | (with_reducible refine Below.drewN' ?_ _) | (simp; omega) | (simp; done)))))⟩)
  · have e1 : (chkI a != 0) = true := by simp [h]
    have HB : Hid (bothI a b = chkI a) := by show bothI a b = _; unfold bothI; rw [if_neg h]
    clear hv hu h
    go_enter Try.func60, Try.ntmps60
    go_upto_region 9999 with (first | (go_at_call 21; refine (chk_any a _ _ (HV.out.ext (by (exact Ext.of_below (by (repeat' (first | (with_reducible exact Below.refl _ _) | (with_reducible assumption) | (with_reducible refine Below.alloc ?_ ?_ _) | (with_reducible refine Below.wext ?_ ?_ _ _) | (with_reducible refine Below.drew ?_) | (with_reducible refine Below.setCell ?_ ?_ _) | (with_reducible exact Nat.le_refl _) | (with_reducible refine Below.drewN' ?_ _) | (simp; omega) | (simp; done)))))))).mono ?_; rintro e w1 ⟨rfl, os1, n1, rfl⟩))
    all_goals go_ret
    all_goals (rw [HB.out]; exact ⟨rfl, by (exact Ext.of_below (by (repeat' (first | (with_reducible exact Below.refl _ _) | (with_reducible assumption) | (with_reducible refine Below.alloc ?_ ?_ _) | (with_reducible refine Below.wext ?_ ?_ _ _) | (with_reducible refine Below.drew ?_) | (with_reducible refine Below.setCell ?_ ?_ _) | (with_reducible exact Nat.le_refl _) | (with_reducible refine Below.drewN' ?_ _) | (simp; omega) | (simp; done)))))⟩)

/-- The list of an interval. -/
def oneI (x : Int × Int) : List (Int × Int) := if x.1 = x.2 then [] else [x]
set_option maxRecDepth 100000 in
set_option maxHeartbeats 4000000 in
theorem one_any (f t : Int) (w : World) :
    Calls Try.prog 23 #[.agg #[.int .i64 f, .int .i64 t]] w fun e w' => ∃ v, e = .returned v ∧ isSl w' v 2 (oneI (f, t)).length (ivF (oneI (f, t))) ∧ Ext w w' := by
  by_cases h : f = t
  · have e1 : (f == t) = true := by simp [h]
    have HO : Hid (oneI (f, t) = []) := by show oneI (f, t) = []; unfold oneI; rw [if_pos h]
    clear h
    go_enter Try.func23, Try.ntmps23
    go_wp2_with fail
    all_goals go_ret
    all_goals (rw [HO.out]; exact ⟨_, rfl, isSl_nil _ _, by (exact Ext.of_below (by (repeat' (first | (with_reducible exact Below.refl _ _) | (with_reducible assumption) | (with_reducible refine Below.alloc ?_ ?_ _) | (with_reducible refine Below.wext ?_ ?_ _ _) | (with_reducible refine Below.drew ?_) | (with_reducible refine Below.setCell ?_ ?_ _) | (with_reducible exact Nat.le_refl _) | (with_reducible refine Below.drewN' ?_ _) | (simp; omega) | (simp; done)))))⟩)
  · have e1 : (f == t) = false := by simp [h]
    have HO : Hid (oneI (f, t) = [(f, t)]) := by show oneI (f, t) = _; unfold oneI; rw [if_neg h]
    clear h
    go_enter Try.func23, Try.ntmps23
    go_wp2_with fail
    all_goals go_ret
    all_goals (rw [HO.out]; exact ⟨_, rfl, isSl_new1 _ _ [.int .i64 f, .int .i64 t] _ (by simp), by (exact Ext.of_below (by (repeat' (first | (with_reducible exact Below.refl _ _) | (with_reducible assumption) | (with_reducible refine Below.alloc ?_ ?_ _) | (with_reducible refine Below.wext ?_ ?_ _ _) | (with_reducible refine Below.drew ?_) | (with_reducible refine Below.setCell ?_ ?_ _) | (with_reducible exact Nat.le_refl _) | (with_reducible refine Below.drewN' ?_ _) | (simp; omega) | (simp; done)))))⟩)

end Go.Proofs.Ytkdjbiekjgeafaa.Iv

set_option linter.unusedSimpArgs false
set_option linter.unusedVariables false
namespace Go.Proofs.Ytkdjbiekjgeafaa.Iv
open Go.RowKit

/-- Two lists in the order in which Union takes them. -/
def mergeI : List (Int × Int) → List (Int × Int) → List (Int × Int)
  | [], b => b
  | x :: a, [] => x :: a
  | x :: a, y :: b => if x.1 ≤ y.1 then x :: mergeI a (y :: b) else y :: mergeI (x :: a) b
termination_by a b => a.length + b.length
set_option maxRecDepth 100000 in
theorem mergeI_nil (a : List (Int × Int)) : mergeI a [] = a := by cases a <;> simp [mergeI]
set_option maxRecDepth 100000 in
theorem merge_left (x : Int × Int) (a b : List (Int × Int)) (h : ∀ y b', b = y :: b' → x.1 ≤ y.1) : mergeI (x :: a) b = x :: mergeI a b := by
  cases b with
  | nil => rw [mergeI_nil, mergeI_nil]
  | cons y b => rw [mergeI, if_pos (h y b rfl)]
set_option maxRecDepth 100000 in
theorem merge_right (y : Int × Int) (a b : List (Int × Int)) (h : ∀ x a', a = x :: a' → ¬ x.1 ≤ y.1) : mergeI a (y :: b) = y :: mergeI a b := by
  cases a with
  | nil => simp [mergeI]
  | cons x a => rw [mergeI, if_neg (h x a rfl)]
/-- Union's list. -/
def uniL (a b : List (Int × Int)) : List (Int × Int) := (mergeI a b).foldl putI []
set_option maxRecDepth 100000 in
theorem putI_len (l : List (Int × Int)) (x : Int × Int) : (putI l x).length ≤ l.length + 1 := by
  rcases List.eq_nil_or_concat l with rfl | ⟨l', y, rfl⟩
  · simp [putI]
  · rw [List.concat_eq_append, putI_app]
    split <;> simp

end Go.Proofs.Ytkdjbiekjgeafaa.Iv
