/- Rangetree: the reference: Valid, End, Overlap. -/
import Derived.Test.YtnbohogkfdeddaaRtx
import Derived.Test.YtnbohogkfdeddaaWk2
set_option linter.unusedSimpArgs false
set_option linter.unusedVariables false
namespace Go.Proofs.Ytnbohogkfdeddaa
open Go.RowKit

set_option maxRecDepth 100000 in
set_option maxHeartbeats 4000000 in
theorem rend_any (x : RV) (w : World) (hv : vld x) :
    Calls Try.prog 54 #[.agg x.cs.toArray] w fun e w' => e = .returned (.int .i64 x.e) ∧ Ext w w' := by
  obtain ⟨h1, h2, h3, h4⟩ := hv
  go_enter Try.func54, Try.ntmps54
  go_wp2_with fail
  go_ret
  exact ⟨rfl, by (exact Ext.of_below (by (repeat' (first | (with_reducible exact Below.refl _ _) | (with_reducible assumption) | (with_reducible refine Below.alloc ?_ ?_ _) | (with_reducible refine Below.wext ?_ ?_ _ _) | (with_reducible refine Below.drew ?_) | (with_reducible refine Below.setCell ?_ ?_ _) | (with_reducible exact Nat.le_refl _) | (with_reducible refine Below.drewN' ?_ _) | (simp; omega) | (simp; done)))))⟩
set_option maxRecDepth 100000 in
set_option maxHeartbeats 4000000 in
theorem rvalid_any (x : RV) (w : World) :
    Calls Try.prog 38 #[.agg x.cs.toArray] w fun e w' => e = .returned (.bool (vldB x)) ∧ Ext w w' := by
  go_enter Try.func38, Try.ntmps38
  go_upto_region 9999 with (first | ((with_reducible (apply wp_cond_split)); rfl; (all_goals intro hcd); (all_goals (first | (exfalso; exact Bool.noConfusion hcd) | ((try simp only [hcd]); go_prune)))) | ((fail_if_success go_not_at_region 1); ((with_reducible refine wp_region_same ?_); (first | go_big_quiet_step (fail) | quiet_step (fail)); (first | go_big_quiet_step (fail) | quiet_step (fail)); (first | go_big_quiet_step (fail) | quiet_step (fail)); (first | go_big_quiet_step (fail) | quiet_step (fail)); (first | go_big_quiet_step (fail) | (refine wpQuiet_liftE (wanted_T rfl rfl rfl) ?_; refine lift_fieldAddr rfl rfl ?_; apply Exists.intro; refine ⟨fun hgd => ?_, ?_⟩; (focus ((try simp only [Ya, Ye, Yb, Yd, Yc, Yg, Ys, Yt, Yh, Yi, Yj, Yk, Yl, Ym, Yn, int_eq_le, Yo, Yp] at hgd); (try simp only [Act.put, Zs, Zz, Zc]); go_simp; (try simp (disch := omega) only [Yq, Yr]); (first | done | exact rfl | (intro _; exact rfl)))); simp only [Act.put, Zs, Zz, Zc])); (first | go_big_quiet_step (fail) | (refine wpQuiet_liftE (wanted_T rfl rfl rfl) ?_; refine lift_put (n := 7) rfl (fun h => h) ?_; refine lift_load rfl rfl ?_; apply Exists.intro; refine ⟨fun hgd => ?_, ?_⟩; (focus ((try simp only [Ya, Ye, Yb, Yd, Yc, Yg, Ys, Yt, Yh, Yi, Yj, Yk, Yl, Ym, Yn, int_eq_le, Yo, Yp] at hgd); (try simp only [Act.put, Zs, Zz, Zc]); go_simp; (try simp (disch := omega) only [Yq, Yr]); (first | done | exact rfl | (intro _; exact rfl)))); simp only [Act.put, Zs, Zz, Zc])); (first | go_big_quiet_step (fail) | (refine wpQuiet_liftE (wanted_T rfl rfl rfl) ?_; refine lift_put (n := 8) rfl (fun h => h) ?_; refine lift_binOp_tc rfl rfl ?_; apply Exists.intro; refine ⟨fun hgd => ?_, ?_⟩; (focus ((try simp only [Ya, Ye, Yb, Yd, Yc, Yg, Ys, Yt, Yh, Yi, Yj, Yk, Yl, Ym, Yn, int_eq_le, Yo, Yp] at hgd); (try simp only [Act.put, Zs, Zz, Zc]); go_simp; (try simp (disch := omega) only [Yq, Yr]); (first | done | exact rfl | (intro _; exact rfl)))); simp only [Act.put, Zs, Zz, Zc])); (first | (refine wpQuiet_pick_and rfl rfl rfl rfl ?_; simp only [Act.put, Zs, Zz, Zc]) | go_big_quiet_step (fail)); (first | go_big_quiet_step (fail) | quiet_step (fail)); (first | go_big_quiet_step (fail) | (refine wpQuiet_liftE (wanted_T rfl rfl rfl) ?_; refine lift_fieldAddr rfl rfl ?_; apply Exists.intro; refine ⟨fun hgd => ?_, ?_⟩; (focus ((try simp only [Ya, Ye, Yb, Yd, Yc, Yg, Ys, Yt, Yh, Yi, Yj, Yk, Yl, Ym, Yn, int_eq_le, Yo, Yp] at hgd); (try simp only [Act.put, Zs, Zz, Zc]); go_simp; (try simp (disch := omega) only [Yq, Yr]); (first | done | exact rfl | (intro _; exact rfl)))); simp only [Act.put, Zs, Zz, Zc])); (first | go_big_quiet_step (fail) | (refine wpQuiet_liftE (wanted_T rfl rfl rfl) ?_; refine lift_put (n := 12) rfl (fun h => h) ?_; refine lift_load rfl rfl ?_; apply Exists.intro; refine ⟨fun hgd => ?_, ?_⟩; (focus ((try simp only [Ya, Ye, Yb, Yd, Yc, Yg, Ys, Yt, Yh, Yi, Yj, Yk, Yl, Ym, Yn, int_eq_le, Yo, Yp] at hgd); (try simp only [Act.put, Zs, Zz, Zc]); go_simp; (try simp (disch := omega) only [Yq, Yr]); (first | done | exact rfl | (intro _; exact rfl)))); simp only [Act.put, Zs, Zz, Zc])); (first | go_big_quiet_step (fail) | (refine wpQuiet_liftE (wanted_T rfl rfl rfl) ?_; refine lift_put (n := 13) rfl (fun h => h) ?_; refine lift_binOp_tc rfl rfl ?_; apply Exists.intro; refine ⟨fun hgd => ?_, ?_⟩; (focus ((try simp only [Ya, Ye, Yb, Yd, Yc, Yg, Ys, Yt, Yh, Yi, Yj, Yk, Yl, Ym, Yn, int_eq_le, Yo, Yp] at hgd); (try simp only [Act.put, Zs, Zz, Zc]); go_simp; (try simp (disch := omega) only [Yq, Yr]); (first | done | exact rfl | (intro _; exact rfl)))); simp only [Act.put, Zs, Zz, Zc])); (first | (refine wpQuiet_pick_and rfl rfl rfl rfl ?_; simp only [Act.put, Zs, Zz, Zc]) | go_big_quiet_step (fail)); (first | go_big_quiet_step (fail) | quiet_step (fail)); (first | go_big_quiet_step (fail) | (refine wpQuiet_liftE (wanted_T rfl rfl rfl) ?_; refine lift_fieldAddr rfl rfl ?_; apply Exists.intro; refine ⟨fun hgd => ?_, ?_⟩; (focus ((try simp only [Ya, Ye, Yb, Yd, Yc, Yg, Ys, Yt, Yh, Yi, Yj, Yk, Yl, Ym, Yn, int_eq_le, Yo, Yp] at hgd); (try simp only [Act.put, Zs, Zz, Zc]); go_simp; (try simp (disch := omega) only [Yq, Yr]); (first | done | exact rfl | (intro _; exact rfl)))); simp only [Act.put, Zs, Zz, Zc])); (first | go_big_quiet_step (fail) | (refine wpQuiet_liftE (wanted_T rfl rfl rfl) ?_; refine lift_put (n := 17) rfl (fun h => h) ?_; refine lift_load rfl rfl ?_; apply Exists.intro; refine ⟨fun hgd => ?_, ?_⟩; (focus ((try simp only [Ya, Ye, Yb, Yd, Yc, Yg, Ys, Yt, Yh, Yi, Yj, Yk, Yl, Ym, Yn, int_eq_le, Yo, Yp] at hgd); (try simp only [Act.put, Zs, Zz, Zc]); go_simp; (try simp (disch := omega) only [Yq, Yr]); (first | done | exact rfl | (intro _; exact rfl)))); simp only [Act.put, Zs, Zz, Zc])); (first | go_big_quiet_step (fail) | (refine wpQuiet_liftE (wanted_T rfl rfl rfl) ?_; refine lift_fieldAddr rfl rfl ?_; apply Exists.intro; refine ⟨fun hgd => ?_, ?_⟩; (focus ((try simp only [Ya, Ye, Yb, Yd, Yc, Yg, Ys, Yt, Yh, Yi, Yj, Yk, Yl, Ym, Yn, int_eq_le, Yo, Yp] at hgd); (try simp only [Act.put, Zs, Zz, Zc]); go_simp; (try simp (disch := omega) only [Yq, Yr]); (first | done | exact rfl | (intro _; exact rfl)))); simp only [Act.put, Zs, Zz, Zc])); (first | go_big_quiet_step (fail) | (refine wpQuiet_liftE (wanted_T rfl rfl rfl) ?_; refine lift_put (n := 19) rfl (fun h => h) ?_; refine lift_load rfl rfl ?_; apply Exists.intro; refine ⟨fun hgd => ?_, ?_⟩; (focus ((try simp only [Ya, Ye, Yb, Yd, Yc, Yg, Ys, Yt, Yh, Yi, Yj, Yk, Yl, Ym, Yn, int_eq_le, Yo, Yp] at hgd); (try simp only [Act.put, Zs, Zz, Zc]); go_simp; (try simp (disch := omega) only [Yq, Yr]); (first | done | exact rfl | (intro _; exact rfl)))); simp only [Act.put, Zs, Zz, Zc])); (first | go_big_quiet_step (fail) | (refine wpQuiet_liftE (wanted_T rfl rfl rfl) ?_; refine lift_put (n := 20) rfl (fun h => h) ?_; refine lift_binOp_ct rfl rfl ?_; apply Exists.intro; refine ⟨fun hgd => ?_, ?_⟩; (focus ((try simp only [Ya, Ye, Yb, Yd, Yc, Yg, Ys, Yt, Yh, Yi, Yj, Yk, Yl, Ym, Yn, int_eq_le, Yo, Yp] at hgd); (try simp only [Act.put, Zs, Zz, Zc]); go_simp; (try simp (disch := omega) only [Yq, Yr]); (first | done | exact rfl | (intro _; exact rfl)))); simp only [Act.put, Zs, Zz, Zc])); (first | go_big_quiet_step (fail) | (refine wpQuiet_liftE (wanted_T rfl rfl rfl) ?_; refine lift_put (n := 18) rfl (fun h => h) ?_; refine lift_put (n := 21) rfl (fun h => h) ?_; refine lift_binOp_tt rfl rfl rfl ?_; apply Exists.intro; refine ⟨fun hgd => ?_, ?_⟩; (focus ((try simp only [Ya, Ye, Yb, Yd, Yc, Yg, Ys, Yt, Yh, Yi, Yj, Yk, Yl, Ym, Yn, int_eq_le, Yo, Yp] at hgd); (try simp only [Act.put, Zs, Zz, Zc]); go_simp; (try simp (disch := omega) only [Yq, Yr]); (first | done | exact rfl | (intro _; exact rfl)))); simp only [Act.put, Zs, Zz, Zc])); (first | (refine wpQuiet_pick_and rfl rfl rfl rfl ?_; simp only [Act.put, Zs, Zz, Zc]) | go_big_quiet_step (fail)); (first | go_big_quiet_step (fail) | quiet_step (fail)); (with_reducible refine wpQuiet_nil ?_); intro wq hwq; subst hwq)))
  go_ret
  exact ⟨rfl, by (exact Ext.of_below (by (repeat' (first | (with_reducible exact Below.refl _ _) | (with_reducible assumption) | (with_reducible refine Below.alloc ?_ ?_ _) | (with_reducible refine Below.wext ?_ ?_ _ _) | (with_reducible refine Below.drew ?_) | (with_reducible refine Below.setCell ?_ ?_ _) | (with_reducible exact Nat.le_refl _) | (with_reducible refine Below.drewN' ?_ _) | (simp; omega) | (simp; done)))))⟩
theorem rvalid_is (x : RV) (w : World) (b : Bool) (h : vldB x = b) :
    Calls Try.prog 38 #[.agg x.cs.toArray] w fun e w' => e = .returned (.bool b) ∧ Ext w w' := by
  subst h
  exact rvalid_any x w
def meetsB (a r : RV) : Bool := decide (a.s < r.e) && decide (r.s < a.e)
theorem meetsB_iff (a r : RV) : meetsB a r = true ↔ meets a r := by
  unfold meetsB meets
  simp
set_option maxRecDepth 100000 in
set_option maxHeartbeats 4000000 in
theorem rov_t (a b : RV) (w : World) (ha : vld a) (hb : vld b) (hc : (decide (a.s < b.e)) = true) :
    Calls Try.prog 39 #[.agg a.cs.toArray, .agg b.cs.toArray] w fun e w' => e = .returned (.bool (decide (b.s < a.e))) ∧ Ext w w' := by
  replace ha : Hid _ := ha
  replace hb : Hid _ := hb
  go_enter Try.func39, Try.ntmps39
  go_upto_region 1 with fail
  refine name_wX (fun W1 hW => ?_)
  have hE : Ext w W1 := by rw [hW]; repeat' (first | exact Ext.refl _ | apply Ext.al)
  have b0 : Blk W1 (w.heap.size) 25 a.cs := by rw [hW]; exact (Blk.newAt rfl).alloc _
  have b1 : Blk W1 (w.heap.size + 1) 25 b.cs := by rw [hW]; exact Blk.newAt (by simp)
  clear hW
  obtain ⟨r1, hr1⟩ : ∃ r, r = w.heap.size + 1 := ⟨_, rfl⟩
  rw [← hr1] at b1
  try rw [← hr1]
  obtain ⟨r0, hr0⟩ : ∃ r, r = w.heap.size := ⟨_, rfl⟩
  rw [← hr0] at b0
  try rw [← hr0]
  have q0 : w.heap.size ≤ r0 := by omega
  have q1 : r0 < r1 := by omega
  clear hr0 hr1
  have qz : r1 < W1.heap.size := b1.lt
  have x0 := b0
  have x1 := b1
  have hS : GrownX W1 [] W1 := GrownX.refl _ _
  refine wp_region_S (GrownX W1 []) (by kernel_rfl) ?_
  refine name_wd (fun W2 hW => ?_)
  have hx : Ext W1 W2 := by rw [hW]; exact ext_drew _
  clear hW
  replace hS := hS.ext hx
  replace b0 := b0.ext hx
  replace b1 := b1.ext hx
  replace hE := hE.trans hx
  clear hx
  replace qz : r1 < W2.heap.size := b1.lt
  refine wpAnyD_takeSL (i := 0) rfl (by kernel_rfl) (fun _ _ _ _ h => h) hS ?_
  apply Exists.intro
  refine ⟨Or.inl ⟨by rfl, ?_⟩, ?_⟩
  (focus (intro wz hz; go_simp; (try with_reducible rfl); done))
  (try simp only [Act.put, Zs, Zz, Zc])
  refine wpAnyD_takeSL (i := 1) rfl (by kernel_rfl) (fun _ _ _ _ h => h) hS ?_
  apply Exists.intro
  refine ⟨Or.inl ⟨by rfl, ?_⟩, ?_⟩
  (focus (intro wz hz; have zc := (GrownX.blk hz x0 (by first | decide | (simp; done) | (simp; omega) | omega)).cell 0; go_simp; (try with_reducible rfl); done))
  (try simp only [Act.put, Zs, Zz, Zc])
  refine wpAnyD_takeSL (i := 2) rfl (by kernel_rfl) (fun _ _ _ _ h => h) hS ?_
  apply Exists.intro
  refine ⟨Or.inl ⟨by rfl, ?_⟩, ?_⟩
  (focus (intro wz hz; (first | exact exec_ld 25 _ rfl rfl ((GrownX.blk hz x1 (by first | decide | (simp; done) | (simp; omega) | omega)).range) Try.underlying25 rfl (by exact Try.infoR))))
  (try simp only [Act.put, Zs, Zz, Zc])
  refine wpAnyD_oneL (i := 3) rfl (by kernel_rfl) (fun K hK => ?_)
  rw [if_pos (by rfl)]
  go_simp
  (go_at_call 54; refine (rend_any b _ hb.out).mono ?_; intro e W3 hpp; obtain ⟨rfl, hx⟩ := hpp)
  replace hS := hS.ext hx; (try dsimp only); refine hK.out _ _ (fun _ => hS) ?_; clear hK K; (try simp only [Act.put, Zs, Zz, Zc])
  replace b0 := b0.ext hx
  replace b1 := b1.ext hx
  replace hE := hE.trans hx
  clear hx
  replace qz : r1 < W3.heap.size := b1.lt
  refine wpAnyD_takeSL (i := 4) rfl (by kernel_rfl) (fun _ _ _ _ h => h) hS ?_
  apply Exists.intro
  refine ⟨Or.inl ⟨by rfl, ?_⟩, ?_⟩
  (focus (intro wz hz; go_simp; (try simp (disch := omega) only [Yq, Yr]); (try simp only [hc]); (try with_reducible rfl); done))
  (try simp only [Act.put, Zs, Zz, Zc])
  refine wpAnyD_takeSL (i := 5) rfl (by kernel_rfl) (fun _ _ _ _ h => h) hS ?_
  apply Exists.intro
  refine ⟨Or.inl ⟨by rfl, ?_⟩, ?_⟩
  (focus (intro wz hz; go_simp; (try with_reducible rfl); done))
  (try simp only [Act.put, Zs, Zz, Zc])
  refine wpAnyD_takeSL (i := 6) rfl (by kernel_rfl) (fun _ _ _ _ h => h) hS ?_
  apply Exists.intro
  refine ⟨Or.inl ⟨by rfl, ?_⟩, ?_⟩
  (focus (intro wz hz; go_simp; (try with_reducible rfl); done))
  (try simp only [Act.put, Zs, Zz, Zc])
  refine wpAnyD_takeSL (i := 7) rfl (by kernel_rfl) (fun _ _ _ _ h => h) hS ?_
  apply Exists.intro
  refine ⟨Or.inl ⟨by rfl, ?_⟩, ?_⟩
  (focus (intro wz hz; have zc := (GrownX.blk hz x1 (by first | decide | (simp; done) | (simp; omega) | omega)).cell 0; go_simp; (try with_reducible rfl); done))
  (try simp only [Act.put, Zs, Zz, Zc])
  refine wpAnyD_takeSL (i := 8) rfl (by kernel_rfl) (fun _ _ _ _ h => h) hS ?_
  apply Exists.intro
  refine ⟨Or.inl ⟨by rfl, ?_⟩, ?_⟩
  (focus (intro wz hz; (first | exact exec_ld 25 _ rfl rfl ((GrownX.blk hz x0 (by first | decide | (simp; done) | (simp; omega) | omega)).range) Try.underlying25 rfl (by exact Try.infoR))))
  (try simp only [Act.put, Zs, Zz, Zc])
  refine wpAnyD_oneL (i := 9) rfl (by kernel_rfl) (fun K hK => ?_)
  rw [if_pos (by rfl)]
  go_simp
  (go_at_call 54; refine (rend_any a _ ha.out).mono ?_; intro e W4 hpp; obtain ⟨rfl, hx⟩ := hpp)
  replace hS := hS.ext hx; (try dsimp only); refine hK.out _ _ (fun _ => hS) ?_; clear hK K; (try simp only [Act.put, Zs, Zz, Zc])
  replace b0 := b0.ext hx
  replace b1 := b1.ext hx
  replace hE := hE.trans hx
  clear hx
  replace qz : r1 < W4.heap.size := b1.lt
  refine wpAnyD_takeSL (i := 10) rfl (by kernel_rfl) (fun _ _ _ _ h => h) hS ?_
  apply Exists.intro
  refine ⟨Or.inl ⟨by rfl, ?_⟩, ?_⟩
  (focus (intro wz hz; go_simp; (try simp (disch := omega) only [Yq, Yr]); (try simp only [hc]); (try with_reducible rfl); done))
  (try simp only [Act.put, Zs, Zz, Zc])
  refine wpAnyD_takeSL (i := 11) rfl (by kernel_rfl) (fun _ _ _ _ h => h) hS ?_
  apply Exists.intro
  refine ⟨Or.inl ⟨by rfl, ?_⟩, ?_⟩
  (focus (intro wz hz; go_simp; (try with_reducible rfl); done))
  (try simp only [Act.put, Zs, Zz, Zc])
  refine wpAnyD_oneL (i := 12) rfl (by kernel_rfl) (fun K hK => ?_)
  rw [if_pos (by rfl)]
  go_simp
  (try dsimp only); refine hK.out _ _ (fun _ => hS) ?_; clear hK K; (try simp only [Act.put, Zs, Zz, Zc])
  refine wpAnyD_done (by kernel_rfl) ?_ _
  clear hS x0 x1
  go_wp2_with fail
  go_ret
  exact ⟨rfl, hE⟩

set_option maxRecDepth 100000 in
set_option maxHeartbeats 4000000 in
theorem rov_f (a b : RV) (w : World) (ha : vld a) (hb : vld b) (hc : (decide (a.s < b.e)) = false) :
    Calls Try.prog 39 #[.agg a.cs.toArray, .agg b.cs.toArray] w fun e w' => e = .returned (.bool (false)) ∧ Ext w w' := by
  replace ha : Hid _ := ha
  replace hb : Hid _ := hb
  go_enter Try.func39, Try.ntmps39
  go_upto_region 1 with fail
  refine name_wX (fun W1 hW => ?_)
  have hE : Ext w W1 := by rw [hW]; repeat' (first | exact Ext.refl _ | apply Ext.al)
  have b0 : Blk W1 (w.heap.size) 25 a.cs := by rw [hW]; exact (Blk.newAt rfl).alloc _
  have b1 : Blk W1 (w.heap.size + 1) 25 b.cs := by rw [hW]; exact Blk.newAt (by simp)
  clear hW
  obtain ⟨r1, hr1⟩ : ∃ r, r = w.heap.size + 1 := ⟨_, rfl⟩
  rw [← hr1] at b1
  try rw [← hr1]
  obtain ⟨r0, hr0⟩ : ∃ r, r = w.heap.size := ⟨_, rfl⟩
  rw [← hr0] at b0
  try rw [← hr0]
  have q0 : w.heap.size ≤ r0 := by omega
  have q1 : r0 < r1 := by omega
  clear hr0 hr1
  have qz : r1 < W1.heap.size := b1.lt
  have x0 := b0
  have x1 := b1
  have hS : GrownX W1 [] W1 := GrownX.refl _ _
  refine wp_region_S (GrownX W1 []) (by kernel_rfl) ?_
  refine name_wd (fun W2 hW => ?_)
  have hx : Ext W1 W2 := by rw [hW]; exact ext_drew _
  clear hW
  replace hS := hS.ext hx
  replace b0 := b0.ext hx
  replace b1 := b1.ext hx
  replace hE := hE.trans hx
  clear hx
  replace qz : r1 < W2.heap.size := b1.lt
  refine wpAnyD_takeSL (i := 0) rfl (by kernel_rfl) (fun _ _ _ _ h => h) hS ?_
  apply Exists.intro
  refine ⟨Or.inl ⟨by rfl, ?_⟩, ?_⟩
  (focus (intro wz hz; go_simp; (try with_reducible rfl); done))
  (try simp only [Act.put, Zs, Zz, Zc])
  refine wpAnyD_takeSL (i := 1) rfl (by kernel_rfl) (fun _ _ _ _ h => h) hS ?_
  apply Exists.intro
  refine ⟨Or.inl ⟨by rfl, ?_⟩, ?_⟩
  (focus (intro wz hz; have zc := (GrownX.blk hz x0 (by first | decide | (simp; done) | (simp; omega) | omega)).cell 0; go_simp; (try with_reducible rfl); done))
  (try simp only [Act.put, Zs, Zz, Zc])
  refine wpAnyD_takeSL (i := 2) rfl (by kernel_rfl) (fun _ _ _ _ h => h) hS ?_
  apply Exists.intro
  refine ⟨Or.inl ⟨by rfl, ?_⟩, ?_⟩
  (focus (intro wz hz; (first | exact exec_ld 25 _ rfl rfl ((GrownX.blk hz x1 (by first | decide | (simp; done) | (simp; omega) | omega)).range) Try.underlying25 rfl (by exact Try.infoR))))
  (try simp only [Act.put, Zs, Zz, Zc])
  refine wpAnyD_oneL (i := 3) rfl (by kernel_rfl) (fun K hK => ?_)
  rw [if_pos (by rfl)]
  go_simp
  (go_at_call 54; refine (rend_any b _ hb.out).mono ?_; intro e W3 hpp; obtain ⟨rfl, hx⟩ := hpp)
  replace hS := hS.ext hx; (try dsimp only); refine hK.out _ _ (fun _ => hS) ?_; clear hK K; (try simp only [Act.put, Zs, Zz, Zc])
  replace b0 := b0.ext hx
  replace b1 := b1.ext hx
  replace hE := hE.trans hx
  clear hx
  replace qz : r1 < W3.heap.size := b1.lt
  refine wpAnyD_takeSL (i := 4) rfl (by kernel_rfl) (fun _ _ _ _ h => h) hS ?_
  apply Exists.intro
  refine ⟨Or.inl ⟨by rfl, ?_⟩, ?_⟩
  (focus (intro wz hz; go_simp; (try simp (disch := omega) only [Yq, Yr]); (try simp only [hc]); (try with_reducible rfl); done))
  (try simp only [Act.put, Zs, Zz, Zc])
  refine wpAnyD_takeSL (i := 5) rfl (by kernel_rfl) (fun _ _ _ _ h => h) hS ?_
  apply Exists.intro
  refine ⟨Or.inl ⟨by rfl, ?_⟩, ?_⟩
  (focus (intro wz hz; go_simp; (try with_reducible rfl); done))
  (try simp only [Act.put, Zs, Zz, Zc])
  refine wpAnyD_takeSL (i := 6) rfl (by kernel_rfl) (fun _ _ _ _ h => h) hS ?_
  apply Exists.intro
  refine ⟨Or.inr ⟨by rfl, rfl⟩, ?_⟩
  (try simp only [Act.put, Zs, Zz, Zc])
  refine wpAnyD_takeSL (i := 7) rfl (by kernel_rfl) (fun _ _ _ _ h => h) hS ?_
  apply Exists.intro
  refine ⟨Or.inr ⟨by rfl, rfl⟩, ?_⟩
  (try simp only [Act.put, Zs, Zz, Zc])
  refine wpAnyD_takeSL (i := 8) rfl (by kernel_rfl) (fun _ _ _ _ h => h) hS ?_
  apply Exists.intro
  refine ⟨Or.inr ⟨by rfl, rfl⟩, ?_⟩
  (try simp only [Act.put, Zs, Zz, Zc])
  refine wpAnyD_oneL (i := 9) rfl (by kernel_rfl) (fun K hK => ?_)
  rw [if_neg (by exact Bool.false_ne_true)]
  (try dsimp only); refine hK.out _ _ (fun _ => hS) ?_; clear hK K; (try simp only [Act.put, Zs, Zz, Zc])
  refine wpAnyD_takeSL (i := 10) rfl (by kernel_rfl) (fun _ _ _ _ h => h) hS ?_
  apply Exists.intro
  refine ⟨Or.inr ⟨by rfl, rfl⟩, ?_⟩
  (try simp only [Act.put, Zs, Zz, Zc])
  refine wpAnyD_takeSL (i := 11) rfl (by kernel_rfl) (fun _ _ _ _ h => h) hS ?_
  apply Exists.intro
  refine ⟨Or.inl ⟨by rfl, ?_⟩, ?_⟩
  (focus (intro wz hz; go_simp; (try with_reducible rfl); done))
  (try simp only [Act.put, Zs, Zz, Zc])
  refine wpAnyD_oneL (i := 12) rfl (by kernel_rfl) (fun K hK => ?_)
  rw [if_pos (by rfl)]
  go_simp
  (try dsimp only); refine hK.out _ _ (fun _ => hS) ?_; clear hK K; (try simp only [Act.put, Zs, Zz, Zc])
  refine wpAnyD_done (by kernel_rfl) ?_ _
  clear hS x0 x1
  go_wp2_with fail
  go_ret
  exact ⟨rfl, hE⟩

theorem rovl_any (a b : RV) (w : World) (ha : vld a) (hb : vld b) :
    Calls Try.prog 39 #[.agg a.cs.toArray, .agg b.cs.toArray] w fun e w' => e = .returned (.bool (meetsB a b)) ∧ Ext w w' := by
  unfold meetsB
  cases hc : decide (a.s < b.e) with
  | true => simpa using rov_t a b w ha hb hc
  | false => simpa using rov_f a b w ha hb hc

end Go.Proofs.Ytnbohogkfdeddaa
