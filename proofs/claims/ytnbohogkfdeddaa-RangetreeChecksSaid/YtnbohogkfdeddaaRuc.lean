/- Rangetree: gap. -/
import Derived.Test.YtnbohogkfdeddaaRtg
import Derived.Test.YtnbohogkfdeddaaWk2
set_option linter.unusedSimpArgs false
set_option linter.unusedVariables false
namespace Go.Proofs.Ytnbohogkfdeddaa
open Go.RowKit

/-- What gap looks at ahead of the left tree. -/
def gapB (s lo n h g f fr l : Int) : Bool := decide (n ≤ s - lo) && (((h == 0 || decide (n ≤ g)) || decide (n ≤ f - fr)) || decide (n ≤ s - l))
def gap0 (fr tt lo n : Int) : Int := if n ≤ tt - mx fr lo then mx fr lo else -1
def gapP : PT → Int → Int → Int → Int → Int
  | .E, fr, tt, lo, n => gap0 fr tt lo n
  | .N a x b, fr, tt, lo, n => if tt - lo < n then gap0 fr tt lo n else if gapB x.s lo n a.ht a.gp a.fst fr a.lst = true ∧ 0 ≤ gapP a fr x.s lo n then gapP a fr x.s lo n else gapP b x.e tt lo n
/-- The bounds of a search. -/
structure GI (fr tt lo n : Int) : Prop where
  f0 : 0 ≤ fr
  f1 : fr ≤ 512
  t0 : 0 ≤ tt
  t1 : tt ≤ 512
  l0 : 0 ≤ lo
  l1 : lo ≤ 512
  n0 : 1 ≤ n
  n1 : n ≤ 512
def GapOK (p : PT) : Prop := ∀ (A : Nat → Prop) (fr tt lo n : Int) (v : TV) (w : World), isT A w p.bt v → (∀ x ∈ p.flat, vld x) → GI fr tt lo n →
    Calls Try.prog 50 #[.agg v.cs.toArray, .int .i64 fr, .int .i64 tt, .int .i64 lo, .int .i64 n] w fun e w' => e = .returned (.int .i64 (gapP p fr tt lo n)) ∧ Ext w w'

set_option maxRecDepth 100000 in
set_option maxHeartbeats 4000000 in
theorem gap_s (fr tt lo n : Int) (v : TV) (w : World) (hg : GI fr tt lo n) (h1 : v.h = 0 ∨ tt - lo < n) :
    Calls Try.prog 50 #[.agg v.cs.toArray, .int .i64 fr, .int .i64 tt, .int .i64 lo, .int .i64 n] w fun e w' => e = .returned (.int .i64 (gap0 fr tt lo n)) ∧ Ext w w' := by
  obtain ⟨f0, f1, t0, t1, l0, l1, n0, n1⟩ := hg
  have hB : ((v.h == 0) || decide (tt - lo < n)) = true := by
    rcases h1 with h1 | h1
    · rw [h1]; rfl
    · rw [decide_eq_true h1, Bool.or_true]
  clear h1
  go_enter Try.func50, Try.ntmps50
  go_upto_region 1 with fail
  refine name_wX (fun W1 hW => ?_)
  have hE : Ext w W1 := by rw [hW]; repeat' (first | exact Ext.refl _ | apply Ext.al)
  have b0 : Blk W1 (w.heap.size) 28 v.cs := by rw [hW]; exact Blk.newAt rfl
  clear hW
  obtain ⟨r0, hr0⟩ : ∃ r, r = w.heap.size := ⟨_, rfl⟩
  rw [← hr0] at b0
  try rw [← hr0]
  have q0 : w.heap.size ≤ r0 := by omega
  clear hr0
  have qz : r0 < W1.heap.size := b0.lt
  have c0 : W1.cell? ⟨r0, 0, none⟩ = some (.int .i64 v.h) := b0.cell 0
  have z0 : LtD r0 W1.heap.size := qz
  go_upto_region 9999 with (first | ((with_reducible (apply wp_cond_split)); rfl; (all_goals intro hcd); (all_goals (first | (exfalso; exact Bool.noConfusion hcd) | (exfalso; rw [hB] at hcd; exact Bool.noConfusion hcd) | ((try simp only [hcd]); go_prune)))) | ((with_reducible (apply wp_cond_split)); rfl; (all_goals intro hcd); (all_goals (first | (exfalso; exact Bool.noConfusion hcd) | ((try simp only [hcd]); go_prune)))) | ((fail_if_success go_not_at_region 1); ((with_reducible refine wp_region_same ?_); (first | go_big_quiet_step (fail) | quiet_step (fail)); (first | go_big_quiet_step (fail) | quiet_step (fail)); (first | go_big_quiet_step (fail) | quiet_step (fail)); (first | go_big_quiet_step (fail) | quiet_step (fail)); (first | go_big_quiet_step (fail) | (refine wpQuiet_liftE (wanted_F rfl rfl rfl) ?_; (first | refine lift_moveL rfl rfl ?_ | refine lift_move rfl rfl ?_); simp only [Act.put, Zs, Zz, Zc])); (first | go_big_quiet_step (fail) | (refine wpQuiet_liftE (wanted_F rfl rfl rfl) ?_; (first | refine lift_moveL rfl rfl ?_ | refine lift_move rfl rfl ?_); simp only [Act.put, Zs, Zz, Zc])); (first | go_big_quiet_step (fail) | (refine wpQuiet_liftE (wanted_F rfl rfl rfl) ?_; refine lift_put (n := 20) rfl (fun h => h) ?_; refine lift_put (n := 21) rfl (fun h => h) ?_; refine lift_binOp_tt rfl rfl rfl ?_; apply Exists.intro; refine ⟨fun hgd => ?_, ?_⟩; (focus ((try simp only [Ya, Ye, Yb, Yd, Yc, Yg, Ys, Yt, Yh, Yi, Yj, Yk, Yl, Ym, Yn, int_eq_le, Yo, Yp] at hgd); (try simp only [Act.put, Zs, Zz, Zc]); go_simp; (try simp (disch := omega) only [Yq, Yr]); (first | done | exact rfl | (intro _; exact rfl)))); simp only [Act.put, Zs, Zz, Zc])); (first | go_big_quiet_step (fail) | (refine wpQuiet_liftE (wanted_F rfl rfl rfl) ?_; (first | refine lift_moveL rfl rfl ?_ | refine lift_move rfl rfl ?_); simp only [Act.put, Zs, Zz, Zc])); (first | go_big_quiet_step (fail) | (refine wpQuiet_liftE (wanted_F rfl rfl rfl) ?_; refine lift_put (n := 22) rfl (fun h => h) ?_; refine lift_put (n := 23) rfl (fun h => h) ?_; refine lift_binOp_tt rfl rfl rfl ?_; apply Exists.intro; refine ⟨fun hgd => ?_, ?_⟩; (focus ((try simp only [Ya, Ye, Yb, Yd, Yc, Yg, Ys, Yt, Yh, Yi, Yj, Yk, Yl, Ym, Yn, int_eq_le, Yo, Yp] at hgd); (try simp only [Act.put, Zs, Zz, Zc]); go_simp; (try simp (disch := omega) only [Yq, Yr]); (first | done | exact rfl | (intro _; exact rfl)))); simp only [Act.put, Zs, Zz, Zc])); (first | (refine wpQuiet_pick_or rfl rfl rfl rfl ?_; simp only [Act.put, Zs, Zz, Zc]) | go_big_quiet_step (fail)); (with_reducible refine wpQuiet_nil ?_); intro wq hwq; subst hwq)))
  all_goals go_ret
  all_goals refine ⟨?_, by assumption⟩
  all_goals unfold gap0 mx
  all_goals first | rw [if_pos (of_decide_eq_true hcd)] | rw [if_neg (of_decide_eq_false hcd)]
  all_goals first | rfl | (rw [if_pos (by assumption)]; rfl) | (rw [if_neg (by omega)]; rfl)
theorem gapB_eq (s lo n h g f fr l : Int) : gapB s lo n h g f fr l = (decide (n ≤ s - lo) && (((h == 0 || decide (n ≤ g)) || decide (n ≤ f - fr)) || decide (n ≤ s - l))) := rfl
set_option maxRecDepth 100000 in
set_option maxHeartbeats 4000000 in
theorem gap_N {a b : PT} {y : RV} (iha : GapOK a) (ihb : GapOK b) : GapOK (.N a y b) := by
  intro A fr tt lo n v w ht bp hg
  by_cases h1 : tt - lo < n
  · unfold gapP
    rw [if_pos h1]
    exact gap_s fr tt lo n v w hg (.inr h1)
  have HQ : Hid (gapP (.N a y b) fr tt lo n = if gapB y.s lo n a.ht a.gp a.fst fr a.lst = true ∧ 0 ≤ gapP a fr y.s lo n then gapP a fr y.s lo n else gapP b y.e tt lo n) := by
    show _ = _
    rw [gapP, if_neg h1]
  have HG : Hid (GI fr tt lo n) := hg
  obtain ⟨f0, f1, t0, t1, l0, l1, n0, n1⟩ := hg
  have h0 : v.h = (PT.N a y b).ht := ht.1
  have hB : ((v.h == 0) || decide (tt - lo < n)) = false := by
    have := PT.ht_pos a y b
    rw [decide_eq_false h1, Bool.or_false]
    simp
    omega
  obtain ⟨ga, hvy, gb⟩ := vld_node bp
  have HV : Hid (vld y) := hvy
  obtain ⟨y1, y2, y3, y4⟩ := hvy
  clear h0 h1
  go_enter Try.func50, Try.ntmps50
  go_upto_region 1 with fail
  refine name_wX (fun W1 hW => ?_)
  have hE : Ext w W1 := by rw [hW]; repeat' (first | exact Ext.refl _ | apply Ext.al)
  have b0 : Blk W1 (w.heap.size) 28 v.cs := by rw [hW]; exact Blk.newAt rfl
  clear hW
  obtain ⟨r0, hr0⟩ : ∃ r, r = w.heap.size := ⟨_, rfl⟩
  rw [← hr0] at b0
  try rw [← hr0]
  have q0 : w.heap.size ≤ r0 := by omega
  clear hr0
  have qz : r0 < W1.heap.size := b0.lt
  have tv := isT.ext hE (isT.lw ht)
  clear ht
  have c0 : W1.cell? ⟨r0, 0, none⟩ = some (.int .i64 v.h) := b0.cell 0
  have z0 : LtD r0 W1.heap.size := qz
  go_upto_region 6 with (first | ((with_reducible (apply wp_cond_split)); rfl; (all_goals intro hcd); (all_goals (first | (exfalso; exact Bool.noConfusion hcd) | (exfalso; rw [hB] at hcd; exact Bool.noConfusion hcd) | ((try simp only [hcd]); go_prune)))) | ((with_reducible (apply wp_cond_split)); rfl; (all_goals intro hcd); (all_goals (first | (exfalso; exact Bool.noConfusion hcd) | ((try simp only [hcd]); go_prune)))) | ((fail_if_success go_not_at_region 1); ((with_reducible refine wp_region_same ?_); (first | go_big_quiet_step (fail) | quiet_step (fail)); (first | go_big_quiet_step (fail) | quiet_step (fail)); (first | go_big_quiet_step (fail) | quiet_step (fail)); (first | go_big_quiet_step (fail) | quiet_step (fail)); (first | go_big_quiet_step (fail) | (refine wpQuiet_liftE (wanted_F rfl rfl rfl) ?_; (first | refine lift_moveL rfl rfl ?_ | refine lift_move rfl rfl ?_); simp only [Act.put, Zs, Zz, Zc])); (first | go_big_quiet_step (fail) | (refine wpQuiet_liftE (wanted_F rfl rfl rfl) ?_; (first | refine lift_moveL rfl rfl ?_ | refine lift_move rfl rfl ?_); simp only [Act.put, Zs, Zz, Zc])); (first | go_big_quiet_step (fail) | (refine wpQuiet_liftE (wanted_F rfl rfl rfl) ?_; refine lift_put (n := 20) rfl (fun h => h) ?_; refine lift_put (n := 21) rfl (fun h => h) ?_; refine lift_binOp_tt rfl rfl rfl ?_; apply Exists.intro; refine ⟨fun hgd => ?_, ?_⟩; (focus ((try simp only [Ya, Ye, Yb, Yd, Yc, Yg, Ys, Yt, Yh, Yi, Yj, Yk, Yl, Ym, Yn, int_eq_le, Yo, Yp] at hgd); (try simp only [Act.put, Zs, Zz, Zc]); go_simp; (try simp (disch := omega) only [Yq, Yr]); (first | done | exact rfl | (intro _; exact rfl)))); simp only [Act.put, Zs, Zz, Zc])); (first | go_big_quiet_step (fail) | (refine wpQuiet_liftE (wanted_F rfl rfl rfl) ?_; (first | refine lift_moveL rfl rfl ?_ | refine lift_move rfl rfl ?_); simp only [Act.put, Zs, Zz, Zc])); (first | go_big_quiet_step (fail) | (refine wpQuiet_liftE (wanted_F rfl rfl rfl) ?_; refine lift_put (n := 22) rfl (fun h => h) ?_; refine lift_put (n := 23) rfl (fun h => h) ?_; refine lift_binOp_tt rfl rfl rfl ?_; apply Exists.intro; refine ⟨fun hgd => ?_, ?_⟩; (focus ((try simp only [Ya, Ye, Yb, Yd, Yc, Yg, Ys, Yt, Yh, Yi, Yj, Yk, Yl, Ym, Yn, int_eq_le, Yo, Yp] at hgd); (try simp only [Act.put, Zs, Zz, Zc]); go_simp; (try simp (disch := omega) only [Yq, Yr]); (first | done | exact rfl | (intro _; exact rfl)))); simp only [Act.put, Zs, Zz, Zc])); (first | (refine wpQuiet_pick_or rfl rfl rfl rfl ?_; simp only [Act.put, Zs, Zz, Zc]) | go_big_quiet_step (fail)); (with_reducible refine wpQuiet_nil ?_); intro wq hwq; subst hwq)))
  clear c0 z0 hB hcd
  refine wp_region_lit ?_
  refine wpList_plain rfl (fun K hK => ?_); (first | (refine wp_ld 28 _ (b0.range) (by rfl) (by rfl) Try.underlying28 rfl (by exact Try.infoT) ?_)); (try dsimp only); refine hK _ _ ?_; clear hK K; (try simp only [Act.put, Zs, Zz, Zc])
  refine wpList_plain rfl (fun K hK => ?_); go_simp; (go_at_call 52; refine (parts_P (A := Lw A w.heap.size) _ _ _ _ _ tv).mono ?_; intro e W2 hpp; obtain ⟨va, vb, rfl, ta, tb, hx⟩ := hpp); (try dsimp only); refine hK _ _ ?_; clear hK K; (try simp only [Act.put, Zs, Zz, Zc])
  replace b0 := b0.ext hx
  replace tv := isT.ext hx tv
  replace ta := isT.ext hx ta
  replace tb := isT.ext hx tb
  replace hE := hE.trans hx
  clear hx
  replace qz : r0 < W2.heap.size := b0.lt
  iterate 5 (refine wpList_plain rfl (fun K hK => ?_); go_simp; (try dsimp only); refine hK _ _ ?_; clear hK K; (try simp only [Act.put, Zs, Zz, Zc]))
  refine name_wl (fun W3 hW => ?_)
  have hx : Ext W2 W3 := by rw [hW]; exact ext_alloc _ _
  have b1 : Blk W3 W2.heap.size 28 TV.z.cs := by rw [hW]; exact Blk.newAt rfl
  clear hW
  replace b0 := b0.ext hx
  replace tv := isT.ext hx tv
  replace ta := isT.ext hx ta
  replace tb := isT.ext hx tb
  replace hE := hE.trans hx
  clear hx
  obtain ⟨r1, hr⟩ : ∃ r, r = W2.heap.size := ⟨_, rfl⟩
  rw [← hr] at b1
  try rw [← hr]
  have q1 : r0 < r1 := by omega
  clear hr
  replace qz : r1 < W3.heap.size := b1.lt
  refine wpList_plain rfl (fun K hK => ?_); go_simp; (try dsimp only); refine hK _ _ ?_; clear hK K; (try simp only [Act.put, Zs, Zz, Zc])
  refine name_wl (fun W4 hW => ?_)
  have hx : Ext W3 W4 := by rw [hW]; exact ext_alloc _ _
  have b2 : Blk W4 W3.heap.size 25 RV.z.cs := by rw [hW]; exact Blk.newAt rfl
  clear hW
  replace b0 := b0.ext hx
  replace b1 := b1.ext hx
  replace tv := isT.ext hx tv
  replace ta := isT.ext hx ta
  replace tb := isT.ext hx tb
  replace hE := hE.trans hx
  clear hx
  obtain ⟨r2, hr⟩ : ∃ r, r = W3.heap.size := ⟨_, rfl⟩
  rw [← hr] at b2
  try rw [← hr]
  have q2 : r1 < r2 := by omega
  clear hr
  replace qz : r2 < W4.heap.size := b2.lt
  refine wpList_plain rfl (fun K hK => ?_); go_simp; (try dsimp only); refine hK _ _ ?_; clear hK K; (try simp only [Act.put, Zs, Zz, Zc])
  refine name_wl (fun W5 hW => ?_)
  have hx : Ext W4 W5 := by rw [hW]; exact ext_alloc _ _
  have b3 : Blk W5 W4.heap.size 28 TV.z.cs := by rw [hW]; exact Blk.newAt rfl
  clear hW
  replace b0 := b0.ext hx
  replace b1 := b1.ext hx
  replace b2 := b2.ext hx
  replace tv := isT.ext hx tv
  replace ta := isT.ext hx ta
  replace tb := isT.ext hx tb
  replace hE := hE.trans hx
  clear hx
  obtain ⟨r3, hr⟩ : ∃ r, r = W4.heap.size := ⟨_, rfl⟩
  rw [← hr] at b3
  try rw [← hr]
  have q3 : r2 < r3 := by omega
  clear hr
  replace qz : r3 < W5.heap.size := b3.lt
  refine wpList_plain rfl (fun K hK => ?_)
  refine wp_store_box 28 _ _ (by rfl) b1 (by rfl) (by rfl) (by exact Try.infoT) (by first | exact RV.one _ | exact TV.one _ rfl | exact TV.one _ (isT.one tv) | exact TV.one _ (isT.one ta) | exact TV.one _ (isT.one tb)) (by rfl) (fun W6 hg bn => ?_)
  replace b0 := b0.kept hg (Zn (by omega))
  replace b2 := b2.kept hg (Zn (by omega))
  replace b3 := b3.kept hg (Zn (by omega))
  replace tv := isT.kept hg (Lw.not (by omega)) tv
  replace ta := isT.kept hg (Lw.not (by omega)) ta
  replace tb := isT.kept hg (Lw.not (by omega)) tb
  replace hE := ext_grow hE hg (fun q hq => by cases hq; omega)
  clear b1 hg
  have b1 := bn
  clear bn
  (try dsimp only); refine hK _ _ ?_; clear hK K; (try simp only [Act.put, Zs, Zz, Zc])
  replace qz : r3 < W6.heap.size := b3.lt
  refine wpList_plain rfl (fun K hK => ?_)
  refine wp_store_box 25 _ _ (by rfl) b2 (by rfl) (by rfl) (by exact Try.infoR) (by first | exact RV.one _ | exact TV.one _ rfl | exact TV.one _ (isT.one tv) | exact TV.one _ (isT.one ta) | exact TV.one _ (isT.one tb)) (by rfl) (fun W7 hg bn => ?_)
  replace b0 := b0.kept hg (Zn (by omega))
  replace b1 := b1.kept hg (Zn (by omega))
  replace b3 := b3.kept hg (Zn (by omega))
  replace tv := isT.kept hg (Lw.not (by omega)) tv
  replace ta := isT.kept hg (Lw.not (by omega)) ta
  replace tb := isT.kept hg (Lw.not (by omega)) tb
  replace hE := ext_grow hE hg (fun q hq => by cases hq; omega)
  clear b2 hg
  have b2 := bn
  clear bn
  (try dsimp only); refine hK _ _ ?_; clear hK K; (try simp only [Act.put, Zs, Zz, Zc])
  replace qz : r3 < W7.heap.size := b3.lt
  refine wpList_plain rfl (fun K hK => ?_)
  refine wp_store_box 28 _ _ (by rfl) b3 (by rfl) (by rfl) (by exact Try.infoT) (by first | exact RV.one _ | exact TV.one _ rfl | exact TV.one _ (isT.one tv) | exact TV.one _ (isT.one ta) | exact TV.one _ (isT.one tb)) (by rfl) (fun W8 hg bn => ?_)
  replace b0 := b0.kept hg (Zn (by omega))
  replace b1 := b1.kept hg (Zn (by omega))
  replace b2 := b2.kept hg (Zn (by omega))
  replace tv := isT.kept hg (Lw.not (by omega)) tv
  replace ta := isT.kept hg (Lw.not (by omega)) ta
  replace tb := isT.kept hg (Lw.not (by omega)) tb
  replace hE := ext_grow hE hg (fun q hq => by cases hq; omega)
  clear b3 hg
  have b3 := bn
  clear bn
  (try dsimp only); refine hK _ _ ?_; clear hK K; (try simp only [Act.put, Zs, Zz, Zc])
  replace qz : r3 < W8.heap.size := b3.lt
  refine wpList_nil ?_
  obtain ⟨na1, na2, na3, na4⟩ := isP_num ta
  obtain ⟨m1, m2, m3, m4, m5, m6⟩ := num_bd ga
  have na0 := PT.ht_nn a
  have k1 : va.f ≤ 512 ∧ 0 ≤ va.f ∧ va.l ≤ 512 ∧ 0 ≤ va.l := by omega
  obtain ⟨k1, k2, k3, k4⟩ := k1
  have HQ2 : gapP (.N a y b) fr tt lo n = _ := HQ.out
  rw [← na1, ← na2, ← na3, ← na4, gapB_eq] at HQ2
  clear HQ
  replace HQ2 : Hid _ := HQ2
  clear na1 na2 na3 na4 m1 m2 m3 m4 m5 m6 na0
  cases hB : (decide (n ≤ y.s - lo) && (((va.h == 0 || decide (n ≤ va.g)) || decide (n ≤ va.f - fr)) || decide (n ≤ y.s - va.l))) with
  | false =>
    have c0 : W8.cell? ⟨r1, 0, none⟩ = some (.int .i64 va.h) := b1.cell 0
    have c1 : W8.cell? ⟨r1, 1, none⟩ = some (.int .i64 va.f) := b1.cell 1
    have c2 : W8.cell? ⟨r1, 2, none⟩ = some (.int .i64 va.l) := b1.cell 2
    have c3 : W8.cell? ⟨r1, 3, none⟩ = some (.int .i64 va.g) := b1.cell 3
    have d0 : W8.cell? ⟨r2, 0, none⟩ = some (.int .i64 y.s) := b2.cell 0
    have z1 : LtD r1 W8.heap.size := b1.lt
    have z2 : LtD r2 W8.heap.size := b2.lt
    go_upto_region 11 with (first | ((with_reducible (apply wp_cond_split)); rfl; (all_goals intro hcd); (all_goals (first | (exfalso; exact Bool.noConfusion hcd) | (exfalso; rw [hB] at hcd; exact Bool.noConfusion hcd) | ((try simp only [hcd]); go_prune)))) | ((with_reducible (apply wp_cond_split)); rfl; (all_goals intro hcd); (all_goals (first | (exfalso; exact Bool.noConfusion hcd) | ((try simp only [hcd]); go_prune)))) | ((fail_if_success go_not_at_region 7); ((with_reducible refine wp_region_same ?_); (first | go_big_quiet_step (fail) | quiet_step (fail)); (first | go_big_quiet_step (fail) | quiet_step (fail)); (first | go_big_quiet_step (fail) | quiet_step (fail)); (first | go_big_quiet_step (fail) | quiet_step (fail)); (first | go_big_quiet_step (fail) | quiet_step (fail)); (first | go_big_quiet_step (fail) | quiet_step (fail)); (first | go_big_quiet_step (fail) | quiet_step (fail)); (first | go_big_quiet_step (fail) | (refine wpQuiet_liftE (wanted_T rfl rfl rfl) ?_; refine lift_fieldAddr rfl rfl ?_; apply Exists.intro; refine ⟨fun hgd => ?_, ?_⟩; (focus ((try simp only [Ya, Ye, Yb, Yd, Yc, Yg, Ys, Yt, Yh, Yi, Yj, Yk, Yl, Ym, Yn, int_eq_le, Yo, Yp] at hgd); (try simp only [Act.put, Zs, Zz, Zc]); go_simp; (try simp (disch := omega) only [Yq, Yr]); (first | done | exact rfl | (intro _; exact rfl)))); simp only [Act.put, Zs, Zz, Zc])); (first | go_big_quiet_step (fail) | (refine wpQuiet_liftE (wanted_T rfl rfl rfl) ?_; refine lift_put (n := 48) rfl (fun h => h) ?_; refine lift_load rfl rfl ?_; apply Exists.intro; refine ⟨fun hgd => ?_, ?_⟩; (focus ((try simp only [Ya, Ye, Yb, Yd, Yc, Yg, Ys, Yt, Yh, Yi, Yj, Yk, Yl, Ym, Yn, int_eq_le, Yo, Yp] at hgd); (try simp only [Act.put, Zs, Zz, Zc]); go_simp; (try simp (disch := omega) only [Yq, Yr]); (first | done | exact rfl | (intro _; exact rfl)))); simp only [Act.put, Zs, Zz, Zc])); (first | go_big_quiet_step (fail) | (refine wpQuiet_liftE (wanted_T rfl rfl rfl) ?_; refine lift_put (n := 49) rfl (fun h => h) ?_; refine lift_binOp_tc rfl rfl ?_; apply Exists.intro; refine ⟨fun hgd => ?_, ?_⟩; (focus ((try simp only [Ya, Ye, Yb, Yd, Yc, Yg, Ys, Yt, Yh, Yi, Yj, Yk, Yl, Ym, Yn, int_eq_le, Yo, Yp] at hgd); (try simp only [Act.put, Zs, Zz, Zc]); go_simp; (try simp (disch := omega) only [Yq, Yr]); (first | done | exact rfl | (intro _; exact rfl)))); simp only [Act.put, Zs, Zz, Zc])); (first | go_big_quiet_step (fail) | (refine wpQuiet_liftE (wanted_T rfl rfl rfl) ?_; refine lift_put (n := 50) rfl (fun h => h) ?_; (first | refine lift_moveL rfl rfl ?_ | refine lift_move rfl rfl ?_); simp only [Act.put, Zs, Zz, Zc])); (first | go_big_quiet_step (fail) | (refine wpQuiet_liftE (wanted_F2 rfl rfl rfl) ?_; refine lift_fieldAddr rfl rfl ?_; apply Exists.intro; refine ⟨fun hgd => ?_, ?_⟩; (focus ((try simp only [Ya, Ye, Yb, Yd, Yc, Yg, Ys, Yt, Yh, Yi, Yj, Yk, Yl, Ym, Yn, int_eq_le, Yo, Yp] at hgd); (try simp only [Act.put, Zs, Zz, Zc]); go_simp; (try simp (disch := omega) only [Yq, Yr]); (first | done | exact rfl | (intro _; exact rfl)))); simp only [Act.put, Zs, Zz, Zc]) | (refine wpQuiet_liftE (wanted_F rfl rfl rfl) ?_; refine lift_fieldAddr rfl rfl ?_; apply Exists.intro; refine ⟨fun hgd => ?_, ?_⟩; (focus ((try simp only [Ya, Ye, Yb, Yd, Yc, Yg, Ys, Yt, Yh, Yi, Yj, Yk, Yl, Ym, Yn, int_eq_le, Yo, Yp] at hgd); (try simp only [Act.put, Zs, Zz, Zc]); go_simp; (try simp (disch := omega) only [Yq, Yr]); (first | done | exact rfl | (intro _; exact rfl)))); simp only [Act.put, Zs, Zz, Zc])); (first | go_big_quiet_step (fail) | (refine wpQuiet_liftE (wanted_F2 rfl rfl rfl) ?_; refine lift_put (n := 52) rfl (fun h => h) ?_; refine lift_load rfl rfl ?_; apply Exists.intro; refine ⟨fun hgd => ?_, ?_⟩; (focus ((try simp only [Ya, Ye, Yb, Yd, Yc, Yg, Ys, Yt, Yh, Yi, Yj, Yk, Yl, Ym, Yn, int_eq_le, Yo, Yp] at hgd); (try simp only [Act.put, Zs, Zz, Zc]); go_simp; (try simp (disch := omega) only [Yq, Yr]); (first | done | exact rfl | (intro _; exact rfl)))); simp only [Act.put, Zs, Zz, Zc]) | (refine wpQuiet_liftE (wanted_F rfl rfl rfl) ?_; refine lift_put (n := 52) rfl (fun h => h) ?_; refine lift_load rfl rfl ?_; apply Exists.intro; refine ⟨fun hgd => ?_, ?_⟩; (focus ((try simp only [Ya, Ye, Yb, Yd, Yc, Yg, Ys, Yt, Yh, Yi, Yj, Yk, Yl, Ym, Yn, int_eq_le, Yo, Yp] at hgd); (try simp only [Act.put, Zs, Zz, Zc]); go_simp; (try simp (disch := omega) only [Yq, Yr]); (first | done | exact rfl | (intro _; exact rfl)))); simp only [Act.put, Zs, Zz, Zc])); (first | go_big_quiet_step (fail) | (refine wpQuiet_liftE (wanted_F2 rfl rfl rfl) ?_; (first | refine lift_moveL rfl rfl ?_ | refine lift_move rfl rfl ?_); simp only [Act.put, Zs, Zz, Zc]) | (refine wpQuiet_liftE (wanted_F rfl rfl rfl) ?_; (first | refine lift_moveL rfl rfl ?_ | refine lift_move rfl rfl ?_); simp only [Act.put, Zs, Zz, Zc])); (first | go_big_quiet_step (fail) | (refine wpQuiet_liftE (wanted_F2 rfl rfl rfl) ?_; refine lift_put (n := 53) rfl (fun h => h) ?_; refine lift_put (n := 54) rfl (fun h => h) ?_; refine lift_binOp_tt rfl rfl rfl ?_; apply Exists.intro; refine ⟨fun hgd => ?_, ?_⟩; (focus ((try simp only [Ya, Ye, Yb, Yd, Yc, Yg, Ys, Yt, Yh, Yi, Yj, Yk, Yl, Ym, Yn, int_eq_le, Yo, Yp] at hgd); (try simp only [Act.put, Zs, Zz, Zc]); go_simp; (try simp (disch := omega) only [Yq, Yr]); (first | done | exact rfl | (intro _; exact rfl)))); simp only [Act.put, Zs, Zz, Zc]) | (refine wpQuiet_liftE (wanted_F rfl rfl rfl) ?_; refine lift_put (n := 53) rfl (fun h => h) ?_; refine lift_put (n := 54) rfl (fun h => h) ?_; refine lift_binOp_tt rfl rfl rfl ?_; apply Exists.intro; refine ⟨fun hgd => ?_, ?_⟩; (focus ((try simp only [Ya, Ye, Yb, Yd, Yc, Yg, Ys, Yt, Yh, Yi, Yj, Yk, Yl, Ym, Yn, int_eq_le, Yo, Yp] at hgd); (try simp only [Act.put, Zs, Zz, Zc]); go_simp; (try simp (disch := omega) only [Yq, Yr]); (first | done | exact rfl | (intro _; exact rfl)))); simp only [Act.put, Zs, Zz, Zc])); (first | go_big_quiet_step (fail) | (refine wpQuiet_gpick_or (wanted_T rfl rfl rfl) rfl rfl rfl ?_; simp only [Act.put, Zs, Zz, Zc])); (first | go_big_quiet_step (fail) | (refine wpQuiet_liftE (wanted_T rfl rfl rfl) ?_; refine lift_put (n := 56) rfl (fun h => h) ?_; (first | refine lift_moveL rfl rfl ?_ | refine lift_move rfl rfl ?_); simp only [Act.put, Zs, Zz, Zc])); (first | go_big_quiet_step (fail) | (refine wpQuiet_liftE (wanted_F2 rfl rfl rfl) ?_; refine lift_fieldAddr rfl rfl ?_; apply Exists.intro; refine ⟨fun hgd => ?_, ?_⟩; (focus ((try simp only [Ya, Ye, Yb, Yd, Yc, Yg, Ys, Yt, Yh, Yi, Yj, Yk, Yl, Ym, Yn, int_eq_le, Yo, Yp] at hgd); (try simp only [Act.put, Zs, Zz, Zc]); go_simp; (try simp (disch := omega) only [Yq, Yr]); (first | done | exact rfl | (intro _; exact rfl)))); simp only [Act.put, Zs, Zz, Zc]) | (refine wpQuiet_liftE (wanted_F rfl rfl rfl) ?_; refine lift_fieldAddr rfl rfl ?_; apply Exists.intro; refine ⟨fun hgd => ?_, ?_⟩; (focus ((try simp only [Ya, Ye, Yb, Yd, Yc, Yg, Ys, Yt, Yh, Yi, Yj, Yk, Yl, Ym, Yn, int_eq_le, Yo, Yp] at hgd); (try simp only [Act.put, Zs, Zz, Zc]); go_simp; (try simp (disch := omega) only [Yq, Yr]); (first | done | exact rfl | (intro _; exact rfl)))); simp only [Act.put, Zs, Zz, Zc])); (first | go_big_quiet_step (fail) | (refine wpQuiet_liftE (wanted_F2 rfl rfl rfl) ?_; refine lift_put (n := 58) rfl (fun h => h) ?_; refine lift_load rfl rfl ?_; apply Exists.intro; refine ⟨fun hgd => ?_, ?_⟩; (focus ((try simp only [Ya, Ye, Yb, Yd, Yc, Yg, Ys, Yt, Yh, Yi, Yj, Yk, Yl, Ym, Yn, int_eq_le, Yo, Yp] at hgd); (try simp only [Act.put, Zs, Zz, Zc]); go_simp; (try simp (disch := omega) only [Yq, Yr]); (first | done | exact rfl | (intro _; exact rfl)))); simp only [Act.put, Zs, Zz, Zc]) | (refine wpQuiet_liftE (wanted_F rfl rfl rfl) ?_; refine lift_put (n := 58) rfl (fun h => h) ?_; refine lift_load rfl rfl ?_; apply Exists.intro; refine ⟨fun hgd => ?_, ?_⟩; (focus ((try simp only [Ya, Ye, Yb, Yd, Yc, Yg, Ys, Yt, Yh, Yi, Yj, Yk, Yl, Ym, Yn, int_eq_le, Yo, Yp] at hgd); (try simp only [Act.put, Zs, Zz, Zc]); go_simp; (try simp (disch := omega) only [Yq, Yr]); (first | done | exact rfl | (intro _; exact rfl)))); simp only [Act.put, Zs, Zz, Zc])); (first | go_big_quiet_step (fail) | (refine wpQuiet_liftE (wanted_F2 rfl rfl rfl) ?_; (first | refine lift_moveL rfl rfl ?_ | refine lift_move rfl rfl ?_); simp only [Act.put, Zs, Zz, Zc]) | (refine wpQuiet_liftE (wanted_F rfl rfl rfl) ?_; (first | refine lift_moveL rfl rfl ?_ | refine lift_move rfl rfl ?_); simp only [Act.put, Zs, Zz, Zc])); (first | go_big_quiet_step (fail) | (refine wpQuiet_liftE (wanted_F2 rfl rfl rfl) ?_; refine lift_put (n := 59) rfl (fun h => h) ?_; refine lift_put (n := 60) rfl (fun h => h) ?_; refine lift_binOp_tt rfl rfl rfl ?_; apply Exists.intro; refine ⟨fun hgd => ?_, ?_⟩; (focus ((try simp only [Ya, Ye, Yb, Yd, Yc, Yg, Ys, Yt, Yh, Yi, Yj, Yk, Yl, Ym, Yn, int_eq_le, Yo, Yp] at hgd); (try simp only [Act.put, Zs, Zz, Zc]); go_simp; (try simp (disch := omega) only [Yq, Yr]); (first | done | exact rfl | (intro _; exact rfl)))); simp only [Act.put, Zs, Zz, Zc]) | (refine wpQuiet_liftE (wanted_F rfl rfl rfl) ?_; refine lift_put (n := 59) rfl (fun h => h) ?_; refine lift_put (n := 60) rfl (fun h => h) ?_; refine lift_binOp_tt rfl rfl rfl ?_; apply Exists.intro; refine ⟨fun hgd => ?_, ?_⟩; (focus ((try simp only [Ya, Ye, Yb, Yd, Yc, Yg, Ys, Yt, Yh, Yi, Yj, Yk, Yl, Ym, Yn, int_eq_le, Yo, Yp] at hgd); (try simp only [Act.put, Zs, Zz, Zc]); go_simp; (try simp (disch := omega) only [Yq, Yr]); (first | done | exact rfl | (intro _; exact rfl)))); simp only [Act.put, Zs, Zz, Zc])); (first | go_big_quiet_step (fail) | (refine wpQuiet_liftE (wanted_F2 rfl rfl rfl) ?_; (first | refine lift_moveL rfl rfl ?_ | refine lift_move rfl rfl ?_); simp only [Act.put, Zs, Zz, Zc]) | (refine wpQuiet_liftE (wanted_F rfl rfl rfl) ?_; (first | refine lift_moveL rfl rfl ?_ | refine lift_move rfl rfl ?_); simp only [Act.put, Zs, Zz, Zc])); (first | go_big_quiet_step (fail) | (refine wpQuiet_liftE (wanted_F2 rfl rfl rfl) ?_; refine lift_put (n := 61) rfl (fun h => h) ?_; refine lift_put (n := 62) rfl (fun h => h) ?_; refine lift_binOp_tt rfl rfl rfl ?_; apply Exists.intro; refine ⟨fun hgd => ?_, ?_⟩; (focus ((try simp only [Ya, Ye, Yb, Yd, Yc, Yg, Ys, Yt, Yh, Yi, Yj, Yk, Yl, Ym, Yn, int_eq_le, Yo, Yp] at hgd); (try simp only [Act.put, Zs, Zz, Zc]); go_simp; (try simp (disch := omega) only [Yq, Yr]); (first | done | exact rfl | (intro _; exact rfl)))); simp only [Act.put, Zs, Zz, Zc]) | (refine wpQuiet_liftE (wanted_F rfl rfl rfl) ?_; refine lift_put (n := 61) rfl (fun h => h) ?_; refine lift_put (n := 62) rfl (fun h => h) ?_; refine lift_binOp_tt rfl rfl rfl ?_; apply Exists.intro; refine ⟨fun hgd => ?_, ?_⟩; (focus ((try simp only [Ya, Ye, Yb, Yd, Yc, Yg, Ys, Yt, Yh, Yi, Yj, Yk, Yl, Ym, Yn, int_eq_le, Yo, Yp] at hgd); (try simp only [Act.put, Zs, Zz, Zc]); go_simp; (try simp (disch := omega) only [Yq, Yr]); (first | done | exact rfl | (intro _; exact rfl)))); simp only [Act.put, Zs, Zz, Zc])); (first | go_big_quiet_step (fail) | (refine wpQuiet_gpick_or (wanted_T rfl rfl rfl) rfl rfl rfl ?_; simp only [Act.put, Zs, Zz, Zc])); (first | go_big_quiet_step (fail) | (refine wpQuiet_liftE (wanted_T rfl rfl rfl) ?_; refine lift_put (n := 64) rfl (fun h => h) ?_; (first | refine lift_moveL rfl rfl ?_ | refine lift_move rfl rfl ?_); simp only [Act.put, Zs, Zz, Zc])); (first | go_big_quiet_step (fail) | (refine wpQuiet_liftE (wanted_F2 rfl rfl rfl) ?_; refine lift_fieldAddr rfl rfl ?_; apply Exists.intro; refine ⟨fun hgd => ?_, ?_⟩; (focus ((try simp only [Ya, Ye, Yb, Yd, Yc, Yg, Ys, Yt, Yh, Yi, Yj, Yk, Yl, Ym, Yn, int_eq_le, Yo, Yp] at hgd); (try simp only [Act.put, Zs, Zz, Zc]); go_simp; (try simp (disch := omega) only [Yq, Yr]); (first | done | exact rfl | (intro _; exact rfl)))); simp only [Act.put, Zs, Zz, Zc]) | (refine wpQuiet_liftE (wanted_F rfl rfl rfl) ?_; refine lift_fieldAddr rfl rfl ?_; apply Exists.intro; refine ⟨fun hgd => ?_, ?_⟩; (focus ((try simp only [Ya, Ye, Yb, Yd, Yc, Yg, Ys, Yt, Yh, Yi, Yj, Yk, Yl, Ym, Yn, int_eq_le, Yo, Yp] at hgd); (try simp only [Act.put, Zs, Zz, Zc]); go_simp; (try simp (disch := omega) only [Yq, Yr]); (first | done | exact rfl | (intro _; exact rfl)))); simp only [Act.put, Zs, Zz, Zc])); (first | go_big_quiet_step (fail) | (refine wpQuiet_liftE (wanted_F2 rfl rfl rfl) ?_; refine lift_put (n := 66) rfl (fun h => h) ?_; refine lift_load rfl rfl ?_; apply Exists.intro; refine ⟨fun hgd => ?_, ?_⟩; (focus ((try simp only [Ya, Ye, Yb, Yd, Yc, Yg, Ys, Yt, Yh, Yi, Yj, Yk, Yl, Ym, Yn, int_eq_le, Yo, Yp] at hgd); (try simp only [Act.put, Zs, Zz, Zc]); go_simp; (try simp (disch := omega) only [Yq, Yr]); (first | done | exact rfl | (intro _; exact rfl)))); simp only [Act.put, Zs, Zz, Zc]) | (refine wpQuiet_liftE (wanted_F rfl rfl rfl) ?_; refine lift_put (n := 66) rfl (fun h => h) ?_; refine lift_load rfl rfl ?_; apply Exists.intro; refine ⟨fun hgd => ?_, ?_⟩; (focus ((try simp only [Ya, Ye, Yb, Yd, Yc, Yg, Ys, Yt, Yh, Yi, Yj, Yk, Yl, Ym, Yn, int_eq_le, Yo, Yp] at hgd); (try simp only [Act.put, Zs, Zz, Zc]); go_simp; (try simp (disch := omega) only [Yq, Yr]); (first | done | exact rfl | (intro _; exact rfl)))); simp only [Act.put, Zs, Zz, Zc])); (first | go_big_quiet_step (fail) | (refine wpQuiet_liftE (wanted_F2 rfl rfl rfl) ?_; refine lift_fieldAddr rfl rfl ?_; apply Exists.intro; refine ⟨fun hgd => ?_, ?_⟩; (focus ((try simp only [Ya, Ye, Yb, Yd, Yc, Yg, Ys, Yt, Yh, Yi, Yj, Yk, Yl, Ym, Yn, int_eq_le, Yo, Yp] at hgd); (try simp only [Act.put, Zs, Zz, Zc]); go_simp; (try simp (disch := omega) only [Yq, Yr]); (first | done | exact rfl | (intro _; exact rfl)))); simp only [Act.put, Zs, Zz, Zc]) | (refine wpQuiet_liftE (wanted_F rfl rfl rfl) ?_; refine lift_fieldAddr rfl rfl ?_; apply Exists.intro; refine ⟨fun hgd => ?_, ?_⟩; (focus ((try simp only [Ya, Ye, Yb, Yd, Yc, Yg, Ys, Yt, Yh, Yi, Yj, Yk, Yl, Ym, Yn, int_eq_le, Yo, Yp] at hgd); (try simp only [Act.put, Zs, Zz, Zc]); go_simp; (try simp (disch := omega) only [Yq, Yr]); (first | done | exact rfl | (intro _; exact rfl)))); simp only [Act.put, Zs, Zz, Zc])); (first | go_big_quiet_step (fail) | (refine wpQuiet_liftE (wanted_F2 rfl rfl rfl) ?_; refine lift_put (n := 68) rfl (fun h => h) ?_; refine lift_load rfl rfl ?_; apply Exists.intro; refine ⟨fun hgd => ?_, ?_⟩; (focus ((try simp only [Ya, Ye, Yb, Yd, Yc, Yg, Ys, Yt, Yh, Yi, Yj, Yk, Yl, Ym, Yn, int_eq_le, Yo, Yp] at hgd); (try simp only [Act.put, Zs, Zz, Zc]); go_simp; (try simp (disch := omega) only [Yq, Yr]); (first | done | exact rfl | (intro _; exact rfl)))); simp only [Act.put, Zs, Zz, Zc]) | (refine wpQuiet_liftE (wanted_F rfl rfl rfl) ?_; refine lift_put (n := 68) rfl (fun h => h) ?_; refine lift_load rfl rfl ?_; apply Exists.intro; refine ⟨fun hgd => ?_, ?_⟩; (focus ((try simp only [Ya, Ye, Yb, Yd, Yc, Yg, Ys, Yt, Yh, Yi, Yj, Yk, Yl, Ym, Yn, int_eq_le, Yo, Yp] at hgd); (try simp only [Act.put, Zs, Zz, Zc]); go_simp; (try simp (disch := omega) only [Yq, Yr]); (first | done | exact rfl | (intro _; exact rfl)))); simp only [Act.put, Zs, Zz, Zc])); (first | go_big_quiet_step (fail) | (refine wpQuiet_liftE (wanted_F2 rfl rfl rfl) ?_; refine lift_put (n := 67) rfl (fun h => h) ?_; refine lift_put (n := 69) rfl (fun h => h) ?_; refine lift_binOp_tt rfl rfl rfl ?_; apply Exists.intro; refine ⟨fun hgd => ?_, ?_⟩; (focus ((try simp only [Ya, Ye, Yb, Yd, Yc, Yg, Ys, Yt, Yh, Yi, Yj, Yk, Yl, Ym, Yn, int_eq_le, Yo, Yp] at hgd); (try simp only [Act.put, Zs, Zz, Zc]); go_simp; (try simp (disch := omega) only [Yq, Yr]); (first | done | exact rfl | (intro _; exact rfl)))); simp only [Act.put, Zs, Zz, Zc]) | (refine wpQuiet_liftE (wanted_F rfl rfl rfl) ?_; refine lift_put (n := 67) rfl (fun h => h) ?_; refine lift_put (n := 69) rfl (fun h => h) ?_; refine lift_binOp_tt rfl rfl rfl ?_; apply Exists.intro; refine ⟨fun hgd => ?_, ?_⟩; (focus ((try simp only [Ya, Ye, Yb, Yd, Yc, Yg, Ys, Yt, Yh, Yi, Yj, Yk, Yl, Ym, Yn, int_eq_le, Yo, Yp] at hgd); (try simp only [Act.put, Zs, Zz, Zc]); go_simp; (try simp (disch := omega) only [Yq, Yr]); (first | done | exact rfl | (intro _; exact rfl)))); simp only [Act.put, Zs, Zz, Zc])); (first | go_big_quiet_step (fail) | (refine wpQuiet_liftE (wanted_F2 rfl rfl rfl) ?_; (first | refine lift_moveL rfl rfl ?_ | refine lift_move rfl rfl ?_); simp only [Act.put, Zs, Zz, Zc]) | (refine wpQuiet_liftE (wanted_F rfl rfl rfl) ?_; (first | refine lift_moveL rfl rfl ?_ | refine lift_move rfl rfl ?_); simp only [Act.put, Zs, Zz, Zc])); (first | go_big_quiet_step (fail) | (refine wpQuiet_liftE (wanted_F2 rfl rfl rfl) ?_; refine lift_put (n := 70) rfl (fun h => h) ?_; refine lift_put (n := 71) rfl (fun h => h) ?_; refine lift_binOp_tt rfl rfl rfl ?_; apply Exists.intro; refine ⟨fun hgd => ?_, ?_⟩; (focus ((try simp only [Ya, Ye, Yb, Yd, Yc, Yg, Ys, Yt, Yh, Yi, Yj, Yk, Yl, Ym, Yn, int_eq_le, Yo, Yp] at hgd); (try simp only [Act.put, Zs, Zz, Zc]); go_simp; (try simp (disch := omega) only [Yq, Yr]); (first | done | exact rfl | (intro _; exact rfl)))); simp only [Act.put, Zs, Zz, Zc]) | (refine wpQuiet_liftE (wanted_F rfl rfl rfl) ?_; refine lift_put (n := 70) rfl (fun h => h) ?_; refine lift_put (n := 71) rfl (fun h => h) ?_; refine lift_binOp_tt rfl rfl rfl ?_; apply Exists.intro; refine ⟨fun hgd => ?_, ?_⟩; (focus ((try simp only [Ya, Ye, Yb, Yd, Yc, Yg, Ys, Yt, Yh, Yi, Yj, Yk, Yl, Ym, Yn, int_eq_le, Yo, Yp] at hgd); (try simp only [Act.put, Zs, Zz, Zc]); go_simp; (try simp (disch := omega) only [Yq, Yr]); (first | done | exact rfl | (intro _; exact rfl)))); simp only [Act.put, Zs, Zz, Zc])); (first | go_big_quiet_step (fail) | (refine wpQuiet_gpick_or (wanted_T rfl rfl rfl) rfl rfl rfl ?_; simp only [Act.put, Zs, Zz, Zc])); (first | (refine wpQuiet_pick_and rfl rfl rfl rfl ?_; simp only [Act.put, Zs, Zz, Zc]) | go_big_quiet_step (fail)); (with_reducible refine wpQuiet_nil ?_); intro wq hwq; subst hwq)))
    clear c0 c1 c2 c3 d0 z1 z2 hcd
    have x0 := b0
    have x1 := b1
    have x2 := b2
    have x3 := b3
    have hS : GrownX wq [] wq := GrownX.refl _ _
    refine wp_region_S (GrownX wq []) (by kernel_rfl) ?_
    refine name_wd (fun W101 hW => ?_)
    have hx : Ext wq W101 := by rw [hW]; exact ext_drew _
    clear hW
    replace hS := hS.ext hx
    replace b0 := b0.ext hx
    replace b1 := b1.ext hx
    replace b2 := b2.ext hx
    replace b3 := b3.ext hx
    replace tv := isT.ext hx tv
    replace ta := isT.ext hx ta
    replace tb := isT.ext hx tb
    replace hE := hE.trans hx
    clear hx
    replace qz : r3 < W101.heap.size := b3.lt
    refine wpAnyD_takeSL (i := 0) rfl (by kernel_rfl) (fun _ _ _ _ h => h) hS ?_
    apply Exists.intro
    refine ⟨Or.inl ⟨by rfl, ?_⟩, ?_⟩
    (focus (intro wz hz; (first | exact exec_ld 28 _ rfl rfl ((GrownX.blk hz x3 (by first | decide | (simp; done) | (simp; omega) | omega)).range) Try.underlying28 rfl (by exact Try.infoT))))
    (try simp only [Act.put, Zs, Zz, Zc])
    refine wpAnyD_takeSL (i := 1) rfl (by kernel_rfl) (fun _ _ _ _ h => h) hS ?_
    apply Exists.intro
    refine ⟨Or.inl ⟨by rfl, ?_⟩, ?_⟩
    (focus (intro wz hz; (first | exact exec_ld 25 _ rfl rfl ((GrownX.blk hz x2 (by first | decide | (simp; done) | (simp; omega) | omega)).range) Try.underlying25 rfl (by exact Try.infoR))))
    (try simp only [Act.put, Zs, Zz, Zc])
    refine wpAnyD_takeSL (i := 3) rfl (by kernel_rfl) (fun _ _ _ _ h => h) hS ?_
    apply Exists.intro
    refine ⟨Or.inl ⟨by rfl, ?_⟩, ?_⟩
    (focus (intro wz hz; go_simp; (try with_reducible rfl); done))
    (try simp only [Act.put, Zs, Zz, Zc])
    refine wpAnyD_takeSL (i := 4) rfl (by kernel_rfl) (fun _ _ _ _ h => h) hS ?_
    apply Exists.intro
    refine ⟨Or.inl ⟨by rfl, ?_⟩, ?_⟩
    (focus (intro wz hz; go_simp; (try with_reducible rfl); done))
    (try simp only [Act.put, Zs, Zz, Zc])
    refine wpAnyD_takeSL (i := 5) rfl (by kernel_rfl) (fun _ _ _ _ h => h) hS ?_
    apply Exists.intro
    refine ⟨Or.inl ⟨by rfl, ?_⟩, ?_⟩
    (focus (intro wz hz; go_simp; (try with_reducible rfl); done))
    (try simp only [Act.put, Zs, Zz, Zc])
    refine wpAnyD_oneL (i := 2) rfl (by kernel_rfl) (fun K hK => ?_)
    rw [if_pos (by rfl)]
    go_simp
    (go_at_call 30; refine (end_any y _ HV.out).mono ?_; intro e W102 hpp; obtain ⟨rfl, hx⟩ := hpp)
    replace hS := hS.ext hx; (try dsimp only); refine hK.out _ _ (fun _ => hS) ?_; clear hK K; (try simp only [Act.put, Zs, Zz, Zc])
    replace b0 := b0.ext hx
    replace b1 := b1.ext hx
    replace b2 := b2.ext hx
    replace b3 := b3.ext hx
    replace tv := isT.ext hx tv
    replace ta := isT.ext hx ta
    replace tb := isT.ext hx tb
    replace hE := hE.trans hx
    clear hx
    replace qz : r3 < W102.heap.size := b3.lt
    refine wpAnyD_oneL (i := 6) rfl (by kernel_rfl) (fun K hK => ?_)
    rw [if_pos (by rfl)]
    go_simp
    (go_at_call 50; refine (ihb (Lw A w.heap.size) y.e tt lo n vb _ tb gb ⟨by unfold RV.e; omega, by unfold RV.e; omega, t0, t1, l0, l1, n0, n1⟩).mono ?_; intro e W103 hpp; obtain ⟨rfl, hx⟩ := hpp)
    replace hS := hS.ext hx; (try dsimp only); refine hK.out _ _ (fun _ => hS) ?_; clear hK K; (try simp only [Act.put, Zs, Zz, Zc])
    replace b0 := b0.ext hx
    replace b1 := b1.ext hx
    replace b2 := b2.ext hx
    replace b3 := b3.ext hx
    replace tv := isT.ext hx tv
    replace ta := isT.ext hx ta
    replace tb := isT.ext hx tb
    replace hE := hE.trans hx
    clear hx
    replace qz : r3 < W103.heap.size := b3.lt
    refine wpAnyD_oneL (i := 7) rfl (by kernel_rfl) (fun K hK => ?_)
    rw [if_pos (by rfl)]
    go_simp
    (try dsimp only); refine hK.out _ _ (fun _ => hS) ?_; clear hK K; (try simp only [Act.put, Zs, Zz, Zc])
    refine wpAnyD_done (by kernel_rfl) ?_ _
    clear hS x0 x1 x2 x3
    go_wp2_with fail
    go_ret
    exact ⟨ret_i (by rw [HQ2.out, hB, if_neg (fun h => Bool.noConfusion h.1)]), hE⟩
  | true =>
    have c0 : W8.cell? ⟨r1, 0, none⟩ = some (.int .i64 va.h) := b1.cell 0
    have c1 : W8.cell? ⟨r1, 1, none⟩ = some (.int .i64 va.f) := b1.cell 1
    have c2 : W8.cell? ⟨r1, 2, none⟩ = some (.int .i64 va.l) := b1.cell 2
    have c3 : W8.cell? ⟨r1, 3, none⟩ = some (.int .i64 va.g) := b1.cell 3
    have d0 : W8.cell? ⟨r2, 0, none⟩ = some (.int .i64 y.s) := b2.cell 0
    have z1 : LtD r1 W8.heap.size := b1.lt
    have z2 : LtD r2 W8.heap.size := b2.lt
    go_upto_region 8 with (first | ((with_reducible (apply wp_cond_split)); rfl; (all_goals intro hcd); (all_goals (first | (exfalso; exact Bool.noConfusion hcd) | (exfalso; rw [hB] at hcd; exact Bool.noConfusion hcd) | ((try simp only [hcd]); go_prune)))) | ((with_reducible (apply wp_cond_split)); rfl; (all_goals intro hcd); (all_goals (first | (exfalso; exact Bool.noConfusion hcd) | ((try simp only [hcd]); go_prune)))) | ((fail_if_success go_not_at_region 7); ((with_reducible refine wp_region_same ?_); (first | go_big_quiet_step (fail) | quiet_step (fail)); (first | go_big_quiet_step (fail) | quiet_step (fail)); (first | go_big_quiet_step (fail) | quiet_step (fail)); (first | go_big_quiet_step (fail) | quiet_step (fail)); (first | go_big_quiet_step (fail) | quiet_step (fail)); (first | go_big_quiet_step (fail) | quiet_step (fail)); (first | go_big_quiet_step (fail) | quiet_step (fail)); (first | go_big_quiet_step (fail) | (refine wpQuiet_liftE (wanted_T rfl rfl rfl) ?_; refine lift_fieldAddr rfl rfl ?_; apply Exists.intro; refine ⟨fun hgd => ?_, ?_⟩; (focus ((try simp only [Ya, Ye, Yb, Yd, Yc, Yg, Ys, Yt, Yh, Yi, Yj, Yk, Yl, Ym, Yn, int_eq_le, Yo, Yp] at hgd); (try simp only [Act.put, Zs, Zz, Zc]); go_simp; (try simp (disch := omega) only [Yq, Yr]); (first | done | exact rfl | (intro _; exact rfl)))); simp only [Act.put, Zs, Zz, Zc])); (first | go_big_quiet_step (fail) | (refine wpQuiet_liftE (wanted_T rfl rfl rfl) ?_; refine lift_put (n := 48) rfl (fun h => h) ?_; refine lift_load rfl rfl ?_; apply Exists.intro; refine ⟨fun hgd => ?_, ?_⟩; (focus ((try simp only [Ya, Ye, Yb, Yd, Yc, Yg, Ys, Yt, Yh, Yi, Yj, Yk, Yl, Ym, Yn, int_eq_le, Yo, Yp] at hgd); (try simp only [Act.put, Zs, Zz, Zc]); go_simp; (try simp (disch := omega) only [Yq, Yr]); (first | done | exact rfl | (intro _; exact rfl)))); simp only [Act.put, Zs, Zz, Zc])); (first | go_big_quiet_step (fail) | (refine wpQuiet_liftE (wanted_T rfl rfl rfl) ?_; refine lift_put (n := 49) rfl (fun h => h) ?_; refine lift_binOp_tc rfl rfl ?_; apply Exists.intro; refine ⟨fun hgd => ?_, ?_⟩; (focus ((try simp only [Ya, Ye, Yb, Yd, Yc, Yg, Ys, Yt, Yh, Yi, Yj, Yk, Yl, Ym, Yn, int_eq_le, Yo, Yp] at hgd); (try simp only [Act.put, Zs, Zz, Zc]); go_simp; (try simp (disch := omega) only [Yq, Yr]); (first | done | exact rfl | (intro _; exact rfl)))); simp only [Act.put, Zs, Zz, Zc])); (first | go_big_quiet_step (fail) | (refine wpQuiet_liftE (wanted_T rfl rfl rfl) ?_; refine lift_put (n := 50) rfl (fun h => h) ?_; (first | refine lift_moveL rfl rfl ?_ | refine lift_move rfl rfl ?_); simp only [Act.put, Zs, Zz, Zc])); (first | go_big_quiet_step (fail) | (refine wpQuiet_liftE (wanted_F2 rfl rfl rfl) ?_; refine lift_fieldAddr rfl rfl ?_; apply Exists.intro; refine ⟨fun hgd => ?_, ?_⟩; (focus ((try simp only [Ya, Ye, Yb, Yd, Yc, Yg, Ys, Yt, Yh, Yi, Yj, Yk, Yl, Ym, Yn, int_eq_le, Yo, Yp] at hgd); (try simp only [Act.put, Zs, Zz, Zc]); go_simp; (try simp (disch := omega) only [Yq, Yr]); (first | done | exact rfl | (intro _; exact rfl)))); simp only [Act.put, Zs, Zz, Zc]) | (refine wpQuiet_liftE (wanted_F rfl rfl rfl) ?_; refine lift_fieldAddr rfl rfl ?_; apply Exists.intro; refine ⟨fun hgd => ?_, ?_⟩; (focus ((try simp only [Ya, Ye, Yb, Yd, Yc, Yg, Ys, Yt, Yh, Yi, Yj, Yk, Yl, Ym, Yn, int_eq_le, Yo, Yp] at hgd); (try simp only [Act.put, Zs, Zz, Zc]); go_simp; (try simp (disch := omega) only [Yq, Yr]); (first | done | exact rfl | (intro _; exact rfl)))); simp only [Act.put, Zs, Zz, Zc])); (first | go_big_quiet_step (fail) | (refine wpQuiet_liftE (wanted_F2 rfl rfl rfl) ?_; refine lift_put (n := 52) rfl (fun h => h) ?_; refine lift_load rfl rfl ?_; apply Exists.intro; refine ⟨fun hgd => ?_, ?_⟩; (focus ((try simp only [Ya, Ye, Yb, Yd, Yc, Yg, Ys, Yt, Yh, Yi, Yj, Yk, Yl, Ym, Yn, int_eq_le, Yo, Yp] at hgd); (try simp only [Act.put, Zs, Zz, Zc]); go_simp; (try simp (disch := omega) only [Yq, Yr]); (first | done | exact rfl | (intro _; exact rfl)))); simp only [Act.put, Zs, Zz, Zc]) | (refine wpQuiet_liftE (wanted_F rfl rfl rfl) ?_; refine lift_put (n := 52) rfl (fun h => h) ?_; refine lift_load rfl rfl ?_; apply Exists.intro; refine ⟨fun hgd => ?_, ?_⟩; (focus ((try simp only [Ya, Ye, Yb, Yd, Yc, Yg, Ys, Yt, Yh, Yi, Yj, Yk, Yl, Ym, Yn, int_eq_le, Yo, Yp] at hgd); (try simp only [Act.put, Zs, Zz, Zc]); go_simp; (try simp (disch := omega) only [Yq, Yr]); (first | done | exact rfl | (intro _; exact rfl)))); simp only [Act.put, Zs, Zz, Zc])); (first | go_big_quiet_step (fail) | (refine wpQuiet_liftE (wanted_F2 rfl rfl rfl) ?_; (first | refine lift_moveL rfl rfl ?_ | refine lift_move rfl rfl ?_); simp only [Act.put, Zs, Zz, Zc]) | (refine wpQuiet_liftE (wanted_F rfl rfl rfl) ?_; (first | refine lift_moveL rfl rfl ?_ | refine lift_move rfl rfl ?_); simp only [Act.put, Zs, Zz, Zc])); (first | go_big_quiet_step (fail) | (refine wpQuiet_liftE (wanted_F2 rfl rfl rfl) ?_; refine lift_put (n := 53) rfl (fun h => h) ?_; refine lift_put (n := 54) rfl (fun h => h) ?_; refine lift_binOp_tt rfl rfl rfl ?_; apply Exists.intro; refine ⟨fun hgd => ?_, ?_⟩; (focus ((try simp only [Ya, Ye, Yb, Yd, Yc, Yg, Ys, Yt, Yh, Yi, Yj, Yk, Yl, Ym, Yn, int_eq_le, Yo, Yp] at hgd); (try simp only [Act.put, Zs, Zz, Zc]); go_simp; (try simp (disch := omega) only [Yq, Yr]); (first | done | exact rfl | (intro _; exact rfl)))); simp only [Act.put, Zs, Zz, Zc]) | (refine wpQuiet_liftE (wanted_F rfl rfl rfl) ?_; refine lift_put (n := 53) rfl (fun h => h) ?_; refine lift_put (n := 54) rfl (fun h => h) ?_; refine lift_binOp_tt rfl rfl rfl ?_; apply Exists.intro; refine ⟨fun hgd => ?_, ?_⟩; (focus ((try simp only [Ya, Ye, Yb, Yd, Yc, Yg, Ys, Yt, Yh, Yi, Yj, Yk, Yl, Ym, Yn, int_eq_le, Yo, Yp] at hgd); (try simp only [Act.put, Zs, Zz, Zc]); go_simp; (try simp (disch := omega) only [Yq, Yr]); (first | done | exact rfl | (intro _; exact rfl)))); simp only [Act.put, Zs, Zz, Zc])); (first | go_big_quiet_step (fail) | (refine wpQuiet_gpick_or (wanted_T rfl rfl rfl) rfl rfl rfl ?_; simp only [Act.put, Zs, Zz, Zc])); (first | go_big_quiet_step (fail) | (refine wpQuiet_liftE (wanted_T rfl rfl rfl) ?_; refine lift_put (n := 56) rfl (fun h => h) ?_; (first | refine lift_moveL rfl rfl ?_ | refine lift_move rfl rfl ?_); simp only [Act.put, Zs, Zz, Zc])); (first | go_big_quiet_step (fail) | (refine wpQuiet_liftE (wanted_F2 rfl rfl rfl) ?_; refine lift_fieldAddr rfl rfl ?_; apply Exists.intro; refine ⟨fun hgd => ?_, ?_⟩; (focus ((try simp only [Ya, Ye, Yb, Yd, Yc, Yg, Ys, Yt, Yh, Yi, Yj, Yk, Yl, Ym, Yn, int_eq_le, Yo, Yp] at hgd); (try simp only [Act.put, Zs, Zz, Zc]); go_simp; (try simp (disch := omega) only [Yq, Yr]); (first | done | exact rfl | (intro _; exact rfl)))); simp only [Act.put, Zs, Zz, Zc]) | (refine wpQuiet_liftE (wanted_F rfl rfl rfl) ?_; refine lift_fieldAddr rfl rfl ?_; apply Exists.intro; refine ⟨fun hgd => ?_, ?_⟩; (focus ((try simp only [Ya, Ye, Yb, Yd, Yc, Yg, Ys, Yt, Yh, Yi, Yj, Yk, Yl, Ym, Yn, int_eq_le, Yo, Yp] at hgd); (try simp only [Act.put, Zs, Zz, Zc]); go_simp; (try simp (disch := omega) only [Yq, Yr]); (first | done | exact rfl | (intro _; exact rfl)))); simp only [Act.put, Zs, Zz, Zc])); (first | go_big_quiet_step (fail) | (refine wpQuiet_liftE (wanted_F2 rfl rfl rfl) ?_; refine lift_put (n := 58) rfl (fun h => h) ?_; refine lift_load rfl rfl ?_; apply Exists.intro; refine ⟨fun hgd => ?_, ?_⟩; (focus ((try simp only [Ya, Ye, Yb, Yd, Yc, Yg, Ys, Yt, Yh, Yi, Yj, Yk, Yl, Ym, Yn, int_eq_le, Yo, Yp] at hgd); (try simp only [Act.put, Zs, Zz, Zc]); go_simp; (try simp (disch := omega) only [Yq, Yr]); (first | done | exact rfl | (intro _; exact rfl)))); simp only [Act.put, Zs, Zz, Zc]) | (refine wpQuiet_liftE (wanted_F rfl rfl rfl) ?_; refine lift_put (n := 58) rfl (fun h => h) ?_; refine lift_load rfl rfl ?_; apply Exists.intro; refine ⟨fun hgd => ?_, ?_⟩; (focus ((try simp only [Ya, Ye, Yb, Yd, Yc, Yg, Ys, Yt, Yh, Yi, Yj, Yk, Yl, Ym, Yn, int_eq_le, Yo, Yp] at hgd); (try simp only [Act.put, Zs, Zz, Zc]); go_simp; (try simp (disch := omega) only [Yq, Yr]); (first | done | exact rfl | (intro _; exact rfl)))); simp only [Act.put, Zs, Zz, Zc])); (first | go_big_quiet_step (fail) | (refine wpQuiet_liftE (wanted_F2 rfl rfl rfl) ?_; (first | refine lift_moveL rfl rfl ?_ | refine lift_move rfl rfl ?_); simp only [Act.put, Zs, Zz, Zc]) | (refine wpQuiet_liftE (wanted_F rfl rfl rfl) ?_; (first | refine lift_moveL rfl rfl ?_ | refine lift_move rfl rfl ?_); simp only [Act.put, Zs, Zz, Zc])); (first | go_big_quiet_step (fail) | (refine wpQuiet_liftE (wanted_F2 rfl rfl rfl) ?_; refine lift_put (n := 59) rfl (fun h => h) ?_; refine lift_put (n := 60) rfl (fun h => h) ?_; refine lift_binOp_tt rfl rfl rfl ?_; apply Exists.intro; refine ⟨fun hgd => ?_, ?_⟩; (focus ((try simp only [Ya, Ye, Yb, Yd, Yc, Yg, Ys, Yt, Yh, Yi, Yj, Yk, Yl, Ym, Yn, int_eq_le, Yo, Yp] at hgd); (try simp only [Act.put, Zs, Zz, Zc]); go_simp; (try simp (disch := omega) only [Yq, Yr]); (first | done | exact rfl | (intro _; exact rfl)))); simp only [Act.put, Zs, Zz, Zc]) | (refine wpQuiet_liftE (wanted_F rfl rfl rfl) ?_; refine lift_put (n := 59) rfl (fun h => h) ?_; refine lift_put (n := 60) rfl (fun h => h) ?_; refine lift_binOp_tt rfl rfl rfl ?_; apply Exists.intro; refine ⟨fun hgd => ?_, ?_⟩; (focus ((try simp only [Ya, Ye, Yb, Yd, Yc, Yg, Ys, Yt, Yh, Yi, Yj, Yk, Yl, Ym, Yn, int_eq_le, Yo, Yp] at hgd); (try simp only [Act.put, Zs, Zz, Zc]); go_simp; (try simp (disch := omega) only [Yq, Yr]); (first | done | exact rfl | (intro _; exact rfl)))); simp only [Act.put, Zs, Zz, Zc])); (first | go_big_quiet_step (fail) | (refine wpQuiet_liftE (wanted_F2 rfl rfl rfl) ?_; (first | refine lift_moveL rfl rfl ?_ | refine lift_move rfl rfl ?_); simp only [Act.put, Zs, Zz, Zc]) | (refine wpQuiet_liftE (wanted_F rfl rfl rfl) ?_; (first | refine lift_moveL rfl rfl ?_ | refine lift_move rfl rfl ?_); simp only [Act.put, Zs, Zz, Zc])); (first | go_big_quiet_step (fail) | (refine wpQuiet_liftE (wanted_F2 rfl rfl rfl) ?_; refine lift_put (n := 61) rfl (fun h => h) ?_; refine lift_put (n := 62) rfl (fun h => h) ?_; refine lift_binOp_tt rfl rfl rfl ?_; apply Exists.intro; refine ⟨fun hgd => ?_, ?_⟩; (focus ((try simp only [Ya, Ye, Yb, Yd, Yc, Yg, Ys, Yt, Yh, Yi, Yj, Yk, Yl, Ym, Yn, int_eq_le, Yo, Yp] at hgd); (try simp only [Act.put, Zs, Zz, Zc]); go_simp; (try simp (disch := omega) only [Yq, Yr]); (first | done | exact rfl | (intro _; exact rfl)))); simp only [Act.put, Zs, Zz, Zc]) | (refine wpQuiet_liftE (wanted_F rfl rfl rfl) ?_; refine lift_put (n := 61) rfl (fun h => h) ?_; refine lift_put (n := 62) rfl (fun h => h) ?_; refine lift_binOp_tt rfl rfl rfl ?_; apply Exists.intro; refine ⟨fun hgd => ?_, ?_⟩; (focus ((try simp only [Ya, Ye, Yb, Yd, Yc, Yg, Ys, Yt, Yh, Yi, Yj, Yk, Yl, Ym, Yn, int_eq_le, Yo, Yp] at hgd); (try simp only [Act.put, Zs, Zz, Zc]); go_simp; (try simp (disch := omega) only [Yq, Yr]); (first | done | exact rfl | (intro _; exact rfl)))); simp only [Act.put, Zs, Zz, Zc])); (first | go_big_quiet_step (fail) | (refine wpQuiet_gpick_or (wanted_T rfl rfl rfl) rfl rfl rfl ?_; simp only [Act.put, Zs, Zz, Zc])); (first | go_big_quiet_step (fail) | (refine wpQuiet_liftE (wanted_T rfl rfl rfl) ?_; refine lift_put (n := 64) rfl (fun h => h) ?_; (first | refine lift_moveL rfl rfl ?_ | refine lift_move rfl rfl ?_); simp only [Act.put, Zs, Zz, Zc])); (first | go_big_quiet_step (fail) | (refine wpQuiet_liftE (wanted_F2 rfl rfl rfl) ?_; refine lift_fieldAddr rfl rfl ?_; apply Exists.intro; refine ⟨fun hgd => ?_, ?_⟩; (focus ((try simp only [Ya, Ye, Yb, Yd, Yc, Yg, Ys, Yt, Yh, Yi, Yj, Yk, Yl, Ym, Yn, int_eq_le, Yo, Yp] at hgd); (try simp only [Act.put, Zs, Zz, Zc]); go_simp; (try simp (disch := omega) only [Yq, Yr]); (first | done | exact rfl | (intro _; exact rfl)))); simp only [Act.put, Zs, Zz, Zc]) | (refine wpQuiet_liftE (wanted_F rfl rfl rfl) ?_; refine lift_fieldAddr rfl rfl ?_; apply Exists.intro; refine ⟨fun hgd => ?_, ?_⟩; (focus ((try simp only [Ya, Ye, Yb, Yd, Yc, Yg, Ys, Yt, Yh, Yi, Yj, Yk, Yl, Ym, Yn, int_eq_le, Yo, Yp] at hgd); (try simp only [Act.put, Zs, Zz, Zc]); go_simp; (try simp (disch := omega) only [Yq, Yr]); (first | done | exact rfl | (intro _; exact rfl)))); simp only [Act.put, Zs, Zz, Zc])); (first | go_big_quiet_step (fail) | (refine wpQuiet_liftE (wanted_F2 rfl rfl rfl) ?_; refine lift_put (n := 66) rfl (fun h => h) ?_; refine lift_load rfl rfl ?_; apply Exists.intro; refine ⟨fun hgd => ?_, ?_⟩; (focus ((try simp only [Ya, Ye, Yb, Yd, Yc, Yg, Ys, Yt, Yh, Yi, Yj, Yk, Yl, Ym, Yn, int_eq_le, Yo, Yp] at hgd); (try simp only [Act.put, Zs, Zz, Zc]); go_simp; (try simp (disch := omega) only [Yq, Yr]); (first | done | exact rfl | (intro _; exact rfl)))); simp only [Act.put, Zs, Zz, Zc]) | (refine wpQuiet_liftE (wanted_F rfl rfl rfl) ?_; refine lift_put (n := 66) rfl (fun h => h) ?_; refine lift_load rfl rfl ?_; apply Exists.intro; refine ⟨fun hgd => ?_, ?_⟩; (focus ((try simp only [Ya, Ye, Yb, Yd, Yc, Yg, Ys, Yt, Yh, Yi, Yj, Yk, Yl, Ym, Yn, int_eq_le, Yo, Yp] at hgd); (try simp only [Act.put, Zs, Zz, Zc]); go_simp; (try simp (disch := omega) only [Yq, Yr]); (first | done | exact rfl | (intro _; exact rfl)))); simp only [Act.put, Zs, Zz, Zc])); (first | go_big_quiet_step (fail) | (refine wpQuiet_liftE (wanted_F2 rfl rfl rfl) ?_; refine lift_fieldAddr rfl rfl ?_; apply Exists.intro; refine ⟨fun hgd => ?_, ?_⟩; (focus ((try simp only [Ya, Ye, Yb, Yd, Yc, Yg, Ys, Yt, Yh, Yi, Yj, Yk, Yl, Ym, Yn, int_eq_le, Yo, Yp] at hgd); (try simp only [Act.put, Zs, Zz, Zc]); go_simp; (try simp (disch := omega) only [Yq, Yr]); (first | done | exact rfl | (intro _; exact rfl)))); simp only [Act.put, Zs, Zz, Zc]) | (refine wpQuiet_liftE (wanted_F rfl rfl rfl) ?_; refine lift_fieldAddr rfl rfl ?_; apply Exists.intro; refine ⟨fun hgd => ?_, ?_⟩; (focus ((try simp only [Ya, Ye, Yb, Yd, Yc, Yg, Ys, Yt, Yh, Yi, Yj, Yk, Yl, Ym, Yn, int_eq_le, Yo, Yp] at hgd); (try simp only [Act.put, Zs, Zz, Zc]); go_simp; (try simp (disch := omega) only [Yq, Yr]); (first | done | exact rfl | (intro _; exact rfl)))); simp only [Act.put, Zs, Zz, Zc])); (first | go_big_quiet_step (fail) | (refine wpQuiet_liftE (wanted_F2 rfl rfl rfl) ?_; refine lift_put (n := 68) rfl (fun h => h) ?_; refine lift_load rfl rfl ?_; apply Exists.intro; refine ⟨fun hgd => ?_, ?_⟩; (focus ((try simp only [Ya, Ye, Yb, Yd, Yc, Yg, Ys, Yt, Yh, Yi, Yj, Yk, Yl, Ym, Yn, int_eq_le, Yo, Yp] at hgd); (try simp only [Act.put, Zs, Zz, Zc]); go_simp; (try simp (disch := omega) only [Yq, Yr]); (first | done | exact rfl | (intro _; exact rfl)))); simp only [Act.put, Zs, Zz, Zc]) | (refine wpQuiet_liftE (wanted_F rfl rfl rfl) ?_; refine lift_put (n := 68) rfl (fun h => h) ?_; refine lift_load rfl rfl ?_; apply Exists.intro; refine ⟨fun hgd => ?_, ?_⟩; (focus ((try simp only [Ya, Ye, Yb, Yd, Yc, Yg, Ys, Yt, Yh, Yi, Yj, Yk, Yl, Ym, Yn, int_eq_le, Yo, Yp] at hgd); (try simp only [Act.put, Zs, Zz, Zc]); go_simp; (try simp (disch := omega) only [Yq, Yr]); (first | done | exact rfl | (intro _; exact rfl)))); simp only [Act.put, Zs, Zz, Zc])); (first | go_big_quiet_step (fail) | (refine wpQuiet_liftE (wanted_F2 rfl rfl rfl) ?_; refine lift_put (n := 67) rfl (fun h => h) ?_; refine lift_put (n := 69) rfl (fun h => h) ?_; refine lift_binOp_tt rfl rfl rfl ?_; apply Exists.intro; refine ⟨fun hgd => ?_, ?_⟩; (focus ((try simp only [Ya, Ye, Yb, Yd, Yc, Yg, Ys, Yt, Yh, Yi, Yj, Yk, Yl, Ym, Yn, int_eq_le, Yo, Yp] at hgd); (try simp only [Act.put, Zs, Zz, Zc]); go_simp; (try simp (disch := omega) only [Yq, Yr]); (first | done | exact rfl | (intro _; exact rfl)))); simp only [Act.put, Zs, Zz, Zc]) | (refine wpQuiet_liftE (wanted_F rfl rfl rfl) ?_; refine lift_put (n := 67) rfl (fun h => h) ?_; refine lift_put (n := 69) rfl (fun h => h) ?_; refine lift_binOp_tt rfl rfl rfl ?_; apply Exists.intro; refine ⟨fun hgd => ?_, ?_⟩; (focus ((try simp only [Ya, Ye, Yb, Yd, Yc, Yg, Ys, Yt, Yh, Yi, Yj, Yk, Yl, Ym, Yn, int_eq_le, Yo, Yp] at hgd); (try simp only [Act.put, Zs, Zz, Zc]); go_simp; (try simp (disch := omega) only [Yq, Yr]); (first | done | exact rfl | (intro _; exact rfl)))); simp only [Act.put, Zs, Zz, Zc])); (first | go_big_quiet_step (fail) | (refine wpQuiet_liftE (wanted_F2 rfl rfl rfl) ?_; (first | refine lift_moveL rfl rfl ?_ | refine lift_move rfl rfl ?_); simp only [Act.put, Zs, Zz, Zc]) | (refine wpQuiet_liftE (wanted_F rfl rfl rfl) ?_; (first | refine lift_moveL rfl rfl ?_ | refine lift_move rfl rfl ?_); simp only [Act.put, Zs, Zz, Zc])); (first | go_big_quiet_step (fail) | (refine wpQuiet_liftE (wanted_F2 rfl rfl rfl) ?_; refine lift_put (n := 70) rfl (fun h => h) ?_; refine lift_put (n := 71) rfl (fun h => h) ?_; refine lift_binOp_tt rfl rfl rfl ?_; apply Exists.intro; refine ⟨fun hgd => ?_, ?_⟩; (focus ((try simp only [Ya, Ye, Yb, Yd, Yc, Yg, Ys, Yt, Yh, Yi, Yj, Yk, Yl, Ym, Yn, int_eq_le, Yo, Yp] at hgd); (try simp only [Act.put, Zs, Zz, Zc]); go_simp; (try simp (disch := omega) only [Yq, Yr]); (first | done | exact rfl | (intro _; exact rfl)))); simp only [Act.put, Zs, Zz, Zc]) | (refine wpQuiet_liftE (wanted_F rfl rfl rfl) ?_; refine lift_put (n := 70) rfl (fun h => h) ?_; refine lift_put (n := 71) rfl (fun h => h) ?_; refine lift_binOp_tt rfl rfl rfl ?_; apply Exists.intro; refine ⟨fun hgd => ?_, ?_⟩; (focus ((try simp only [Ya, Ye, Yb, Yd, Yc, Yg, Ys, Yt, Yh, Yi, Yj, Yk, Yl, Ym, Yn, int_eq_le, Yo, Yp] at hgd); (try simp only [Act.put, Zs, Zz, Zc]); go_simp; (try simp (disch := omega) only [Yq, Yr]); (first | done | exact rfl | (intro _; exact rfl)))); simp only [Act.put, Zs, Zz, Zc])); (first | go_big_quiet_step (fail) | (refine wpQuiet_gpick_or (wanted_T rfl rfl rfl) rfl rfl rfl ?_; simp only [Act.put, Zs, Zz, Zc])); (first | (refine wpQuiet_pick_and rfl rfl rfl rfl ?_; simp only [Act.put, Zs, Zz, Zc]) | go_big_quiet_step (fail)); (with_reducible refine wpQuiet_nil ?_); intro wq hwq; subst hwq)))
    clear c0 c1 c2 c3 d0 z1 z2 hcd
    refine wp_region_lit ?_
    refine wpList_plain rfl (fun K hK => ?_); (first | (refine wp_ld 28 _ (b1.range) (by rfl) (by rfl) Try.underlying28 rfl (by exact Try.infoT) ?_)); (try dsimp only); refine hK _ _ ?_; clear hK K; (try simp only [Act.put, Zs, Zz, Zc])
    iterate 2 (refine wpList_plain rfl (fun K hK => ?_); go_simp; (try dsimp only); refine hK _ _ ?_; clear hK K; (try simp only [Act.put, Zs, Zz, Zc]))
    refine wpList_plain rfl (fun K hK => ?_); have zc := b2.cell 0; go_simp; clear zc; (try dsimp only); refine hK _ _ ?_; clear hK K; (try simp only [Act.put, Zs, Zz, Zc])
    iterate 2 (refine wpList_plain rfl (fun K hK => ?_); go_simp; (try dsimp only); refine hK _ _ ?_; clear hK K; (try simp only [Act.put, Zs, Zz, Zc]))
    refine wpList_plain rfl (fun K hK => ?_); go_simp; (go_at_call 50; refine (iha (Lw A w.heap.size) fr y.s lo n va _ ta ga ⟨f0, f1, by omega, by omega, l0, l1, n0, n1⟩).mono ?_; intro e W201 hpp; obtain ⟨rfl, hx⟩ := hpp); (try dsimp only); refine hK _ _ ?_; clear hK K; (try simp only [Act.put, Zs, Zz, Zc])
    replace b0 := b0.ext hx
    replace b1 := b1.ext hx
    replace b2 := b2.ext hx
    replace b3 := b3.ext hx
    replace tv := isT.ext hx tv
    replace ta := isT.ext hx ta
    replace tb := isT.ext hx tb
    replace hE := hE.trans hx
    clear hx
    replace qz : r3 < W201.heap.size := b3.lt
    refine wpList_plain rfl (fun K hK => ?_); go_simp; (try dsimp only); refine hK _ _ ?_; clear hK K; (try simp only [Act.put, Zs, Zz, Zc])
    refine wpList_nil ?_
    by_cases h2 : 0 ≤ gapP a fr y.s lo n
    · go_upto_region 9 with fail
      refine wp_region_lit ?_
      refine wpList_plain rfl (fun K hK => ?_); go_simp; (try dsimp only); refine hK _ _ ?_; clear hK K; (try simp only [Act.put, Zs, Zz, Zc])
      refine wpList_plain rfl (fun K hK => ?_); go_simp; (try simp (disch := omega) only [Yq, Yr]); (try dsimp only); refine hK _ _ ?_; clear hK K; (try simp only [Act.put, Zs, Zz, Zc])
      refine wpList_nil ?_
      go_upto_region 10 with fail
      refine wp_region_lit ?_
      iterate 2 (refine wpList_plain rfl (fun K hK => ?_); go_simp; (try dsimp only); refine hK _ _ ?_; clear hK K; (try simp only [Act.put, Zs, Zz, Zc]))
      refine wpList_nil ?_
      go_wp2_with fail
      go_ret
      exact ⟨ret_i (by rw [HQ2.out, hB, if_pos ⟨rfl, h2⟩]), hE⟩
    · go_upto_region 9 with fail
      refine wp_region_lit ?_
      refine wpList_plain rfl (fun K hK => ?_); go_simp; (try dsimp only); refine hK _ _ ?_; clear hK K; (try simp only [Act.put, Zs, Zz, Zc])
      refine wpList_plain rfl (fun K hK => ?_); go_simp; (try simp (disch := omega) only [Yq, Yr]); (try dsimp only); refine hK _ _ ?_; clear hK K; (try simp only [Act.put, Zs, Zz, Zc])
      refine wpList_nil ?_
      go_upto_region 11 with fail
      have x0 := b0
      have x1 := b1
      have x2 := b2
      have x3 := b3
      have hS : GrownX W201 [] W201 := GrownX.refl _ _
      refine wp_region_S (GrownX W201 []) (by kernel_rfl) ?_
      refine name_wd (fun W401 hW => ?_)
      have hx : Ext W201 W401 := by rw [hW]; exact ext_drew _
      clear hW
      replace hS := hS.ext hx
      replace b0 := b0.ext hx
      replace b1 := b1.ext hx
      replace b2 := b2.ext hx
      replace b3 := b3.ext hx
      replace tv := isT.ext hx tv
      replace ta := isT.ext hx ta
      replace tb := isT.ext hx tb
      replace hE := hE.trans hx
      clear hx
      replace qz : r3 < W401.heap.size := b3.lt
      refine wpAnyD_takeSL (i := 0) rfl (by kernel_rfl) (fun _ _ _ _ h => h) hS ?_
      apply Exists.intro
      refine ⟨Or.inl ⟨by rfl, ?_⟩, ?_⟩
      (focus (intro wz hz; (first | exact exec_ld 28 _ rfl rfl ((GrownX.blk hz x3 (by first | decide | (simp; done) | (simp; omega) | omega)).range) Try.underlying28 rfl (by exact Try.infoT))))
      (try simp only [Act.put, Zs, Zz, Zc])
      refine wpAnyD_takeSL (i := 1) rfl (by kernel_rfl) (fun _ _ _ _ h => h) hS ?_
      apply Exists.intro
      refine ⟨Or.inl ⟨by rfl, ?_⟩, ?_⟩
      (focus (intro wz hz; (first | exact exec_ld 25 _ rfl rfl ((GrownX.blk hz x2 (by first | decide | (simp; done) | (simp; omega) | omega)).range) Try.underlying25 rfl (by exact Try.infoR))))
      (try simp only [Act.put, Zs, Zz, Zc])
      refine wpAnyD_takeSL (i := 3) rfl (by kernel_rfl) (fun _ _ _ _ h => h) hS ?_
      apply Exists.intro
      refine ⟨Or.inl ⟨by rfl, ?_⟩, ?_⟩
      (focus (intro wz hz; go_simp; (try with_reducible rfl); done))
      (try simp only [Act.put, Zs, Zz, Zc])
      refine wpAnyD_takeSL (i := 4) rfl (by kernel_rfl) (fun _ _ _ _ h => h) hS ?_
      apply Exists.intro
      refine ⟨Or.inl ⟨by rfl, ?_⟩, ?_⟩
      (focus (intro wz hz; go_simp; (try with_reducible rfl); done))
      (try simp only [Act.put, Zs, Zz, Zc])
      refine wpAnyD_takeSL (i := 5) rfl (by kernel_rfl) (fun _ _ _ _ h => h) hS ?_
      apply Exists.intro
      refine ⟨Or.inl ⟨by rfl, ?_⟩, ?_⟩
      (focus (intro wz hz; go_simp; (try with_reducible rfl); done))
      (try simp only [Act.put, Zs, Zz, Zc])
      refine wpAnyD_oneL (i := 2) rfl (by kernel_rfl) (fun K hK => ?_)
      rw [if_pos (by rfl)]
      go_simp
      (go_at_call 30; refine (end_any y _ HV.out).mono ?_; intro e W402 hpp; obtain ⟨rfl, hx⟩ := hpp)
      replace hS := hS.ext hx; (try dsimp only); refine hK.out _ _ (fun _ => hS) ?_; clear hK K; (try simp only [Act.put, Zs, Zz, Zc])
      replace b0 := b0.ext hx
      replace b1 := b1.ext hx
      replace b2 := b2.ext hx
      replace b3 := b3.ext hx
      replace tv := isT.ext hx tv
      replace ta := isT.ext hx ta
      replace tb := isT.ext hx tb
      replace hE := hE.trans hx
      clear hx
      replace qz : r3 < W402.heap.size := b3.lt
      refine wpAnyD_oneL (i := 6) rfl (by kernel_rfl) (fun K hK => ?_)
      rw [if_pos (by rfl)]
      go_simp
      (go_at_call 50; refine (ihb (Lw A w.heap.size) y.e tt lo n vb _ tb gb ⟨by unfold RV.e; omega, by unfold RV.e; omega, t0, t1, l0, l1, n0, n1⟩).mono ?_; intro e W403 hpp; obtain ⟨rfl, hx⟩ := hpp)
      replace hS := hS.ext hx; (try dsimp only); refine hK.out _ _ (fun _ => hS) ?_; clear hK K; (try simp only [Act.put, Zs, Zz, Zc])
      replace b0 := b0.ext hx
      replace b1 := b1.ext hx
      replace b2 := b2.ext hx
      replace b3 := b3.ext hx
      replace tv := isT.ext hx tv
      replace ta := isT.ext hx ta
      replace tb := isT.ext hx tb
      replace hE := hE.trans hx
      clear hx
      replace qz : r3 < W403.heap.size := b3.lt
      refine wpAnyD_oneL (i := 7) rfl (by kernel_rfl) (fun K hK => ?_)
      rw [if_pos (by rfl)]
      go_simp
      (try dsimp only); refine hK.out _ _ (fun _ => hS) ?_; clear hK K; (try simp only [Act.put, Zs, Zz, Zc])
      refine wpAnyD_done (by kernel_rfl) ?_ _
      clear hS x0 x1 x2 x3
      go_wp2_with fail
      go_ret
      exact ⟨ret_i (by rw [HQ2.out, hB, if_neg (fun h => by have := h.2; omega)]), hE⟩
theorem gap_P : ∀ p : PT, GapOK p
  | .E => fun A fr tt lo n v w ht bp hg => gap_s fr tt lo n v w hg (.inl ht.1)
  | .N a y b => gap_N (gap_P a) (gap_P b)

end Go.Proofs.Ytnbohogkfdeddaa
