/- Rangetree: Next, Find. -/
import Derived.Test.YtnbohogkfdeddaaRtx
set_option linter.unusedSimpArgs false
set_option linter.unusedVariables false
namespace Go.Proofs.Ytnbohogkfdeddaa
open Go.RowKit

set_option maxRecDepth 100000 in
set_option maxHeartbeats 1500000 in
theorem next_P {A : Nat → Prop} (p : PT) (pg : Int) (v : TV) (w : World) (hp : good p) (ht : isT A w p.bt v) :
    Calls Try.prog 27 #[.agg v.cs.toArray, .int .i64 pg] w fun e w' => e = .returned (.tuple #[.agg (bestR (aftP p pg)).cs.toArray, .bool (aftP p pg).isSome]) ∧ Ext w w' := by
  go_enter Try.func27, Try.ntmps27
  go_upto_region 1 with fail
  refine name_wX (fun W1 hW => ?_)
  have hE : Ext w W1 := by rw [hW]; repeat' (first | exact Ext.refl _ | apply Ext.al)
  have b0 : Blk W1 (w.heap.size) 28 v.cs := by rw [hW]; exact (Blk.newAt rfl).alloc _
  have b1 : Blk W1 (w.heap.size + 1) 25 RV.z.cs := by rw [hW]; exact Blk.newAt (by simp)
  clear hW
  obtain ⟨r1, hr1⟩ : ∃ r, r = w.heap.size + 1 := ⟨_, rfl⟩
  rw [← hr1] at b1
  try rw [← hr1]
  obtain ⟨r0, hr0⟩ : ∃ r, r = w.heap.size := ⟨_, rfl⟩
  rw [← hr0] at b0
  try rw [← hr0]
  have q0 : w.heap.size ≤ r0 := by omega
  have q1 : r0 < r1 := by omega
  clear hr0 hr1
  have qz : r1 < W1.heap.size := b1.lt
  have tv := isT.ext hE (isT.lw ht)
  clear ht
  refine wp_region_lit ?_
  refine wpList_plain rfl (fun K hK => ?_); (first | (refine wp_ld 28 _ (b0.range) (by rfl) (by rfl) Try.underlying28 rfl (by exact Try.infoT) ?_)); (try dsimp only); refine hK _ _ ?_; clear hK K; (try simp only [Act.put, Zs, Zz, Zc])
  refine wpList_plain rfl (fun K hK => ?_); go_simp; (go_at_call 22; refine (check_P p v _ hp tv).mono ?_; intro e W2 hpp; obtain ⟨rfl, hx⟩ := hpp); (try dsimp only); refine hK _ _ ?_; clear hK K; (try simp only [Act.put, Zs, Zz, Zc])
  replace b0 := b0.ext hx
  replace b1 := b1.ext hx
  replace tv := isT.ext hx tv
  replace hE := hE.trans hx
  clear hx
  replace qz : r1 < W2.heap.size := b1.lt
  refine wpList_plain rfl (fun K hK => ?_); go_simp; (try simp (disch := omega) only [Yq, Yr]); (try dsimp only); refine hK _ _ ?_; clear hK K; (try simp only [Act.put, Zs, Zz, Zc])
  refine wpList_nil ?_
  go_upto_region 3 with fail
  refine wp_region_lit ?_
  refine wpList_plain rfl (fun K hK => ?_); (first | (refine wp_ld 28 _ (b0.range) (by rfl) (by rfl) Try.underlying28 rfl (by exact Try.infoT) ?_)); (try dsimp only); refine hK _ _ ?_; clear hK K; (try simp only [Act.put, Zs, Zz, Zc])
  refine wpList_plain rfl (fun K hK => ?_); go_simp; (try dsimp only); refine hK _ _ ?_; clear hK K; (try simp only [Act.put, Zs, Zz, Zc])
  refine wpList_plain rfl (fun K hK => ?_); go_simp; (go_at_call 34; refine (aft_P p pg v _ tv hp.o.v).mono ?_; intro e W3 hpp; obtain ⟨rfl, hx⟩ := hpp); (try dsimp only); refine hK _ _ ?_; clear hK K; (try simp only [Act.put, Zs, Zz, Zc])
  replace b0 := b0.ext hx
  replace b1 := b1.ext hx
  replace tv := isT.ext hx tv
  replace hE := hE.trans hx
  clear hx
  replace qz : r1 < W3.heap.size := b1.lt
  iterate 2 (refine wpList_plain rfl (fun K hK => ?_); go_simp; (try dsimp only); refine hK _ _ ?_; clear hK K; (try simp only [Act.put, Zs, Zz, Zc]))
  refine wpList_plain rfl (fun K hK => ?_)
  refine wp_store_box 25 _ _ (by rfl) b1 (by rfl) (by rfl) (by exact Try.infoR) (by first | exact RV.one _ | exact TV.one _ rfl | exact RV.one RV.z | exact TV.one _ (isT.one tv)) (by rfl) (fun W4 hg bn => ?_)
  replace b0 := b0.kept hg (Zn (by omega))
  replace tv := isT.kept hg (Lw.not (by omega)) tv
  replace hE := ext_grow hE hg (fun q hq => by cases hq; omega)
  clear b1 hg
  have b1 := bn
  clear bn
  (try dsimp only); refine hK _ _ ?_; clear hK K; (try simp only [Act.put, Zs, Zz, Zc])
  replace qz : r1 < W4.heap.size := b1.lt
  refine wpList_plain rfl (fun K hK => ?_); go_simp; (try dsimp only); refine hK _ _ ?_; clear hK K; (try simp only [Act.put, Zs, Zz, Zc])
  refine wpList_nil ?_
  go_wp2_with fail
  exact bodyPost_ret (res_ct rfl (GivesC.of b1 rfl Try.underlying25 rfl Try.infoR) rfl) rfl ⟨rfl, hE⟩

theorem next_is {A : Nat → Prop} (p : PT) (pg : Int) (v : TV) (w : World) (hp : good p) (ht : isT A w p.bt v) (b : Bool) (h : (aftP p pg).isSome = b) :
    Calls Try.prog 27 #[.agg v.cs.toArray, .int .i64 pg] w fun e w' => e = .returned (.tuple #[.agg (bestR (aftP p pg)).cs.toArray, .bool b]) ∧ Ext w w' := by
  subst h
  exact next_P p pg v w hp ht
/-- What Find returns. -/
def FndF (p : PT) (pg : Int) : RV × Bool :=
  if (aftP p pg).isSome = true ∧ ¬ pg < (bestR (aftP p pg)).s then (bestR (aftP p pg), true) else (RV.z, false)

set_option maxRecDepth 100000 in
set_option maxHeartbeats 1500000 in
theorem fnd_none {A : Nat → Prop} (p : PT) (pg : Int) (v : TV) (w : World) (hp : good p) (ht : isT A w p.bt v) (h2 : (aftP p pg).isSome = false) :
    Calls Try.prog 26 #[.agg v.cs.toArray, .int .i64 pg] w fun e w' => e = .returned (.tuple #[.agg ((RV.z, false)).1.cs.toArray, .bool ((RV.z, false)).2]) ∧ Ext w w' := by
  go_enter Try.func26, Try.ntmps26
  go_upto_region 1 with fail
  refine name_wX (fun W1 hW => ?_)
  have hE : Ext w W1 := by rw [hW]; repeat' (first | exact Ext.refl _ | apply Ext.al)
  have b0 : Blk W1 (w.heap.size) 28 v.cs := by rw [hW]; exact (Blk.newAt rfl).alloc _
  have b1 : Blk W1 (w.heap.size + 1) 25 RV.z.cs := by rw [hW]; exact Blk.newAt (by simp)
  clear hW
  obtain ⟨r1, hr1⟩ : ∃ r, r = w.heap.size + 1 := ⟨_, rfl⟩
  rw [← hr1] at b1
  try rw [← hr1]
  obtain ⟨r0, hr0⟩ : ∃ r, r = w.heap.size := ⟨_, rfl⟩
  rw [← hr0] at b0
  try rw [← hr0]
  have q0 : w.heap.size ≤ r0 := by omega
  have q1 : r0 < r1 := by omega
  clear hr0 hr1
  have qz : r1 < W1.heap.size := b1.lt
  have tv := isT.ext hE (isT.lw ht)
  clear ht
  refine wp_region_lit ?_
  refine wpList_plain rfl (fun K hK => ?_); (first | (refine wp_ld 28 _ (b0.range) (by rfl) (by rfl) Try.underlying28 rfl (by exact Try.infoT) ?_)); (try dsimp only); refine hK _ _ ?_; clear hK K; (try simp only [Act.put, Zs, Zz, Zc])
  refine wpList_plain rfl (fun K hK => ?_); go_simp; (try dsimp only); refine hK _ _ ?_; clear hK K; (try simp only [Act.put, Zs, Zz, Zc])
  refine wpList_plain rfl (fun K hK => ?_); go_simp; (go_at_call 27; refine (next_is p pg v _ hp tv false h2).mono ?_; intro e W2 hpp; obtain ⟨rfl, hx⟩ := hpp); (try dsimp only); refine hK _ _ ?_; clear hK K; (try simp only [Act.put, Zs, Zz, Zc])
  replace b0 := b0.ext hx
  replace b1 := b1.ext hx
  replace tv := isT.ext hx tv
  replace hE := hE.trans hx
  clear hx
  replace qz : r1 < W2.heap.size := b1.lt
  iterate 4 (refine wpList_plain rfl (fun K hK => ?_); go_simp; (try dsimp only); refine hK _ _ ?_; clear hK K; (try simp only [Act.put, Zs, Zz, Zc]))
  refine name_wl (fun W3 hW => ?_)
  have hx : Ext W2 W3 := by rw [hW]; exact ext_alloc _ _
  have b2 : Blk W3 W2.heap.size 25 RV.z.cs := by rw [hW]; exact Blk.newAt rfl
  clear hW
  replace b0 := b0.ext hx
  replace b1 := b1.ext hx
  replace tv := isT.ext hx tv
  replace hE := hE.trans hx
  clear hx
  obtain ⟨r2, hr⟩ : ∃ r, r = W2.heap.size := ⟨_, rfl⟩
  rw [← hr] at b2
  try rw [← hr]
  have q2 : r1 < r2 := by omega
  clear hr
  replace qz : r2 < W3.heap.size := b2.lt
  refine wpList_plain rfl (fun K hK => ?_)
  refine wp_store_box 25 _ _ (by rfl) b2 (by rfl) (by rfl) (by exact Try.infoR) (by first | exact RV.one _ | exact TV.one _ rfl | exact RV.one RV.z | exact TV.one _ (isT.one tv)) (by rfl) (fun W4 hg bn => ?_)
  replace b0 := b0.kept hg (Zn (by omega))
  replace b1 := b1.kept hg (Zn (by omega))
  replace tv := isT.kept hg (Lw.not (by omega)) tv
  replace hE := ext_grow hE hg (fun q hq => by cases hq; omega)
  clear b2 hg
  have b2 := bn
  clear bn
  (try dsimp only); refine hK _ _ ?_; clear hK K; (try simp only [Act.put, Zs, Zz, Zc])
  replace qz : r2 < W4.heap.size := b2.lt
  refine wpList_plain rfl (fun K hK => ?_); go_simp; (try dsimp only); refine hK _ _ ?_; clear hK K; (try simp only [Act.put, Zs, Zz, Zc])
  refine wpList_nil ?_
  go_upto_region 2 with fail
  refine wp_region_lit ?_
  iterate 3 (refine wpList_plain rfl (fun K hK => ?_); go_simp; (try dsimp only); refine hK _ _ ?_; clear hK K; (try simp only [Act.put, Zs, Zz, Zc]))
  iterate 4 (refine wpList_step (fun K hK => ?_); rw [if_neg (by exact Bool.false_ne_true)]; (try dsimp only); refine hK _ _ ?_; clear hK K; (try simp only [Act.put, Zs, Zz, Zc]))
  refine wpList_plain rfl (fun K hK => ?_); go_simp; (try dsimp only); refine hK _ _ ?_; clear hK K; (try simp only [Act.put, Zs, Zz, Zc])
  refine wpList_nil ?_
  go_upto_region 3 with fail
  refine wp_region_lit ?_
  refine wpList_plain rfl (fun K hK => ?_); go_simp; (try dsimp only); refine hK _ _ ?_; clear hK K; (try simp only [Act.put, Zs, Zz, Zc])
  refine wpList_plain rfl (fun K hK => ?_)
  refine wp_store_box 25 _ _ (by rfl) b1 (by rfl) (by rfl) (by exact Try.infoR) (by first | exact RV.one _ | exact TV.one _ rfl | exact RV.one RV.z | exact TV.one _ (isT.one tv)) (by rfl) (fun W5 hg bn => ?_)
  replace b0 := b0.kept hg (Zn (by omega))
  replace b2 := b2.kept hg (Zn (by omega))
  replace tv := isT.kept hg (Lw.not (by omega)) tv
  replace hE := ext_grow hE hg (fun q hq => by cases hq; omega)
  clear b1 hg
  have b1 := bn
  clear bn
  (try dsimp only); refine hK _ _ ?_; clear hK K; (try simp only [Act.put, Zs, Zz, Zc])
  replace qz : r2 < W5.heap.size := b2.lt
  refine wpList_plain rfl (fun K hK => ?_); go_simp; (try dsimp only); refine hK _ _ ?_; clear hK K; (try simp only [Act.put, Zs, Zz, Zc])
  refine wpList_nil ?_
  go_wp2_with fail
  exact bodyPost_ret (res_ct rfl (GivesC.of b1 rfl Try.underlying25 rfl Try.infoR) rfl) rfl ⟨rfl, hE⟩

set_option maxRecDepth 100000 in
set_option maxHeartbeats 1500000 in
theorem fnd_miss {A : Nat → Prop} (p : PT) (pg : Int) (v : TV) (w : World) (hp : good p) (ht : isT A w p.bt v) (h2 : (aftP p pg).isSome = true) (h3 : pg < (bestR (aftP p pg)).s) :
    Calls Try.prog 26 #[.agg v.cs.toArray, .int .i64 pg] w fun e w' => e = .returned (.tuple #[.agg ((RV.z, false)).1.cs.toArray, .bool ((RV.z, false)).2]) ∧ Ext w w' := by
  go_enter Try.func26, Try.ntmps26
  go_upto_region 1 with fail
  refine name_wX (fun W1 hW => ?_)
  have hE : Ext w W1 := by rw [hW]; repeat' (first | exact Ext.refl _ | apply Ext.al)
  have b0 : Blk W1 (w.heap.size) 28 v.cs := by rw [hW]; exact (Blk.newAt rfl).alloc _
  have b1 : Blk W1 (w.heap.size + 1) 25 RV.z.cs := by rw [hW]; exact Blk.newAt (by simp)
  clear hW
  obtain ⟨r1, hr1⟩ : ∃ r, r = w.heap.size + 1 := ⟨_, rfl⟩
  rw [← hr1] at b1
  try rw [← hr1]
  obtain ⟨r0, hr0⟩ : ∃ r, r = w.heap.size := ⟨_, rfl⟩
  rw [← hr0] at b0
  try rw [← hr0]
  have q0 : w.heap.size ≤ r0 := by omega
  have q1 : r0 < r1 := by omega
  clear hr0 hr1
  have qz : r1 < W1.heap.size := b1.lt
  have tv := isT.ext hE (isT.lw ht)
  clear ht
  refine wp_region_lit ?_
  refine wpList_plain rfl (fun K hK => ?_); (first | (refine wp_ld 28 _ (b0.range) (by rfl) (by rfl) Try.underlying28 rfl (by exact Try.infoT) ?_)); (try dsimp only); refine hK _ _ ?_; clear hK K; (try simp only [Act.put, Zs, Zz, Zc])
  refine wpList_plain rfl (fun K hK => ?_); go_simp; (try dsimp only); refine hK _ _ ?_; clear hK K; (try simp only [Act.put, Zs, Zz, Zc])
  refine wpList_plain rfl (fun K hK => ?_); go_simp; (go_at_call 27; refine (next_is p pg v _ hp tv true h2).mono ?_; intro e W2 hpp; obtain ⟨rfl, hx⟩ := hpp); (try dsimp only); refine hK _ _ ?_; clear hK K; (try simp only [Act.put, Zs, Zz, Zc])
  replace b0 := b0.ext hx
  replace b1 := b1.ext hx
  replace tv := isT.ext hx tv
  replace hE := hE.trans hx
  clear hx
  replace qz : r1 < W2.heap.size := b1.lt
  iterate 4 (refine wpList_plain rfl (fun K hK => ?_); go_simp; (try dsimp only); refine hK _ _ ?_; clear hK K; (try simp only [Act.put, Zs, Zz, Zc]))
  refine name_wl (fun W3 hW => ?_)
  have hx : Ext W2 W3 := by rw [hW]; exact ext_alloc _ _
  have b2 : Blk W3 W2.heap.size 25 RV.z.cs := by rw [hW]; exact Blk.newAt rfl
  clear hW
  replace b0 := b0.ext hx
  replace b1 := b1.ext hx
  replace tv := isT.ext hx tv
  replace hE := hE.trans hx
  clear hx
  obtain ⟨r2, hr⟩ : ∃ r, r = W2.heap.size := ⟨_, rfl⟩
  rw [← hr] at b2
  try rw [← hr]
  have q2 : r1 < r2 := by omega
  clear hr
  replace qz : r2 < W3.heap.size := b2.lt
  refine wpList_plain rfl (fun K hK => ?_)
  refine wp_store_box 25 _ _ (by rfl) b2 (by rfl) (by rfl) (by exact Try.infoR) (by first | exact RV.one _ | exact TV.one _ rfl | exact RV.one RV.z | exact TV.one _ (isT.one tv)) (by rfl) (fun W4 hg bn => ?_)
  replace b0 := b0.kept hg (Zn (by omega))
  replace b1 := b1.kept hg (Zn (by omega))
  replace tv := isT.kept hg (Lw.not (by omega)) tv
  replace hE := ext_grow hE hg (fun q hq => by cases hq; omega)
  clear b2 hg
  have b2 := bn
  clear bn
  (try dsimp only); refine hK _ _ ?_; clear hK K; (try simp only [Act.put, Zs, Zz, Zc])
  replace qz : r2 < W4.heap.size := b2.lt
  refine wpList_plain rfl (fun K hK => ?_); go_simp; (try dsimp only); refine hK _ _ ?_; clear hK K; (try simp only [Act.put, Zs, Zz, Zc])
  refine wpList_nil ?_
  go_upto_region 2 with fail
  refine wp_region_lit ?_
  iterate 3 (refine wpList_plain rfl (fun K hK => ?_); go_simp; (try dsimp only); refine hK _ _ ?_; clear hK K; (try simp only [Act.put, Zs, Zz, Zc]))
  refine wpList_step (fun K hK => ?_); rw [if_pos (by rfl)]; go_simp; (try dsimp only); refine hK _ _ ?_; clear hK K; (try simp only [Act.put, Zs, Zz, Zc])
  refine wpList_step (fun K hK => ?_); rw [if_pos (by rfl)]; have zc := b2.cell 0; go_simp; clear zc; (try dsimp only); refine hK _ _ ?_; clear hK K; (try simp only [Act.put, Zs, Zz, Zc])
  refine wpList_step (fun K hK => ?_); rw [if_pos (by rfl)]; go_simp; (try dsimp only); refine hK _ _ ?_; clear hK K; (try simp only [Act.put, Zs, Zz, Zc])
  refine wpList_step (fun K hK => ?_); rw [if_pos (by rfl)]; go_simp; (try simp (disch := omega) only [Yq, Yr]); (try dsimp only); refine hK _ _ ?_; clear hK K; (try simp only [Act.put, Zs, Zz, Zc])
  refine wpList_plain rfl (fun K hK => ?_); go_simp; (try dsimp only); refine hK _ _ ?_; clear hK K; (try simp only [Act.put, Zs, Zz, Zc])
  refine wpList_nil ?_
  go_upto_region 3 with fail
  refine wp_region_lit ?_
  refine wpList_plain rfl (fun K hK => ?_); go_simp; (try dsimp only); refine hK _ _ ?_; clear hK K; (try simp only [Act.put, Zs, Zz, Zc])
  refine wpList_plain rfl (fun K hK => ?_)
  refine wp_store_box 25 _ _ (by rfl) b1 (by rfl) (by rfl) (by exact Try.infoR) (by first | exact RV.one _ | exact TV.one _ rfl | exact RV.one RV.z | exact TV.one _ (isT.one tv)) (by rfl) (fun W5 hg bn => ?_)
  replace b0 := b0.kept hg (Zn (by omega))
  replace b2 := b2.kept hg (Zn (by omega))
  replace tv := isT.kept hg (Lw.not (by omega)) tv
  replace hE := ext_grow hE hg (fun q hq => by cases hq; omega)
  clear b1 hg
  have b1 := bn
  clear bn
  (try dsimp only); refine hK _ _ ?_; clear hK K; (try simp only [Act.put, Zs, Zz, Zc])
  replace qz : r2 < W5.heap.size := b2.lt
  refine wpList_plain rfl (fun K hK => ?_); go_simp; (try dsimp only); refine hK _ _ ?_; clear hK K; (try simp only [Act.put, Zs, Zz, Zc])
  refine wpList_nil ?_
  go_wp2_with fail
  exact bodyPost_ret (res_ct rfl (GivesC.of b1 rfl Try.underlying25 rfl Try.infoR) rfl) rfl ⟨rfl, hE⟩

set_option maxRecDepth 100000 in
set_option maxHeartbeats 1500000 in
theorem fnd_hit {A : Nat → Prop} (p : PT) (pg : Int) (v : TV) (w : World) (hp : good p) (ht : isT A w p.bt v) (h2 : (aftP p pg).isSome = true) (h3 : ¬ pg < (bestR (aftP p pg)).s) :
    Calls Try.prog 26 #[.agg v.cs.toArray, .int .i64 pg] w fun e w' => e = .returned (.tuple #[.agg ((bestR (aftP p pg), true)).1.cs.toArray, .bool ((bestR (aftP p pg), true)).2]) ∧ Ext w w' := by
  go_enter Try.func26, Try.ntmps26
  go_upto_region 1 with fail
  refine name_wX (fun W1 hW => ?_)
  have hE : Ext w W1 := by rw [hW]; repeat' (first | exact Ext.refl _ | apply Ext.al)
  have b0 : Blk W1 (w.heap.size) 28 v.cs := by rw [hW]; exact (Blk.newAt rfl).alloc _
  have b1 : Blk W1 (w.heap.size + 1) 25 RV.z.cs := by rw [hW]; exact Blk.newAt (by simp)
  clear hW
  obtain ⟨r1, hr1⟩ : ∃ r, r = w.heap.size + 1 := ⟨_, rfl⟩
  rw [← hr1] at b1
  try rw [← hr1]
  obtain ⟨r0, hr0⟩ : ∃ r, r = w.heap.size := ⟨_, rfl⟩
  rw [← hr0] at b0
  try rw [← hr0]
  have q0 : w.heap.size ≤ r0 := by omega
  have q1 : r0 < r1 := by omega
  clear hr0 hr1
  have qz : r1 < W1.heap.size := b1.lt
  have tv := isT.ext hE (isT.lw ht)
  clear ht
  refine wp_region_lit ?_
  refine wpList_plain rfl (fun K hK => ?_); (first | (refine wp_ld 28 _ (b0.range) (by rfl) (by rfl) Try.underlying28 rfl (by exact Try.infoT) ?_)); (try dsimp only); refine hK _ _ ?_; clear hK K; (try simp only [Act.put, Zs, Zz, Zc])
  refine wpList_plain rfl (fun K hK => ?_); go_simp; (try dsimp only); refine hK _ _ ?_; clear hK K; (try simp only [Act.put, Zs, Zz, Zc])
  refine wpList_plain rfl (fun K hK => ?_); go_simp; (go_at_call 27; refine (next_is p pg v _ hp tv true h2).mono ?_; intro e W2 hpp; obtain ⟨rfl, hx⟩ := hpp); (try dsimp only); refine hK _ _ ?_; clear hK K; (try simp only [Act.put, Zs, Zz, Zc])
  replace b0 := b0.ext hx
  replace b1 := b1.ext hx
  replace tv := isT.ext hx tv
  replace hE := hE.trans hx
  clear hx
  replace qz : r1 < W2.heap.size := b1.lt
  iterate 4 (refine wpList_plain rfl (fun K hK => ?_); go_simp; (try dsimp only); refine hK _ _ ?_; clear hK K; (try simp only [Act.put, Zs, Zz, Zc]))
  refine name_wl (fun W3 hW => ?_)
  have hx : Ext W2 W3 := by rw [hW]; exact ext_alloc _ _
  have b2 : Blk W3 W2.heap.size 25 RV.z.cs := by rw [hW]; exact Blk.newAt rfl
  clear hW
  replace b0 := b0.ext hx
  replace b1 := b1.ext hx
  replace tv := isT.ext hx tv
  replace hE := hE.trans hx
  clear hx
  obtain ⟨r2, hr⟩ : ∃ r, r = W2.heap.size := ⟨_, rfl⟩
  rw [← hr] at b2
  try rw [← hr]
  have q2 : r1 < r2 := by omega
  clear hr
  replace qz : r2 < W3.heap.size := b2.lt
  refine wpList_plain rfl (fun K hK => ?_)
  refine wp_store_box 25 _ _ (by rfl) b2 (by rfl) (by rfl) (by exact Try.infoR) (by first | exact RV.one _ | exact TV.one _ rfl | exact RV.one RV.z | exact TV.one _ (isT.one tv)) (by rfl) (fun W4 hg bn => ?_)
  replace b0 := b0.kept hg (Zn (by omega))
  replace b1 := b1.kept hg (Zn (by omega))
  replace tv := isT.kept hg (Lw.not (by omega)) tv
  replace hE := ext_grow hE hg (fun q hq => by cases hq; omega)
  clear b2 hg
  have b2 := bn
  clear bn
  (try dsimp only); refine hK _ _ ?_; clear hK K; (try simp only [Act.put, Zs, Zz, Zc])
  replace qz : r2 < W4.heap.size := b2.lt
  refine wpList_plain rfl (fun K hK => ?_); go_simp; (try dsimp only); refine hK _ _ ?_; clear hK K; (try simp only [Act.put, Zs, Zz, Zc])
  refine wpList_nil ?_
  go_upto_region 2 with fail
  refine wp_region_lit ?_
  iterate 3 (refine wpList_plain rfl (fun K hK => ?_); go_simp; (try dsimp only); refine hK _ _ ?_; clear hK K; (try simp only [Act.put, Zs, Zz, Zc]))
  refine wpList_step (fun K hK => ?_); rw [if_pos (by rfl)]; go_simp; (try dsimp only); refine hK _ _ ?_; clear hK K; (try simp only [Act.put, Zs, Zz, Zc])
  refine wpList_step (fun K hK => ?_); rw [if_pos (by rfl)]; have zc := b2.cell 0; go_simp; clear zc; (try dsimp only); refine hK _ _ ?_; clear hK K; (try simp only [Act.put, Zs, Zz, Zc])
  refine wpList_step (fun K hK => ?_); rw [if_pos (by rfl)]; go_simp; (try dsimp only); refine hK _ _ ?_; clear hK K; (try simp only [Act.put, Zs, Zz, Zc])
  refine wpList_step (fun K hK => ?_); rw [if_pos (by rfl)]; go_simp; (try simp (disch := omega) only [Yq, Yr]); (try dsimp only); refine hK _ _ ?_; clear hK K; (try simp only [Act.put, Zs, Zz, Zc])
  refine wpList_plain rfl (fun K hK => ?_); go_simp; (try dsimp only); refine hK _ _ ?_; clear hK K; (try simp only [Act.put, Zs, Zz, Zc])
  refine wpList_nil ?_
  go_upto_region 4 with fail
  refine wp_region_lit ?_
  refine wpList_plain rfl (fun K hK => ?_); (first | (refine wp_ld 25 _ (b2.range) (by rfl) (by rfl) Try.underlying25 rfl (by exact Try.infoR) ?_)); (try dsimp only); refine hK _ _ ?_; clear hK K; (try simp only [Act.put, Zs, Zz, Zc])
  refine wpList_plain rfl (fun K hK => ?_)
  refine wp_store_box 25 _ _ (by rfl) b1 (by rfl) (by rfl) (by exact Try.infoR) (by first | exact RV.one _ | exact TV.one _ rfl | exact RV.one RV.z | exact TV.one _ (isT.one tv)) (by rfl) (fun W5 hg bn => ?_)
  replace b0 := b0.kept hg (Zn (by omega))
  replace b2 := b2.kept hg (Zn (by omega))
  replace tv := isT.kept hg (Lw.not (by omega)) tv
  replace hE := ext_grow hE hg (fun q hq => by cases hq; omega)
  clear b1 hg
  have b1 := bn
  clear bn
  (try dsimp only); refine hK _ _ ?_; clear hK K; (try simp only [Act.put, Zs, Zz, Zc])
  replace qz : r2 < W5.heap.size := b2.lt
  refine wpList_plain rfl (fun K hK => ?_); go_simp; (try dsimp only); refine hK _ _ ?_; clear hK K; (try simp only [Act.put, Zs, Zz, Zc])
  refine wpList_nil ?_
  go_wp2_with fail
  exact bodyPost_ret (res_ct rfl (GivesC.of b1 rfl Try.underlying25 rfl Try.infoR) rfl) rfl ⟨rfl, hE⟩

theorem find_P {A : Nat → Prop} (p : PT) (pg : Int) (v : TV) (w : World) (hp : good p) (ht : isT A w p.bt v) :
    Calls Try.prog 26 #[.agg v.cs.toArray, .int .i64 pg] w fun e w' => e = .returned (.tuple #[.agg (FndF p pg).1.cs.toArray, .bool (FndF p pg).2]) ∧ Ext w w' := by
  unfold FndF
  cases h2 : (aftP p pg).isSome with
  | false => rw [if_neg (by simp)]; exact fnd_none p pg v w hp ht h2
  | true =>
    by_cases h3 : pg < (bestR (aftP p pg)).s
    · rw [if_neg (fun h => h.2 h3)]; exact fnd_miss p pg v w hp ht h2 h3
    · rw [if_pos ⟨rfl, h3⟩]; exact fnd_hit p pg v w hp ht h2 h3

end Go.Proofs.Ytnbohogkfdeddaa
