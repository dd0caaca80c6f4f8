/- Rangetree: the law RangetreeGaps. -/
import Derived.Test.YtnbohogkfdeddaaRul
import Derived.Test.YtnbohogkfdeddaaRut
set_option linter.unusedSimpArgs false
set_option linter.unusedVariables false
namespace Go.Proofs.Ytnbohogkfdeddaa
open Go.RowKit

theorem freeL_next {l : List RV} {k : Nat} (hk : k < l.length) (s n : Int) : freeL (l.take (k + 1)) s n = (freeL (l.take k) s n && freeR s n l[k]) := by
  rw [List.take_succ_eq_append_getElem hk, freeL_app]
  simp [freeL]
theorem Gap_is {A : Nat → Prop} (p : PT) (lo hi n g : Int) (hF : GapF p lo hi n = g) (v : TV) (w : World) (hp : good p) (ht : isT A w p.bt v) :
    Calls Try.prog 28 #[.agg v.cs.toArray, .int .i64 lo, .int .i64 hi, .int .i64 n] w fun e w' => e = .returned (.int .i64 g) ∧ Ext w w' := by
  subst hF
  exact Gap_P p lo hi n v w hp ht

set_option maxRecDepth 100000 in
set_option maxHeartbeats 4000000 in
theorem law_gaps_big (l : List OV) (s : Value) (lo hi n : Int) (w : World) (hs : isSl w s 7 l.length (oF l)) (hl : 24 < l.length) :
    Calls Try.prog 9 #[s, .agg #[.int .i64 lo, .int .i64 hi, .int .i64 n]] w fun e w' => e = .returned (.bool true) ∧ Ext w w' := by
  obtain ⟨ad, c, rfl⟩ := sl_shape hs
  have HS : Hid (isSl w (.slice ad l.length c) 7 l.length (oF l)) := hs
  clear hs
  have hb1 : decide ((24 : Int) < (l.length : Int)) = true := by simpa using (by omega : (24 : Int) < (l.length : Int))
  have hb2 : decide (24 < l.length) = true := by simpa using hl
  go_enter Try.func9, Try.ntmps9
  go_upto_region 1 with fail
  refine name_wX (fun W1 hW => ?_)
  have hE : Ext w W1 := by rw [hW]; (exact Ext.of_below (by (repeat' (first | (with_reducible exact Below.refl _ _) | (with_reducible assumption) | (with_reducible refine Below.alloc ?_ ?_ _) | (with_reducible refine Below.wext ?_ ?_ _ _) | (with_reducible refine Below.drew ?_) | (with_reducible refine Below.setCell ?_ ?_ _) | (with_reducible exact Nat.le_refl _) | (with_reducible refine Below.drewN' ?_ _) | (simp; omega) | (simp; done)))))
  have b0 : Blk W1 (w.heap.size) 50 [.int .i64 lo, .int .i64 hi, .int .i64 n] := by rw [hW]; exact Blk.newAt rfl
  clear hW
  obtain ⟨r0, hr0⟩ : ∃ r, r = w.heap.size := ⟨_, rfl⟩
  rw [← hr0] at b0
  try rw [← hr0]
  have q0 : w.heap.size ≤ r0 := by omega
  clear hr0
  have qz : r0 < W1.heap.size := b0.lt
  refine wp_region_lit ?_
  refine wpList_plain rfl (fun K hK => ?_)
  go_simp
  (go_at_call 11; refine (awake_ok _).mono ?_; intro e W2 hpp; obtain ⟨rfl, hx⟩ := hpp)
  (try dsimp only); refine hK _ _ ?_; clear hK K; (try simp only [Act.put, List.setIfInBounds_toArray, List.set_cons_zero, List.set_cons_succ])
  replace b0 := b0.ext hx
  replace hE := hE.trans hx
  clear hx
  replace qz : r0 < W2.heap.size := b0.lt
  refine wpList_plain rfl (fun K hK => ?_)
  go_simp; (try simp only [hb1, hb2])
  (try dsimp only); refine hK _ _ ?_; clear hK K; (try simp only [Act.put, List.setIfInBounds_toArray, List.set_cons_zero, List.set_cons_succ])
  refine wpList_plain rfl (fun K hK => ?_)
  go_simp
  (try dsimp only); refine hK _ _ ?_; clear hK K; (try simp only [Act.put, List.setIfInBounds_toArray, List.set_cons_zero, List.set_cons_succ])
  refine wpList_step (fun K hK => ?_)
  rw [if_pos (by rfl)]
  go_simp
  (try dsimp only); refine hK _ _ ?_; clear hK K; (try simp only [Act.put, List.setIfInBounds_toArray, List.set_cons_zero, List.set_cons_succ])
  refine wpList_step (fun K hK => ?_)
  rw [if_pos (by rfl)]
  go_simp
  (try dsimp only); refine hK _ _ ?_; clear hK K; (try simp only [Act.put, List.setIfInBounds_toArray, List.set_cons_zero, List.set_cons_succ])
  refine wpList_step (fun K hK => ?_)
  rw [if_pos (by rfl)]
  go_simp; (try simp (disch := omega) only [IntWalk.i64_in, IntWalk.wrap64_in]); (try simp only [hb1, hb2])
  (try dsimp only); refine hK _ _ ?_; clear hK K; (try simp only [Act.put, List.setIfInBounds_toArray, List.set_cons_zero, List.set_cons_succ])
  refine wpList_plain rfl (fun K hK => ?_)
  go_simp
  (try dsimp only); refine hK _ _ ?_; clear hK K; (try simp only [Act.put, List.setIfInBounds_toArray, List.set_cons_zero, List.set_cons_succ])
  refine wpList_nil ?_
  go_upto_region 2 with fail
  refine wp_region_lit ?_
  refine wpList_plain rfl (fun K hK => ?_)
  go_simp
  (go_at_call 11; refine (awake_ok _).mono ?_; intro e W3 hpp; obtain ⟨rfl, hx⟩ := hpp)
  (try dsimp only); refine hK _ _ ?_; clear hK K; (try simp only [Act.put, List.setIfInBounds_toArray, List.set_cons_zero, List.set_cons_succ])
  replace b0 := b0.ext hx
  replace hE := hE.trans hx
  clear hx
  replace qz : r0 < W3.heap.size := b0.lt
  refine wpList_plain rfl (fun K hK => ?_)
  go_simp
  (try dsimp only); refine hK _ _ ?_; clear hK K; (try simp only [Act.put, List.setIfInBounds_toArray, List.set_cons_zero, List.set_cons_succ])
  refine wpList_nil ?_
  go_wp2_with fail
  go_ret
  exact ⟨rfl, hE⟩

set_option maxRecDepth 100000 in
set_option maxHeartbeats 4000000 in
theorem law_gaps_ok (l : List OV) (s : Value) (lo hi n : Int) (w : World) (hs : isSl w s 7 l.length (oF l)) (hl : ¬ 24 < l.length) :
    Calls Try.prog 9 #[s, .agg #[.int .i64 lo, .int .i64 hi, .int .i64 n]] w fun e w' => e = .returned (.bool true) ∧ Ext w w' := by
  obtain ⟨ad, c, rfl⟩ := sl_shape hs
  have HS : Hid (isSl w (.slice ad l.length c) 7 l.length (oF l)) := hs
  clear hs
  have hb1 : decide ((24 : Int) < (l.length : Int)) = false := by simpa using (by omega : ¬ (24 : Int) < (l.length : Int))
  have hb2 : decide (24 < l.length) = false := by simpa using hl
  go_enter Try.func9, Try.ntmps9
  go_upto_region 1 with fail
  refine name_wX (fun W1 hW => ?_)
  have hE : Ext w W1 := by rw [hW]; (exact Ext.of_below (by (repeat' (first | (with_reducible exact Below.refl _ _) | (with_reducible assumption) | (with_reducible refine Below.alloc ?_ ?_ _) | (with_reducible refine Below.wext ?_ ?_ _ _) | (with_reducible refine Below.drew ?_) | (with_reducible refine Below.setCell ?_ ?_ _) | (with_reducible exact Nat.le_refl _) | (with_reducible refine Below.drewN' ?_ _) | (simp; omega) | (simp; done)))))
  have b0 : Blk W1 (w.heap.size) 50 [.int .i64 lo, .int .i64 hi, .int .i64 n] := by rw [hW]; exact Blk.newAt rfl
  clear hW
  obtain ⟨r0, hr0⟩ : ∃ r, r = w.heap.size := ⟨_, rfl⟩
  rw [← hr0] at b0
  try rw [← hr0]
  have q0 : w.heap.size ≤ r0 := by omega
  clear hr0
  have qz : r0 < W1.heap.size := b0.lt
  refine wp_region_lit ?_
  refine wpList_plain rfl (fun K hK => ?_)
  go_simp
  (go_at_call 11; refine (awake_ok _).mono ?_; intro e W2 hpp; obtain ⟨rfl, hx⟩ := hpp)
  (try dsimp only); refine hK _ _ ?_; clear hK K; (try simp only [Act.put, List.setIfInBounds_toArray, List.set_cons_zero, List.set_cons_succ])
  replace b0 := b0.ext hx
  replace hE := hE.trans hx
  clear hx
  replace qz : r0 < W2.heap.size := b0.lt
  refine wpList_plain rfl (fun K hK => ?_)
  go_simp; (try simp only [hb1, hb2])
  (try dsimp only); refine hK _ _ ?_; clear hK K; (try simp only [Act.put, List.setIfInBounds_toArray, List.set_cons_zero, List.set_cons_succ])
  refine wpList_plain rfl (fun K hK => ?_)
  go_simp
  (try dsimp only); refine hK _ _ ?_; clear hK K; (try simp only [Act.put, List.setIfInBounds_toArray, List.set_cons_zero, List.set_cons_succ])
  refine wpList_step (fun K hK => ?_)
  rw [if_pos (by rfl)]
  go_simp
  (try dsimp only); refine hK _ _ ?_; clear hK K; (try simp only [Act.put, List.setIfInBounds_toArray, List.set_cons_zero, List.set_cons_succ])
  refine wpList_step (fun K hK => ?_)
  rw [if_pos (by rfl)]
  go_simp
  (try dsimp only); refine hK _ _ ?_; clear hK K; (try simp only [Act.put, List.setIfInBounds_toArray, List.set_cons_zero, List.set_cons_succ])
  refine wpList_step (fun K hK => ?_)
  rw [if_pos (by rfl)]
  go_simp; (try simp (disch := omega) only [IntWalk.i64_in, IntWalk.wrap64_in]); (try simp only [hb1, hb2])
  (try dsimp only); refine hK _ _ ?_; clear hK K; (try simp only [Act.put, List.setIfInBounds_toArray, List.set_cons_zero, List.set_cons_succ])
  refine wpList_plain rfl (fun K hK => ?_)
  go_simp
  (try dsimp only); refine hK _ _ ?_; clear hK K; (try simp only [Act.put, List.setIfInBounds_toArray, List.set_cons_zero, List.set_cons_succ])
  refine wpList_nil ?_
  go_upto_region 3 with fail
  refine wp_region_lit ?_
  refine wpList_plain rfl (fun K hK => ?_)
  go_simp
  (try dsimp only); refine hK _ _ ?_; clear hK K; (try simp only [Act.put, List.setIfInBounds_toArray, List.set_cons_zero, List.set_cons_succ])
  refine wpList_plain rfl (fun K hK => ?_)
  go_simp
  (go_at_call 21; refine (played_any l _ _ (HS.out.ext hE) (by omega)).mono ?_; intro e W3 hpp; obtain ⟨p, v, u, hp, rfl, tv, hown, hx⟩ := hpp)
  (try dsimp only); refine hK _ _ ?_; clear hK K; (try simp only [Act.put, List.setIfInBounds_toArray, List.set_cons_zero, List.set_cons_succ])
  replace b0 := b0.ext hx
  replace hE := hE.trans hx
  clear hx
  replace qz : r0 < W3.heap.size := b0.lt
  replace tv := isT.lw tv
  obtain ⟨m, hm0⟩ : ∃ m, m = W3.heap.size := ⟨_, rfl⟩
  have hwm : w.heap.size ≤ m := by rw [hm0]; exact hE.below.size
  rw [← hm0] at tv
  have hm : m ≤ W3.heap.size := by omega
  have hrm : r0 < m := by omega
  obtain ⟨B0, hown⟩ : ∃ B, ownR W3 B u p.flat := ⟨_, hown⟩
  have hgm : ∀ g, u.ownBlock = some g → g < m := fun g hg => by have := (hown.lt g hg).2; omega
  clear hm0
  obtain ⟨ua, uc, rfl⟩ := hown.shape
  have hlen := good_len hp
  refine wpList_plain rfl (fun K hK => ?_)
  go_simp
  (try dsimp only); refine hK _ _ ?_; clear hK K; (try simp only [Act.put, List.setIfInBounds_toArray, List.set_cons_zero, List.set_cons_succ])
  refine wpList_plain rfl (fun K hK => ?_)
  go_simp
  (try dsimp only); refine hK _ _ ?_; clear hK K; (try simp only [Act.put, List.setIfInBounds_toArray, List.set_cons_zero, List.set_cons_succ])
  refine wpList_plain rfl (fun K hK => ?_)
  go_simp
  (try dsimp only); refine hK _ _ ?_; clear hK K; (try simp only [Act.put, List.setIfInBounds_toArray, List.set_cons_zero, List.set_cons_succ])
  refine wpList_plain rfl (fun K hK => ?_)
  go_simp
  (try dsimp only); refine hK _ _ ?_; clear hK K; (try simp only [Act.put, List.setIfInBounds_toArray, List.set_cons_zero, List.set_cons_succ])
  refine wpList_plain rfl (fun K hK => ?_)
  have qb : m ≤ W3.heap.size := hm
  go_simp
  (try dsimp only); refine hK _ _ ?_; clear hK K; (try simp only [Act.put, List.setIfInBounds_toArray, List.set_cons_zero, List.set_cons_succ])
  refine name_wl (fun W4 hW => ?_)
  have hx : Ext W3 W4 := by rw [hW]; exact ext_alloc _ _
  have b1 : Blk W4 W3.heap.size 28 TV.z.cs := by rw [hW]; exact Blk.newAt rfl
  clear hW
  replace b0 := b0.ext hx
  replace hown := hown.ext hx
  replace tv := isT.ext hx tv
  replace hm := Nat.le_trans hm hx.below.size
  replace hE := hE.trans hx
  clear hx
  obtain ⟨r1, hr⟩ : ∃ r, r = W3.heap.size := ⟨_, rfl⟩
  rw [← hr] at b1
  try rw [← hr]
  have q1 : r0 < r1 := by omega
  have qb1 : m ≤ r1 := by omega
  clear hr
  replace qz : r1 < W4.heap.size := b1.lt
  refine wpList_plain rfl (fun K hK => ?_)
  refine wp_store_box 28 _ _ (by rfl) b1 (by rfl) (by rfl) (by exact Try.infoT) (by first | exact RV.one _ | exact TV.one _ rfl | exact RV.one _ | exact TV.one _ (isT.one tv)) (by rfl) (fun W5 hg bn => ?_)
  replace b0 := b0.kept hg (by simp only [ne_eq, Option.some.injEq]; omega)
  replace hown := hown.kept hg (.inr (fun e => absurd (hgm _ e) (by omega)))
  replace tv := isT.kept hg (Lw.not (by omega)) tv
  replace hm := Nat.le_trans hm hg.size
  replace hE := ext_grow hE hg (fun q hq => by cases hq; omega)
  clear b1 hg
  have b1 := bn
  clear bn
  (try dsimp only); refine hK _ _ ?_; clear hK K; (try simp only [Act.put, List.setIfInBounds_toArray, List.set_cons_zero, List.set_cons_succ])
  replace qz : r1 < W5.heap.size := b1.lt
  refine wpList_plain rfl (fun K hK => ?_)
  go_simp
  (try dsimp only); refine hK _ _ ?_; clear hK K; (try simp only [Act.put, List.setIfInBounds_toArray, List.set_cons_zero, List.set_cons_succ])
  refine wpList_plain rfl (fun K hK => ?_)
  go_simp
  (try dsimp only); refine hK _ _ ?_; clear hK K; (try simp only [Act.put, List.setIfInBounds_toArray, List.set_cons_zero, List.set_cons_succ])
  refine wpList_nil ?_
  go_upto_region 4 with fail
  refine wp_region_lit ?_
  refine wpList_plain rfl (fun K hK => ?_)
  go_simp
  (try dsimp only); refine hK _ _ ?_; clear hK K; (try simp only [Act.put, List.setIfInBounds_toArray, List.set_cons_zero, List.set_cons_succ])
  refine wpList_plain rfl (fun K hK => ?_)
  go_simp
  (try dsimp only); refine hK _ _ ?_; clear hK K; (try simp only [Act.put, List.setIfInBounds_toArray, List.set_cons_zero, List.set_cons_succ])
  refine wpList_nil ?_
  go_upto_region 6 with fail
  have ca0 : W5.cell? ⟨r0, 0, none⟩ = some (.int .i64 lo) := b0.cell 0
  have ca1 : W5.cell? ⟨r0, 1, none⟩ = some (.int .i64 hi) := b0.cell 1
  have ca2 : W5.cell? ⟨r0, 2, none⟩ = some (.int .i64 n) := b0.cell 2
  have hr0 := b0.lt
  have x0 := b0
  have x1 := b1
  have hS : GrownX W5 [] W5 := GrownX.refl _ _
  refine wp_region_S (GrownX W5 []) (by kernel_rfl) ?_
  refine name_wd (fun W6 hW => ?_)
  have hx : Ext W5 W6 := by rw [hW]; exact ext_drew _
  clear hW
  replace hS := hS.ext hx
  replace b0 := b0.ext hx
  replace b1 := b1.ext hx
  replace hown := hown.ext hx
  replace tv := isT.ext hx tv
  replace hm := Nat.le_trans hm hx.below.size
  replace hE := hE.trans hx
  clear hx
  replace qz : r1 < W6.heap.size := b1.lt
  refine wpAnyD_takeSL (i := 0) rfl (by kernel_rfl) (fun _ _ _ _ h => h) hS ?_
  apply Exists.intro
  refine ⟨Or.inl ⟨by rfl, ?_⟩, ?_⟩
  (focus (intro wz hz; go_simp; (try with_reducible rfl); done))
  (try simp only [Act.put, List.setIfInBounds_toArray, List.set_cons_zero, List.set_cons_succ])
  refine wpAnyD_takeSL (i := 1) rfl (by kernel_rfl) (fun _ _ _ _ h => h) hS ?_
  apply Exists.intro
  refine ⟨Or.inl ⟨by rfl, ?_⟩, ?_⟩
  (focus (intro wz hz; have zc0 := GrownX.cell hz ca0 hr0 (by first | decide | (simp; done) | (simp; omega) | omega); have zc1 := GrownX.cell hz ca1 hr0 (by first | decide | (simp; done) | (simp; omega) | omega); have zc2 := GrownX.cell hz ca2 hr0 (by first | decide | (simp; done) | (simp; omega) | omega); go_simp; (try with_reducible rfl); done))
  (try simp only [Act.put, List.setIfInBounds_toArray, List.set_cons_zero, List.set_cons_succ])
  refine wpAnyD_takeSL (i := 2) rfl (by kernel_rfl) (fun _ _ _ _ h => h) hS ?_
  apply Exists.intro
  refine ⟨Or.inl ⟨by rfl, ?_⟩, ?_⟩
  (focus (intro wz hz; go_simp; (try with_reducible rfl); done))
  (try simp only [Act.put, List.setIfInBounds_toArray, List.set_cons_zero, List.set_cons_succ])
  refine wpAnyD_takeSL (i := 3) rfl (by kernel_rfl) (fun _ _ _ _ h => h) hS ?_
  apply Exists.intro
  refine ⟨Or.inl ⟨by rfl, ?_⟩, ?_⟩
  (focus (intro wz hz; have zc0 := GrownX.cell hz ca0 hr0 (by first | decide | (simp; done) | (simp; omega) | omega); have zc1 := GrownX.cell hz ca1 hr0 (by first | decide | (simp; done) | (simp; omega) | omega); have zc2 := GrownX.cell hz ca2 hr0 (by first | decide | (simp; done) | (simp; omega) | omega); go_simp; (try with_reducible rfl); done))
  (try simp only [Act.put, List.setIfInBounds_toArray, List.set_cons_zero, List.set_cons_succ])
  refine wpAnyD_takeSL (i := 4) rfl (by kernel_rfl) (fun _ _ _ _ h => h) hS ?_
  apply Exists.intro
  refine ⟨Or.inl ⟨by rfl, ?_⟩, ?_⟩
  (focus (intro wz hz; go_simp; (try with_reducible rfl); done))
  (try simp only [Act.put, List.setIfInBounds_toArray, List.set_cons_zero, List.set_cons_succ])
  refine wpAnyD_takeSL (i := 5) rfl (by kernel_rfl) (fun _ _ _ _ h => h) hS ?_
  apply Exists.intro
  refine ⟨Or.inl ⟨by rfl, ?_⟩, ?_⟩
  (focus (intro wz hz; have zc0 := GrownX.cell hz ca0 hr0 (by first | decide | (simp; done) | (simp; omega) | omega); have zc1 := GrownX.cell hz ca1 hr0 (by first | decide | (simp; done) | (simp; omega) | omega); have zc2 := GrownX.cell hz ca2 hr0 (by first | decide | (simp; done) | (simp; omega) | omega); go_simp; (try with_reducible rfl); done))
  (try simp only [Act.put, List.setIfInBounds_toArray, List.set_cons_zero, List.set_cons_succ])
  refine wpAnyD_oneL (i := 6) rfl (by kernel_rfl) (fun K hK => ?_)
  rw [if_pos (by rfl)]
  go_simp
  (try dsimp only); refine hK.out _ _ (fun _ => hS) ?_; clear hK K; (try simp only [Act.put, List.setIfInBounds_toArray, List.set_cons_zero, List.set_cons_succ])
  refine wpAnyD_oneL (i := 7) rfl (by kernel_rfl) (fun K hK => ?_)
  rw [if_pos (by rfl)]
  go_simp
  (try dsimp only); refine hK.out _ _ (fun _ => hS) ?_; clear hK K; (try simp only [Act.put, List.setIfInBounds_toArray, List.set_cons_zero, List.set_cons_succ])
  refine wpAnyD_oneL (i := 8) rfl (by kernel_rfl) (fun K hK => ?_)
  rw [if_pos (by rfl)]
  go_simp
  (try dsimp only); refine hK.out _ _ (fun _ => hS) ?_; clear hK K; (try simp only [Act.put, List.setIfInBounds_toArray, List.set_cons_zero, List.set_cons_succ])
  refine wpAnyD_done (by kernel_rfl) ?_ _
  clear hS x0 x1
  clear ca0 ca1 ca2 hr0
  obtain ⟨g, hg⟩ : ∃ g, GapF p lo hi n = g := ⟨_, rfl⟩
  go_upto_region 7 with fail
  refine wp_region_lit ?_
  refine wpList_plain rfl (fun K hK => ?_)
  (first | (refine wp_ld 28 _ (b1.range) (by rfl) (by rfl) Try.underlying28 rfl (by exact Try.infoT) ?_))
  (try dsimp only); refine hK _ _ ?_; clear hK K; (try simp only [Act.put, List.setIfInBounds_toArray, List.set_cons_zero, List.set_cons_succ])
  refine wpList_plain rfl (fun K hK => ?_)
  go_simp
  (try dsimp only); refine hK _ _ ?_; clear hK K; (try simp only [Act.put, List.setIfInBounds_toArray, List.set_cons_zero, List.set_cons_succ])
  refine wpList_plain rfl (fun K hK => ?_)
  go_simp
  (try dsimp only); refine hK _ _ ?_; clear hK K; (try simp only [Act.put, List.setIfInBounds_toArray, List.set_cons_zero, List.set_cons_succ])
  refine wpList_plain rfl (fun K hK => ?_)
  go_simp
  (try dsimp only); refine hK _ _ ?_; clear hK K; (try simp only [Act.put, List.setIfInBounds_toArray, List.set_cons_zero, List.set_cons_succ])
  refine wpList_plain rfl (fun K hK => ?_)
  go_simp
  (go_at_call 28; refine (Gap_is p lo hi n g hg v _ hp tv).mono ?_; intro e W7 hpp; obtain ⟨rfl, hx⟩ := hpp)
  (try dsimp only); refine hK _ _ ?_; clear hK K; (try simp only [Act.put, List.setIfInBounds_toArray, List.set_cons_zero, List.set_cons_succ])
  replace b0 := b0.ext hx
  replace b1 := b1.ext hx
  replace hown := hown.ext hx
  replace tv := isT.ext hx tv
  replace hm := Nat.le_trans hm hx.below.size
  replace hE := hE.trans hx
  clear hx
  replace qz : r1 < W7.heap.size := b1.lt
  refine wpList_plain rfl (fun K hK => ?_)
  go_simp
  (try dsimp only); refine hK _ _ ?_; clear hK K; (try simp only [Act.put, List.setIfInBounds_toArray, List.set_cons_zero, List.set_cons_succ])
  refine wpList_nil ?_
  go_upto_region 8 with fail
  cases h0 : decide (lo < 0) with
  | true =>
    have hgv : (g == -1) = true := by rw [← hg, GapF_bad (by unfold gapBad; rw [h0]; rfl)]; rfl
    refine wp_region_lit ?_
    refine wpList_plain rfl (fun K hK => ?_)
    go_simp
    (try dsimp only); refine hK _ _ ?_; clear hK K; (try simp only [Act.put, List.setIfInBounds_toArray, List.set_cons_zero, List.set_cons_succ])
    refine wpList_plain rfl (fun K hK => ?_)
    go_simp; (try simp (disch := omega) only [IntWalk.i64_in, IntWalk.wrap64_in]); (try simp only [h0])
    (try dsimp only); refine hK _ _ ?_; clear hK K; (try simp only [Act.put, List.setIfInBounds_toArray, List.set_cons_zero, List.set_cons_succ])
    refine wpList_plain rfl (fun K hK => ?_)
    go_simp
    (try dsimp only); refine hK _ _ ?_; clear hK K; (try simp only [Act.put, List.setIfInBounds_toArray, List.set_cons_zero, List.set_cons_succ])
    refine wpList_step (fun K hK => ?_)
    rw [if_neg (by exact Bool.false_ne_true)]
    (try dsimp only); refine hK _ _ ?_; clear hK K; (try simp only [Act.put, List.setIfInBounds_toArray, List.set_cons_zero, List.set_cons_succ])
    refine wpList_step (fun K hK => ?_)
    rw [if_neg (by exact Bool.false_ne_true)]
    (try dsimp only); refine hK _ _ ?_; clear hK K; (try simp only [Act.put, List.setIfInBounds_toArray, List.set_cons_zero, List.set_cons_succ])
    refine wpList_step (fun K hK => ?_)
    rw [if_neg (by exact Bool.false_ne_true)]
    (try dsimp only); refine hK _ _ ?_; clear hK K; (try simp only [Act.put, List.setIfInBounds_toArray, List.set_cons_zero, List.set_cons_succ])
    refine wpList_plain rfl (fun K hK => ?_)
    go_simp
    (try dsimp only); refine hK _ _ ?_; clear hK K; (try simp only [Act.put, List.setIfInBounds_toArray, List.set_cons_zero, List.set_cons_succ])
    refine wpList_plain rfl (fun K hK => ?_)
    go_simp
    (try dsimp only); refine hK _ _ ?_; clear hK K; (try simp only [Act.put, List.setIfInBounds_toArray, List.set_cons_zero, List.set_cons_succ])
    refine wpList_step (fun K hK => ?_)
    rw [if_neg (by exact Bool.false_ne_true)]
    (try dsimp only); refine hK _ _ ?_; clear hK K; (try simp only [Act.put, List.setIfInBounds_toArray, List.set_cons_zero, List.set_cons_succ])
    refine wpList_step (fun K hK => ?_)
    rw [if_neg (by exact Bool.false_ne_true)]
    (try dsimp only); refine hK _ _ ?_; clear hK K; (try simp only [Act.put, List.setIfInBounds_toArray, List.set_cons_zero, List.set_cons_succ])
    refine wpList_plain rfl (fun K hK => ?_)
    go_simp
    (try dsimp only); refine hK _ _ ?_; clear hK K; (try simp only [Act.put, List.setIfInBounds_toArray, List.set_cons_zero, List.set_cons_succ])
    refine wpList_plain rfl (fun K hK => ?_)
    go_simp
    (try dsimp only); refine hK _ _ ?_; clear hK K; (try simp only [Act.put, List.setIfInBounds_toArray, List.set_cons_zero, List.set_cons_succ])
    refine wpList_step (fun K hK => ?_)
    rw [if_neg (by exact Bool.false_ne_true)]
    (try dsimp only); refine hK _ _ ?_; clear hK K; (try simp only [Act.put, List.setIfInBounds_toArray, List.set_cons_zero, List.set_cons_succ])
    refine wpList_step (fun K hK => ?_)
    rw [if_neg (by exact Bool.false_ne_true)]
    (try dsimp only); refine hK _ _ ?_; clear hK K; (try simp only [Act.put, List.setIfInBounds_toArray, List.set_cons_zero, List.set_cons_succ])
    refine wpList_plain rfl (fun K hK => ?_)
    go_simp
    (try dsimp only); refine hK _ _ ?_; clear hK K; (try simp only [Act.put, List.setIfInBounds_toArray, List.set_cons_zero, List.set_cons_succ])
    refine wpList_plain rfl (fun K hK => ?_)
    go_simp
    (try dsimp only); refine hK _ _ ?_; clear hK K; (try simp only [Act.put, List.setIfInBounds_toArray, List.set_cons_zero, List.set_cons_succ])
    refine wpList_step (fun K hK => ?_)
    rw [if_neg (by exact Bool.false_ne_true)]
    (try dsimp only); refine hK _ _ ?_; clear hK K; (try simp only [Act.put, List.setIfInBounds_toArray, List.set_cons_zero, List.set_cons_succ])
    refine wpList_step (fun K hK => ?_)
    rw [if_neg (by exact Bool.false_ne_true)]
    (try dsimp only); refine hK _ _ ?_; clear hK K; (try simp only [Act.put, List.setIfInBounds_toArray, List.set_cons_zero, List.set_cons_succ])
    refine wpList_step (fun K hK => ?_)
    rw [if_neg (by exact Bool.false_ne_true)]
    (try dsimp only); refine hK _ _ ?_; clear hK K; (try simp only [Act.put, List.setIfInBounds_toArray, List.set_cons_zero, List.set_cons_succ])
    refine wpList_step (fun K hK => ?_)
    rw [if_neg (by exact Bool.false_ne_true)]
    (try dsimp only); refine hK _ _ ?_; clear hK K; (try simp only [Act.put, List.setIfInBounds_toArray, List.set_cons_zero, List.set_cons_succ])
    refine wpList_step (fun K hK => ?_)
    rw [if_neg (by exact Bool.false_ne_true)]
    (try dsimp only); refine hK _ _ ?_; clear hK K; (try simp only [Act.put, List.setIfInBounds_toArray, List.set_cons_zero, List.set_cons_succ])
    refine wpList_plain rfl (fun K hK => ?_)
    go_simp
    (try dsimp only); refine hK _ _ ?_; clear hK K; (try simp only [Act.put, List.setIfInBounds_toArray, List.set_cons_zero, List.set_cons_succ])
    refine wpList_nil ?_
    go_upto_region 9 with fail
    refine wp_region_lit ?_
    refine wpList_plain rfl (fun K hK => ?_)
    go_simp
    (try dsimp only); refine hK _ _ ?_; clear hK K; (try simp only [Act.put, List.setIfInBounds_toArray, List.set_cons_zero, List.set_cons_succ])
    refine wpList_plain rfl (fun K hK => ?_)
    go_simp; (try simp (disch := omega) only [IntWalk.i64_in, IntWalk.wrap64_in]); (try simp only [hgv])
    (try dsimp only); refine hK _ _ ?_; clear hK K; (try simp only [Act.put, List.setIfInBounds_toArray, List.set_cons_zero, List.set_cons_succ])
    refine wpList_plain rfl (fun K hK => ?_)
    go_simp
    (try dsimp only); refine hK _ _ ?_; clear hK K; (try simp only [Act.put, List.setIfInBounds_toArray, List.set_cons_zero, List.set_cons_succ])
    refine wpList_nil ?_
    go_wp2_with fail
    go_ret
    exact ⟨rfl, hE⟩
  | false =>
  cases h1 : decide (hi < lo) with
  | true =>
    have hgv : (g == -1) = true := by rw [← hg, GapF_bad (by unfold gapBad; rw [h1, Bool.or_true]; rfl)]; rfl
    refine wp_region_lit ?_
    refine wpList_plain rfl (fun K hK => ?_)
    go_simp
    (try dsimp only); refine hK _ _ ?_; clear hK K; (try simp only [Act.put, List.setIfInBounds_toArray, List.set_cons_zero, List.set_cons_succ])
    refine wpList_plain rfl (fun K hK => ?_)
    go_simp; (try simp (disch := omega) only [IntWalk.i64_in, IntWalk.wrap64_in]); (try simp only [h0, h1])
    (try dsimp only); refine hK _ _ ?_; clear hK K; (try simp only [Act.put, List.setIfInBounds_toArray, List.set_cons_zero, List.set_cons_succ])
    refine wpList_plain rfl (fun K hK => ?_)
    go_simp
    (try dsimp only); refine hK _ _ ?_; clear hK K; (try simp only [Act.put, List.setIfInBounds_toArray, List.set_cons_zero, List.set_cons_succ])
    refine wpList_step (fun K hK => ?_)
    rw [if_pos (by rfl)]
    go_simp
    (try dsimp only); refine hK _ _ ?_; clear hK K; (try simp only [Act.put, List.setIfInBounds_toArray, List.set_cons_zero, List.set_cons_succ])
    refine wpList_step (fun K hK => ?_)
    rw [if_pos (by rfl)]
    go_simp
    (try dsimp only); refine hK _ _ ?_; clear hK K; (try simp only [Act.put, List.setIfInBounds_toArray, List.set_cons_zero, List.set_cons_succ])
    refine wpList_step (fun K hK => ?_)
    rw [if_pos (by rfl)]
    go_simp; (try simp (disch := omega) only [IntWalk.i64_in, IntWalk.wrap64_in]); (try simp only [h0, h1])
    (try dsimp only); refine hK _ _ ?_; clear hK K; (try simp only [Act.put, List.setIfInBounds_toArray, List.set_cons_zero, List.set_cons_succ])
    refine wpList_plain rfl (fun K hK => ?_)
    go_simp
    (try dsimp only); refine hK _ _ ?_; clear hK K; (try simp only [Act.put, List.setIfInBounds_toArray, List.set_cons_zero, List.set_cons_succ])
    refine wpList_plain rfl (fun K hK => ?_)
    go_simp
    (try dsimp only); refine hK _ _ ?_; clear hK K; (try simp only [Act.put, List.setIfInBounds_toArray, List.set_cons_zero, List.set_cons_succ])
    refine wpList_step (fun K hK => ?_)
    rw [if_neg (by exact Bool.false_ne_true)]
    (try dsimp only); refine hK _ _ ?_; clear hK K; (try simp only [Act.put, List.setIfInBounds_toArray, List.set_cons_zero, List.set_cons_succ])
    refine wpList_step (fun K hK => ?_)
    rw [if_neg (by exact Bool.false_ne_true)]
    (try dsimp only); refine hK _ _ ?_; clear hK K; (try simp only [Act.put, List.setIfInBounds_toArray, List.set_cons_zero, List.set_cons_succ])
    refine wpList_plain rfl (fun K hK => ?_)
    go_simp
    (try dsimp only); refine hK _ _ ?_; clear hK K; (try simp only [Act.put, List.setIfInBounds_toArray, List.set_cons_zero, List.set_cons_succ])
    refine wpList_plain rfl (fun K hK => ?_)
    go_simp
    (try dsimp only); refine hK _ _ ?_; clear hK K; (try simp only [Act.put, List.setIfInBounds_toArray, List.set_cons_zero, List.set_cons_succ])
    refine wpList_step (fun K hK => ?_)
    rw [if_neg (by exact Bool.false_ne_true)]
    (try dsimp only); refine hK _ _ ?_; clear hK K; (try simp only [Act.put, List.setIfInBounds_toArray, List.set_cons_zero, List.set_cons_succ])
    refine wpList_step (fun K hK => ?_)
    rw [if_neg (by exact Bool.false_ne_true)]
    (try dsimp only); refine hK _ _ ?_; clear hK K; (try simp only [Act.put, List.setIfInBounds_toArray, List.set_cons_zero, List.set_cons_succ])
    refine wpList_plain rfl (fun K hK => ?_)
    go_simp
    (try dsimp only); refine hK _ _ ?_; clear hK K; (try simp only [Act.put, List.setIfInBounds_toArray, List.set_cons_zero, List.set_cons_succ])
    refine wpList_plain rfl (fun K hK => ?_)
    go_simp
    (try dsimp only); refine hK _ _ ?_; clear hK K; (try simp only [Act.put, List.setIfInBounds_toArray, List.set_cons_zero, List.set_cons_succ])
    refine wpList_step (fun K hK => ?_)
    rw [if_neg (by exact Bool.false_ne_true)]
    (try dsimp only); refine hK _ _ ?_; clear hK K; (try simp only [Act.put, List.setIfInBounds_toArray, List.set_cons_zero, List.set_cons_succ])
    refine wpList_step (fun K hK => ?_)
    rw [if_neg (by exact Bool.false_ne_true)]
    (try dsimp only); refine hK _ _ ?_; clear hK K; (try simp only [Act.put, List.setIfInBounds_toArray, List.set_cons_zero, List.set_cons_succ])
    refine wpList_step (fun K hK => ?_)
    rw [if_neg (by exact Bool.false_ne_true)]
    (try dsimp only); refine hK _ _ ?_; clear hK K; (try simp only [Act.put, List.setIfInBounds_toArray, List.set_cons_zero, List.set_cons_succ])
    refine wpList_step (fun K hK => ?_)
    rw [if_neg (by exact Bool.false_ne_true)]
    (try dsimp only); refine hK _ _ ?_; clear hK K; (try simp only [Act.put, List.setIfInBounds_toArray, List.set_cons_zero, List.set_cons_succ])
    refine wpList_step (fun K hK => ?_)
    rw [if_neg (by exact Bool.false_ne_true)]
    (try dsimp only); refine hK _ _ ?_; clear hK K; (try simp only [Act.put, List.setIfInBounds_toArray, List.set_cons_zero, List.set_cons_succ])
    refine wpList_plain rfl (fun K hK => ?_)
    go_simp
    (try dsimp only); refine hK _ _ ?_; clear hK K; (try simp only [Act.put, List.setIfInBounds_toArray, List.set_cons_zero, List.set_cons_succ])
    refine wpList_nil ?_
    go_upto_region 9 with fail
    refine wp_region_lit ?_
    refine wpList_plain rfl (fun K hK => ?_)
    go_simp
    (try dsimp only); refine hK _ _ ?_; clear hK K; (try simp only [Act.put, List.setIfInBounds_toArray, List.set_cons_zero, List.set_cons_succ])
    refine wpList_plain rfl (fun K hK => ?_)
    go_simp; (try simp (disch := omega) only [IntWalk.i64_in, IntWalk.wrap64_in]); (try simp only [hgv])
    (try dsimp only); refine hK _ _ ?_; clear hK K; (try simp only [Act.put, List.setIfInBounds_toArray, List.set_cons_zero, List.set_cons_succ])
    refine wpList_plain rfl (fun K hK => ?_)
    go_simp
    (try dsimp only); refine hK _ _ ?_; clear hK K; (try simp only [Act.put, List.setIfInBounds_toArray, List.set_cons_zero, List.set_cons_succ])
    refine wpList_nil ?_
    go_wp2_with fail
    go_ret
    exact ⟨rfl, hE⟩
  | false =>
  cases h2 : decide (512 < hi) with
  | true =>
    have hgv : (g == -1) = true := by rw [← hg, GapF_bad (by unfold gapBad; rw [h2, Bool.or_true]; rfl)]; rfl
    refine wp_region_lit ?_
    refine wpList_plain rfl (fun K hK => ?_)
    go_simp
    (try dsimp only); refine hK _ _ ?_; clear hK K; (try simp only [Act.put, List.setIfInBounds_toArray, List.set_cons_zero, List.set_cons_succ])
    refine wpList_plain rfl (fun K hK => ?_)
    go_simp; (try simp (disch := omega) only [IntWalk.i64_in, IntWalk.wrap64_in]); (try simp only [h0, h1, h2])
    (try dsimp only); refine hK _ _ ?_; clear hK K; (try simp only [Act.put, List.setIfInBounds_toArray, List.set_cons_zero, List.set_cons_succ])
    refine wpList_plain rfl (fun K hK => ?_)
    go_simp
    (try dsimp only); refine hK _ _ ?_; clear hK K; (try simp only [Act.put, List.setIfInBounds_toArray, List.set_cons_zero, List.set_cons_succ])
    refine wpList_step (fun K hK => ?_)
    rw [if_pos (by rfl)]
    go_simp
    (try dsimp only); refine hK _ _ ?_; clear hK K; (try simp only [Act.put, List.setIfInBounds_toArray, List.set_cons_zero, List.set_cons_succ])
    refine wpList_step (fun K hK => ?_)
    rw [if_pos (by rfl)]
    go_simp
    (try dsimp only); refine hK _ _ ?_; clear hK K; (try simp only [Act.put, List.setIfInBounds_toArray, List.set_cons_zero, List.set_cons_succ])
    refine wpList_step (fun K hK => ?_)
    rw [if_pos (by rfl)]
    go_simp; (try simp (disch := omega) only [IntWalk.i64_in, IntWalk.wrap64_in]); (try simp only [h0, h1, h2])
    (try dsimp only); refine hK _ _ ?_; clear hK K; (try simp only [Act.put, List.setIfInBounds_toArray, List.set_cons_zero, List.set_cons_succ])
    refine wpList_plain rfl (fun K hK => ?_)
    go_simp
    (try dsimp only); refine hK _ _ ?_; clear hK K; (try simp only [Act.put, List.setIfInBounds_toArray, List.set_cons_zero, List.set_cons_succ])
    refine wpList_plain rfl (fun K hK => ?_)
    go_simp
    (try dsimp only); refine hK _ _ ?_; clear hK K; (try simp only [Act.put, List.setIfInBounds_toArray, List.set_cons_zero, List.set_cons_succ])
    refine wpList_step (fun K hK => ?_)
    rw [if_pos (by rfl)]
    go_simp
    (try dsimp only); refine hK _ _ ?_; clear hK K; (try simp only [Act.put, List.setIfInBounds_toArray, List.set_cons_zero, List.set_cons_succ])
    refine wpList_step (fun K hK => ?_)
    rw [if_pos (by rfl)]
    go_simp; (try simp (disch := omega) only [IntWalk.i64_in, IntWalk.wrap64_in]); (try simp only [h0, h1, h2])
    (try dsimp only); refine hK _ _ ?_; clear hK K; (try simp only [Act.put, List.setIfInBounds_toArray, List.set_cons_zero, List.set_cons_succ])
    refine wpList_plain rfl (fun K hK => ?_)
    go_simp
    (try dsimp only); refine hK _ _ ?_; clear hK K; (try simp only [Act.put, List.setIfInBounds_toArray, List.set_cons_zero, List.set_cons_succ])
    refine wpList_plain rfl (fun K hK => ?_)
    go_simp
    (try dsimp only); refine hK _ _ ?_; clear hK K; (try simp only [Act.put, List.setIfInBounds_toArray, List.set_cons_zero, List.set_cons_succ])
    refine wpList_step (fun K hK => ?_)
    rw [if_neg (by exact Bool.false_ne_true)]
    (try dsimp only); refine hK _ _ ?_; clear hK K; (try simp only [Act.put, List.setIfInBounds_toArray, List.set_cons_zero, List.set_cons_succ])
    refine wpList_step (fun K hK => ?_)
    rw [if_neg (by exact Bool.false_ne_true)]
    (try dsimp only); refine hK _ _ ?_; clear hK K; (try simp only [Act.put, List.setIfInBounds_toArray, List.set_cons_zero, List.set_cons_succ])
    refine wpList_plain rfl (fun K hK => ?_)
    go_simp
    (try dsimp only); refine hK _ _ ?_; clear hK K; (try simp only [Act.put, List.setIfInBounds_toArray, List.set_cons_zero, List.set_cons_succ])
    refine wpList_plain rfl (fun K hK => ?_)
    go_simp
    (try dsimp only); refine hK _ _ ?_; clear hK K; (try simp only [Act.put, List.setIfInBounds_toArray, List.set_cons_zero, List.set_cons_succ])
    refine wpList_step (fun K hK => ?_)
    rw [if_neg (by exact Bool.false_ne_true)]
    (try dsimp only); refine hK _ _ ?_; clear hK K; (try simp only [Act.put, List.setIfInBounds_toArray, List.set_cons_zero, List.set_cons_succ])
    refine wpList_step (fun K hK => ?_)
    rw [if_neg (by exact Bool.false_ne_true)]
    (try dsimp only); refine hK _ _ ?_; clear hK K; (try simp only [Act.put, List.setIfInBounds_toArray, List.set_cons_zero, List.set_cons_succ])
    refine wpList_step (fun K hK => ?_)
    rw [if_neg (by exact Bool.false_ne_true)]
    (try dsimp only); refine hK _ _ ?_; clear hK K; (try simp only [Act.put, List.setIfInBounds_toArray, List.set_cons_zero, List.set_cons_succ])
    refine wpList_step (fun K hK => ?_)
    rw [if_neg (by exact Bool.false_ne_true)]
    (try dsimp only); refine hK _ _ ?_; clear hK K; (try simp only [Act.put, List.setIfInBounds_toArray, List.set_cons_zero, List.set_cons_succ])
    refine wpList_step (fun K hK => ?_)
    rw [if_neg (by exact Bool.false_ne_true)]
    (try dsimp only); refine hK _ _ ?_; clear hK K; (try simp only [Act.put, List.setIfInBounds_toArray, List.set_cons_zero, List.set_cons_succ])
    refine wpList_plain rfl (fun K hK => ?_)
    go_simp
    (try dsimp only); refine hK _ _ ?_; clear hK K; (try simp only [Act.put, List.setIfInBounds_toArray, List.set_cons_zero, List.set_cons_succ])
    refine wpList_nil ?_
    go_upto_region 9 with fail
    refine wp_region_lit ?_
    refine wpList_plain rfl (fun K hK => ?_)
    go_simp
    (try dsimp only); refine hK _ _ ?_; clear hK K; (try simp only [Act.put, List.setIfInBounds_toArray, List.set_cons_zero, List.set_cons_succ])
    refine wpList_plain rfl (fun K hK => ?_)
    go_simp; (try simp (disch := omega) only [IntWalk.i64_in, IntWalk.wrap64_in]); (try simp only [hgv])
    (try dsimp only); refine hK _ _ ?_; clear hK K; (try simp only [Act.put, List.setIfInBounds_toArray, List.set_cons_zero, List.set_cons_succ])
    refine wpList_plain rfl (fun K hK => ?_)
    go_simp
    (try dsimp only); refine hK _ _ ?_; clear hK K; (try simp only [Act.put, List.setIfInBounds_toArray, List.set_cons_zero, List.set_cons_succ])
    refine wpList_nil ?_
    go_wp2_with fail
    go_ret
    exact ⟨rfl, hE⟩
  | false =>
  cases h3 : decide (n < 1) with
  | true =>
    have hgv : (g == -1) = true := by rw [← hg, GapF_bad (by unfold gapBad; rw [h3, Bool.or_true]; rfl)]; rfl
    refine wp_region_lit ?_
    refine wpList_plain rfl (fun K hK => ?_)
    go_simp
    (try dsimp only); refine hK _ _ ?_; clear hK K; (try simp only [Act.put, List.setIfInBounds_toArray, List.set_cons_zero, List.set_cons_succ])
    refine wpList_plain rfl (fun K hK => ?_)
    go_simp; (try simp (disch := omega) only [IntWalk.i64_in, IntWalk.wrap64_in]); (try simp only [h0, h1, h2, h3])
    (try dsimp only); refine hK _ _ ?_; clear hK K; (try simp only [Act.put, List.setIfInBounds_toArray, List.set_cons_zero, List.set_cons_succ])
    refine wpList_plain rfl (fun K hK => ?_)
    go_simp
    (try dsimp only); refine hK _ _ ?_; clear hK K; (try simp only [Act.put, List.setIfInBounds_toArray, List.set_cons_zero, List.set_cons_succ])
    refine wpList_step (fun K hK => ?_)
    rw [if_pos (by rfl)]
    go_simp
    (try dsimp only); refine hK _ _ ?_; clear hK K; (try simp only [Act.put, List.setIfInBounds_toArray, List.set_cons_zero, List.set_cons_succ])
    refine wpList_step (fun K hK => ?_)
    rw [if_pos (by rfl)]
    go_simp
    (try dsimp only); refine hK _ _ ?_; clear hK K; (try simp only [Act.put, List.setIfInBounds_toArray, List.set_cons_zero, List.set_cons_succ])
    refine wpList_step (fun K hK => ?_)
    rw [if_pos (by rfl)]
    go_simp; (try simp (disch := omega) only [IntWalk.i64_in, IntWalk.wrap64_in]); (try simp only [h0, h1, h2, h3])
    (try dsimp only); refine hK _ _ ?_; clear hK K; (try simp only [Act.put, List.setIfInBounds_toArray, List.set_cons_zero, List.set_cons_succ])
    refine wpList_plain rfl (fun K hK => ?_)
    go_simp
    (try dsimp only); refine hK _ _ ?_; clear hK K; (try simp only [Act.put, List.setIfInBounds_toArray, List.set_cons_zero, List.set_cons_succ])
    refine wpList_plain rfl (fun K hK => ?_)
    go_simp
    (try dsimp only); refine hK _ _ ?_; clear hK K; (try simp only [Act.put, List.setIfInBounds_toArray, List.set_cons_zero, List.set_cons_succ])
    refine wpList_step (fun K hK => ?_)
    rw [if_pos (by rfl)]
    go_simp
    (try dsimp only); refine hK _ _ ?_; clear hK K; (try simp only [Act.put, List.setIfInBounds_toArray, List.set_cons_zero, List.set_cons_succ])
    refine wpList_step (fun K hK => ?_)
    rw [if_pos (by rfl)]
    go_simp; (try simp (disch := omega) only [IntWalk.i64_in, IntWalk.wrap64_in]); (try simp only [h0, h1, h2, h3])
    (try dsimp only); refine hK _ _ ?_; clear hK K; (try simp only [Act.put, List.setIfInBounds_toArray, List.set_cons_zero, List.set_cons_succ])
    refine wpList_plain rfl (fun K hK => ?_)
    go_simp
    (try dsimp only); refine hK _ _ ?_; clear hK K; (try simp only [Act.put, List.setIfInBounds_toArray, List.set_cons_zero, List.set_cons_succ])
    refine wpList_plain rfl (fun K hK => ?_)
    go_simp
    (try dsimp only); refine hK _ _ ?_; clear hK K; (try simp only [Act.put, List.setIfInBounds_toArray, List.set_cons_zero, List.set_cons_succ])
    refine wpList_step (fun K hK => ?_)
    rw [if_pos (by rfl)]
    go_simp
    (try dsimp only); refine hK _ _ ?_; clear hK K; (try simp only [Act.put, List.setIfInBounds_toArray, List.set_cons_zero, List.set_cons_succ])
    refine wpList_step (fun K hK => ?_)
    rw [if_pos (by rfl)]
    go_simp; (try simp (disch := omega) only [IntWalk.i64_in, IntWalk.wrap64_in]); (try simp only [h0, h1, h2, h3])
    (try dsimp only); refine hK _ _ ?_; clear hK K; (try simp only [Act.put, List.setIfInBounds_toArray, List.set_cons_zero, List.set_cons_succ])
    refine wpList_plain rfl (fun K hK => ?_)
    go_simp
    (try dsimp only); refine hK _ _ ?_; clear hK K; (try simp only [Act.put, List.setIfInBounds_toArray, List.set_cons_zero, List.set_cons_succ])
    refine wpList_plain rfl (fun K hK => ?_)
    go_simp
    (try dsimp only); refine hK _ _ ?_; clear hK K; (try simp only [Act.put, List.setIfInBounds_toArray, List.set_cons_zero, List.set_cons_succ])
    refine wpList_step (fun K hK => ?_)
    rw [if_neg (by exact Bool.false_ne_true)]
    (try dsimp only); refine hK _ _ ?_; clear hK K; (try simp only [Act.put, List.setIfInBounds_toArray, List.set_cons_zero, List.set_cons_succ])
    refine wpList_step (fun K hK => ?_)
    rw [if_neg (by exact Bool.false_ne_true)]
    (try dsimp only); refine hK _ _ ?_; clear hK K; (try simp only [Act.put, List.setIfInBounds_toArray, List.set_cons_zero, List.set_cons_succ])
    refine wpList_step (fun K hK => ?_)
    rw [if_neg (by exact Bool.false_ne_true)]
    (try dsimp only); refine hK _ _ ?_; clear hK K; (try simp only [Act.put, List.setIfInBounds_toArray, List.set_cons_zero, List.set_cons_succ])
    refine wpList_step (fun K hK => ?_)
    rw [if_neg (by exact Bool.false_ne_true)]
    (try dsimp only); refine hK _ _ ?_; clear hK K; (try simp only [Act.put, List.setIfInBounds_toArray, List.set_cons_zero, List.set_cons_succ])
    refine wpList_step (fun K hK => ?_)
    rw [if_neg (by exact Bool.false_ne_true)]
    (try dsimp only); refine hK _ _ ?_; clear hK K; (try simp only [Act.put, List.setIfInBounds_toArray, List.set_cons_zero, List.set_cons_succ])
    refine wpList_plain rfl (fun K hK => ?_)
    go_simp
    (try dsimp only); refine hK _ _ ?_; clear hK K; (try simp only [Act.put, List.setIfInBounds_toArray, List.set_cons_zero, List.set_cons_succ])
    refine wpList_nil ?_
    go_upto_region 9 with fail
    refine wp_region_lit ?_
    refine wpList_plain rfl (fun K hK => ?_)
    go_simp
    (try dsimp only); refine hK _ _ ?_; clear hK K; (try simp only [Act.put, List.setIfInBounds_toArray, List.set_cons_zero, List.set_cons_succ])
    refine wpList_plain rfl (fun K hK => ?_)
    go_simp; (try simp (disch := omega) only [IntWalk.i64_in, IntWalk.wrap64_in]); (try simp only [hgv])
    (try dsimp only); refine hK _ _ ?_; clear hK K; (try simp only [Act.put, List.setIfInBounds_toArray, List.set_cons_zero, List.set_cons_succ])
    refine wpList_plain rfl (fun K hK => ?_)
    go_simp
    (try dsimp only); refine hK _ _ ?_; clear hK K; (try simp only [Act.put, List.setIfInBounds_toArray, List.set_cons_zero, List.set_cons_succ])
    refine wpList_nil ?_
    go_wp2_with fail
    go_ret
    exact ⟨rfl, hE⟩
  | false =>
  cases h4 : decide (hi - lo < n) with
  | true =>
    have g0 : 0 ≤ lo ∧ lo ≤ hi ∧ hi ≤ 512 ∧ 1 ≤ n ∧ hi - lo < n := by
      simp only [decide_eq_false_iff_not, decide_eq_true_eq] at h0 h1 h2 h3 h4
      omega
    obtain ⟨g1, g2, g3, g4, g5⟩ := g0
    have hgv : (g == -1) = true := by rw [← hg, GapF_none hp g1 g2 g3 g4 (fun q q1 q2 => by omega)]; rfl
    refine wp_region_lit ?_
    refine wpList_plain rfl (fun K hK => ?_)
    go_simp
    (try dsimp only); refine hK _ _ ?_; clear hK K; (try simp only [Act.put, List.setIfInBounds_toArray, List.set_cons_zero, List.set_cons_succ])
    refine wpList_plain rfl (fun K hK => ?_)
    go_simp; (try simp (disch := omega) only [IntWalk.i64_in, IntWalk.wrap64_in]); (try simp only [h0, h1, h2, h3, h4])
    (try dsimp only); refine hK _ _ ?_; clear hK K; (try simp only [Act.put, List.setIfInBounds_toArray, List.set_cons_zero, List.set_cons_succ])
    refine wpList_plain rfl (fun K hK => ?_)
    go_simp
    (try dsimp only); refine hK _ _ ?_; clear hK K; (try simp only [Act.put, List.setIfInBounds_toArray, List.set_cons_zero, List.set_cons_succ])
    refine wpList_step (fun K hK => ?_)
    rw [if_pos (by rfl)]
    go_simp
    (try dsimp only); refine hK _ _ ?_; clear hK K; (try simp only [Act.put, List.setIfInBounds_toArray, List.set_cons_zero, List.set_cons_succ])
    refine wpList_step (fun K hK => ?_)
    rw [if_pos (by rfl)]
    go_simp
    (try dsimp only); refine hK _ _ ?_; clear hK K; (try simp only [Act.put, List.setIfInBounds_toArray, List.set_cons_zero, List.set_cons_succ])
    refine wpList_step (fun K hK => ?_)
    rw [if_pos (by rfl)]
    go_simp; (try simp (disch := omega) only [IntWalk.i64_in, IntWalk.wrap64_in]); (try simp only [h0, h1, h2, h3, h4])
    (try dsimp only); refine hK _ _ ?_; clear hK K; (try simp only [Act.put, List.setIfInBounds_toArray, List.set_cons_zero, List.set_cons_succ])
    refine wpList_plain rfl (fun K hK => ?_)
    go_simp
    (try dsimp only); refine hK _ _ ?_; clear hK K; (try simp only [Act.put, List.setIfInBounds_toArray, List.set_cons_zero, List.set_cons_succ])
    refine wpList_plain rfl (fun K hK => ?_)
    go_simp
    (try dsimp only); refine hK _ _ ?_; clear hK K; (try simp only [Act.put, List.setIfInBounds_toArray, List.set_cons_zero, List.set_cons_succ])
    refine wpList_step (fun K hK => ?_)
    rw [if_pos (by rfl)]
    go_simp
    (try dsimp only); refine hK _ _ ?_; clear hK K; (try simp only [Act.put, List.setIfInBounds_toArray, List.set_cons_zero, List.set_cons_succ])
    refine wpList_step (fun K hK => ?_)
    rw [if_pos (by rfl)]
    go_simp; (try simp (disch := omega) only [IntWalk.i64_in, IntWalk.wrap64_in]); (try simp only [h0, h1, h2, h3, h4])
    (try dsimp only); refine hK _ _ ?_; clear hK K; (try simp only [Act.put, List.setIfInBounds_toArray, List.set_cons_zero, List.set_cons_succ])
    refine wpList_plain rfl (fun K hK => ?_)
    go_simp
    (try dsimp only); refine hK _ _ ?_; clear hK K; (try simp only [Act.put, List.setIfInBounds_toArray, List.set_cons_zero, List.set_cons_succ])
    refine wpList_plain rfl (fun K hK => ?_)
    go_simp
    (try dsimp only); refine hK _ _ ?_; clear hK K; (try simp only [Act.put, List.setIfInBounds_toArray, List.set_cons_zero, List.set_cons_succ])
    refine wpList_step (fun K hK => ?_)
    rw [if_pos (by rfl)]
    go_simp
    (try dsimp only); refine hK _ _ ?_; clear hK K; (try simp only [Act.put, List.setIfInBounds_toArray, List.set_cons_zero, List.set_cons_succ])
    refine wpList_step (fun K hK => ?_)
    rw [if_pos (by rfl)]
    go_simp; (try simp (disch := omega) only [IntWalk.i64_in, IntWalk.wrap64_in]); (try simp only [h0, h1, h2, h3, h4])
    (try dsimp only); refine hK _ _ ?_; clear hK K; (try simp only [Act.put, List.setIfInBounds_toArray, List.set_cons_zero, List.set_cons_succ])
    refine wpList_plain rfl (fun K hK => ?_)
    go_simp
    (try dsimp only); refine hK _ _ ?_; clear hK K; (try simp only [Act.put, List.setIfInBounds_toArray, List.set_cons_zero, List.set_cons_succ])
    refine wpList_plain rfl (fun K hK => ?_)
    go_simp
    (try dsimp only); refine hK _ _ ?_; clear hK K; (try simp only [Act.put, List.setIfInBounds_toArray, List.set_cons_zero, List.set_cons_succ])
    refine wpList_step (fun K hK => ?_)
    rw [if_pos (by rfl)]
    go_simp
    (try dsimp only); refine hK _ _ ?_; clear hK K; (try simp only [Act.put, List.setIfInBounds_toArray, List.set_cons_zero, List.set_cons_succ])
    refine wpList_step (fun K hK => ?_)
    rw [if_pos (by rfl)]
    go_simp
    (try dsimp only); refine hK _ _ ?_; clear hK K; (try simp only [Act.put, List.setIfInBounds_toArray, List.set_cons_zero, List.set_cons_succ])
    refine wpList_step (fun K hK => ?_)
    rw [if_pos (by rfl)]
    go_simp
    (try dsimp only); refine hK _ _ ?_; clear hK K; (try simp only [Act.put, List.setIfInBounds_toArray, List.set_cons_zero, List.set_cons_succ])
    refine wpList_step (fun K hK => ?_)
    rw [if_pos (by rfl)]
    go_simp; (try simp (disch := omega) only [IntWalk.i64_in, IntWalk.wrap64_in]); (try simp only [h0, h1, h2, h3, h4])
    (try dsimp only); refine hK _ _ ?_; clear hK K; (try simp only [Act.put, List.setIfInBounds_toArray, List.set_cons_zero, List.set_cons_succ])
    refine wpList_step (fun K hK => ?_)
    rw [if_pos (by rfl)]
    go_simp; (try simp (disch := omega) only [IntWalk.i64_in, IntWalk.wrap64_in]); (try simp only [h0, h1, h2, h3, h4])
    (try dsimp only); refine hK _ _ ?_; clear hK K; (try simp only [Act.put, List.setIfInBounds_toArray, List.set_cons_zero, List.set_cons_succ])
    refine wpList_plain rfl (fun K hK => ?_)
    go_simp
    (try dsimp only); refine hK _ _ ?_; clear hK K; (try simp only [Act.put, List.setIfInBounds_toArray, List.set_cons_zero, List.set_cons_succ])
    refine wpList_nil ?_
    go_upto_region 9 with fail
    refine wp_region_lit ?_
    refine wpList_plain rfl (fun K hK => ?_)
    go_simp
    (try dsimp only); refine hK _ _ ?_; clear hK K; (try simp only [Act.put, List.setIfInBounds_toArray, List.set_cons_zero, List.set_cons_succ])
    refine wpList_plain rfl (fun K hK => ?_)
    go_simp; (try simp (disch := omega) only [IntWalk.i64_in, IntWalk.wrap64_in]); (try simp only [hgv])
    (try dsimp only); refine hK _ _ ?_; clear hK K; (try simp only [Act.put, List.setIfInBounds_toArray, List.set_cons_zero, List.set_cons_succ])
    refine wpList_plain rfl (fun K hK => ?_)
    go_simp
    (try dsimp only); refine hK _ _ ?_; clear hK K; (try simp only [Act.put, List.setIfInBounds_toArray, List.set_cons_zero, List.set_cons_succ])
    refine wpList_nil ?_
    go_wp2_with fail
    go_ret
    exact ⟨rfl, hE⟩
  | false =>
  have g0 : 0 ≤ lo ∧ lo ≤ hi ∧ hi ≤ 512 ∧ 1 ≤ n ∧ n ≤ hi - lo := by
    simp only [decide_eq_false_iff_not] at h0 h1 h2 h3 h4
    omega
  obtain ⟨g1, g2, g3, g4, g5⟩ := g0
  refine wp_region_lit ?_
  refine wpList_plain rfl (fun K hK => ?_)
  go_simp
  (try dsimp only); refine hK _ _ ?_; clear hK K; (try simp only [Act.put, List.setIfInBounds_toArray, List.set_cons_zero, List.set_cons_succ])
  refine wpList_plain rfl (fun K hK => ?_)
  go_simp; (try simp (disch := omega) only [IntWalk.i64_in, IntWalk.wrap64_in]); (try simp only [h0, h1, h2, h3, h4])
  (try dsimp only); refine hK _ _ ?_; clear hK K; (try simp only [Act.put, List.setIfInBounds_toArray, List.set_cons_zero, List.set_cons_succ])
  refine wpList_plain rfl (fun K hK => ?_)
  go_simp
  (try dsimp only); refine hK _ _ ?_; clear hK K; (try simp only [Act.put, List.setIfInBounds_toArray, List.set_cons_zero, List.set_cons_succ])
  refine wpList_step (fun K hK => ?_)
  rw [if_pos (by rfl)]
  go_simp
  (try dsimp only); refine hK _ _ ?_; clear hK K; (try simp only [Act.put, List.setIfInBounds_toArray, List.set_cons_zero, List.set_cons_succ])
  refine wpList_step (fun K hK => ?_)
  rw [if_pos (by rfl)]
  go_simp
  (try dsimp only); refine hK _ _ ?_; clear hK K; (try simp only [Act.put, List.setIfInBounds_toArray, List.set_cons_zero, List.set_cons_succ])
  refine wpList_step (fun K hK => ?_)
  rw [if_pos (by rfl)]
  go_simp; (try simp (disch := omega) only [IntWalk.i64_in, IntWalk.wrap64_in]); (try simp only [h0, h1, h2, h3, h4])
  (try dsimp only); refine hK _ _ ?_; clear hK K; (try simp only [Act.put, List.setIfInBounds_toArray, List.set_cons_zero, List.set_cons_succ])
  refine wpList_plain rfl (fun K hK => ?_)
  go_simp
  (try dsimp only); refine hK _ _ ?_; clear hK K; (try simp only [Act.put, List.setIfInBounds_toArray, List.set_cons_zero, List.set_cons_succ])
  refine wpList_plain rfl (fun K hK => ?_)
  go_simp
  (try dsimp only); refine hK _ _ ?_; clear hK K; (try simp only [Act.put, List.setIfInBounds_toArray, List.set_cons_zero, List.set_cons_succ])
  refine wpList_step (fun K hK => ?_)
  rw [if_pos (by rfl)]
  go_simp
  (try dsimp only); refine hK _ _ ?_; clear hK K; (try simp only [Act.put, List.setIfInBounds_toArray, List.set_cons_zero, List.set_cons_succ])
  refine wpList_step (fun K hK => ?_)
  rw [if_pos (by rfl)]
  go_simp; (try simp (disch := omega) only [IntWalk.i64_in, IntWalk.wrap64_in]); (try simp only [h0, h1, h2, h3, h4])
  (try dsimp only); refine hK _ _ ?_; clear hK K; (try simp only [Act.put, List.setIfInBounds_toArray, List.set_cons_zero, List.set_cons_succ])
  refine wpList_plain rfl (fun K hK => ?_)
  go_simp
  (try dsimp only); refine hK _ _ ?_; clear hK K; (try simp only [Act.put, List.setIfInBounds_toArray, List.set_cons_zero, List.set_cons_succ])
  refine wpList_plain rfl (fun K hK => ?_)
  go_simp
  (try dsimp only); refine hK _ _ ?_; clear hK K; (try simp only [Act.put, List.setIfInBounds_toArray, List.set_cons_zero, List.set_cons_succ])
  refine wpList_step (fun K hK => ?_)
  rw [if_pos (by rfl)]
  go_simp
  (try dsimp only); refine hK _ _ ?_; clear hK K; (try simp only [Act.put, List.setIfInBounds_toArray, List.set_cons_zero, List.set_cons_succ])
  refine wpList_step (fun K hK => ?_)
  rw [if_pos (by rfl)]
  go_simp; (try simp (disch := omega) only [IntWalk.i64_in, IntWalk.wrap64_in]); (try simp only [h0, h1, h2, h3, h4])
  (try dsimp only); refine hK _ _ ?_; clear hK K; (try simp only [Act.put, List.setIfInBounds_toArray, List.set_cons_zero, List.set_cons_succ])
  refine wpList_plain rfl (fun K hK => ?_)
  go_simp
  (try dsimp only); refine hK _ _ ?_; clear hK K; (try simp only [Act.put, List.setIfInBounds_toArray, List.set_cons_zero, List.set_cons_succ])
  refine wpList_plain rfl (fun K hK => ?_)
  go_simp
  (try dsimp only); refine hK _ _ ?_; clear hK K; (try simp only [Act.put, List.setIfInBounds_toArray, List.set_cons_zero, List.set_cons_succ])
  refine wpList_step (fun K hK => ?_)
  rw [if_pos (by rfl)]
  go_simp
  (try dsimp only); refine hK _ _ ?_; clear hK K; (try simp only [Act.put, List.setIfInBounds_toArray, List.set_cons_zero, List.set_cons_succ])
  refine wpList_step (fun K hK => ?_)
  rw [if_pos (by rfl)]
  go_simp
  (try dsimp only); refine hK _ _ ?_; clear hK K; (try simp only [Act.put, List.setIfInBounds_toArray, List.set_cons_zero, List.set_cons_succ])
  refine wpList_step (fun K hK => ?_)
  rw [if_pos (by rfl)]
  go_simp
  (try dsimp only); refine hK _ _ ?_; clear hK K; (try simp only [Act.put, List.setIfInBounds_toArray, List.set_cons_zero, List.set_cons_succ])
  refine wpList_step (fun K hK => ?_)
  rw [if_pos (by rfl)]
  go_simp; (try simp (disch := omega) only [IntWalk.i64_in, IntWalk.wrap64_in]); (try simp only [h0, h1, h2, h3, h4])
  (try dsimp only); refine hK _ _ ?_; clear hK K; (try simp only [Act.put, List.setIfInBounds_toArray, List.set_cons_zero, List.set_cons_succ])
  refine wpList_step (fun K hK => ?_)
  rw [if_pos (by rfl)]
  go_simp; (try simp (disch := omega) only [IntWalk.i64_in, IntWalk.wrap64_in]); (try simp only [h0, h1, h2, h3, h4])
  (try dsimp only); refine hK _ _ ?_; clear hK K; (try simp only [Act.put, List.setIfInBounds_toArray, List.set_cons_zero, List.set_cons_succ])
  refine wpList_plain rfl (fun K hK => ?_)
  go_simp
  (try dsimp only); refine hK _ _ ?_; clear hK K; (try simp only [Act.put, List.setIfInBounds_toArray, List.set_cons_zero, List.set_cons_succ])
  refine wpList_nil ?_
  clear h0 h1 h2 h3 h4
  go_upto_region 10 with fail
  refine wp_region_lit ?_
  refine wpList_plain rfl (fun K hK => ?_)
  go_simp
  (try dsimp only); refine hK _ _ ?_; clear hK K; (try simp only [Act.put, List.setIfInBounds_toArray, List.set_cons_zero, List.set_cons_succ])
  refine wpList_plain rfl (fun K hK => ?_)
  go_simp
  (try dsimp only); refine hK _ _ ?_; clear hK K; (try simp only [Act.put, List.setIfInBounds_toArray, List.set_cons_zero, List.set_cons_succ])
  refine wpList_nil ?_
  go_upto_region 11 with fail
  replace hg : Hid _ := hg
  go_loopw [12] (fun v12 wr => ∃ s : Int, v12 = .int .i64 s ∧ lo ≤ s ∧ s ≤ hi - n + 1 ∧ (∀ q, lo ≤ q → q < s → freeL p.flat q n = false) ∧ Ext W7 wr) (fun v12 _ => (hi - n + 1 - intOf v12).toNat)
  case atStart => exact ⟨lo, rfl, by omega, by omega, fun q q1 q2 => by omega, Ext.refl _⟩
  case round =>
    obtain ⟨s, rfl, hs1, hs2, hno, hX⟩ := hrel
    obtain ⟨Wj, rfl⟩ : ∃ W, W = wr := ⟨_, rfl⟩
    replace hno : Hid _ := hno
    have hx := hX
    replace b0 := b0.ext hx
    replace b1 := b1.ext hx
    replace hown := hown.ext hx
    replace tv := isT.ext hx tv
    replace hm := Nat.le_trans hm hx.below.size
    replace hE := hE.trans hx
    clear hx
    replace qz : r1 < Wj.heap.size := b1.lt
    by_cases hle : s ≤ hi - n
    · have hc1 : decide (s ≤ hi - n) = true := decide_eq_true hle
      go_upto_region 11 with fail
      refine wp_region_lit ?_
      refine wpList_plain rfl (fun K hK => ?_)
      go_simp
      (try dsimp only); refine hK _ _ ?_; clear hK K; (try simp only [Act.put, List.setIfInBounds_toArray, List.set_cons_zero, List.set_cons_succ])
      refine wpList_plain rfl (fun K hK => ?_)
      go_simp
      (try dsimp only); refine hK _ _ ?_; clear hK K; (try simp only [Act.put, List.setIfInBounds_toArray, List.set_cons_zero, List.set_cons_succ])
      refine wpList_plain rfl (fun K hK => ?_)
      go_simp
      (try dsimp only); refine hK _ _ ?_; clear hK K; (try simp only [Act.put, List.setIfInBounds_toArray, List.set_cons_zero, List.set_cons_succ])
      refine wpList_plain rfl (fun K hK => ?_)
      go_simp; (try simp (disch := omega) only [IntWalk.i64_in, IntWalk.wrap64_in]); (try simp only [hc1])
      (try dsimp only); refine hK _ _ ?_; clear hK K; (try simp only [Act.put, List.setIfInBounds_toArray, List.set_cons_zero, List.set_cons_succ])
      refine wpList_plain rfl (fun K hK => ?_)
      go_simp; (try simp (disch := omega) only [IntWalk.i64_in, IntWalk.wrap64_in]); (try simp only [hc1])
      (try dsimp only); refine hK _ _ ?_; clear hK K; (try simp only [Act.put, List.setIfInBounds_toArray, List.set_cons_zero, List.set_cons_succ])
      refine wpList_nil ?_
      go_upto_region 13 with fail
      refine wp_region_lit ?_
      refine wpList_plain rfl (fun K hK => ?_)
      go_simp
      (try dsimp only); refine hK _ _ ?_; clear hK K; (try simp only [Act.put, List.setIfInBounds_toArray, List.set_cons_zero, List.set_cons_succ])
      refine wpList_nil ?_
      go_upto_region 15 with fail
      go_loopw [13, 77] (fun v13 vi wr => ∃ (k : Nat) (fb : Bool), vi = .int .i64 k ∧ v13 = .bool fb ∧ freeL (p.flat.take k) s n = fb ∧ k ≤ p.flat.length ∧ Ext Wj wr) (fun _ vi _ => p.flat.length - (intOf vi).toNat)
      case atStart => exact ⟨0, true, rfl, rfl, rfl, by omega, Ext.refl _⟩
      case round =>
        obtain ⟨k, fb, rfl, rfl, hfb, hk, hY⟩ := hrel
        replace hfb : Hid _ := hfb
        obtain ⟨Wk, rfl⟩ : ∃ W, W = wr := ⟨_, rfl⟩
        have hx := hY
        replace b0 := b0.ext hx
        replace b1 := b1.ext hx
        replace hown := hown.ext hx
        replace tv := isT.ext hx tv
        replace hm := Nat.le_trans hm hx.below.size
        replace hX := hX.trans hx
        replace hE := hE.trans hx
        clear hx
        replace qz : r1 < Wk.heap.size := b1.lt
        by_cases hlt : k < p.flat.length
        · obtain ⟨gw, ow, rfl, hd1, hd2, hgw, hrw⟩ := sl_at hown.isSl hlt
          have hgw2 : gw < m := hgm _ rfl
          have hvx := hp.o.v _ (List.getElem_mem hlt)
          have hfn := freeL_next hlt s n
          rw [hfb.out] at hfn
          obtain ⟨x, hx⟩ : ∃ x, x = p.flat[k] := ⟨_, rfl⟩
          rw [← hx] at hrw hvx hfn
          clear hx
          obtain ⟨x1, x2, x3, x4⟩ := hvx
          replace hfn : Hid _ := hfn
          have hszk : Wj.heap.size ≤ Wk.heap.size := hY.below.size
          have hWk : Ext Wk Wk := Ext.refl _
          have hmW : m ≤ Wk.heap.size := hm
          go_upto_region 16 with fail
          refine wp_region_lit ?_
          refine wpList_plain rfl (fun K hK => ?_)
          go_simp
          (try dsimp only); refine hK _ _ ?_; clear hK K; (try simp only [Act.put, List.setIfInBounds_toArray, List.set_cons_zero, List.set_cons_succ])
          refine wpList_plain rfl (fun K hK => ?_)
          (first | (refine wp_ld 25 _ (hrw) (by rfl) (by rfl) Try.underlying25 rfl (by exact Try.infoR) ?_))
          (try dsimp only); refine hK _ _ ?_; clear hK K; (try simp only [Act.put, List.setIfInBounds_toArray, List.set_cons_zero, List.set_cons_succ])
          refine wpList_plain rfl (fun K hK => ?_)
          have qb : Wk.heap.size ≤ Wk.heap.size := hWk.below.size
          go_simp
          (try dsimp only); refine hK _ _ ?_; clear hK K; (try simp only [Act.put, List.setIfInBounds_toArray, List.set_cons_zero, List.set_cons_succ])
          refine name_wl (fun W701 hW => ?_)
          have hx : Ext Wk W701 := by rw [hW]; exact ext_alloc _ _
          have b2 : Blk W701 Wk.heap.size 25 RV.z.cs := by rw [hW]; exact Blk.newAt rfl
          clear hW
          replace b0 := b0.ext hx
          replace b1 := b1.ext hx
          replace hown := hown.ext hx
          replace tv := isT.ext hx tv
          replace hm := Nat.le_trans hm hx.below.size
          replace hrw := rangeAt.ext hrw hgw hx
          replace hgw := Nat.lt_of_lt_of_le hgw hx.below.size
          replace hY := hY.trans hx
          replace hWk := hWk.trans hx
          replace hE := hE.trans hx
          clear hx
          obtain ⟨r2, hr⟩ : ∃ r, r = Wk.heap.size := ⟨_, rfl⟩
          rw [← hr] at b2
          try rw [← hr]
          have q2 : r1 < r2 := by omega
          have qb2 : Wk.heap.size ≤ r2 := by omega
          clear hr
          replace qz : r2 < W701.heap.size := b2.lt
          refine wpList_plain rfl (fun K hK => ?_)
          refine wp_store_box 25 _ _ (by rfl) b2 (by rfl) (by rfl) (by exact Try.infoR) (by first | exact RV.one _ | exact TV.one _ rfl | exact RV.one _ | exact TV.one _ (isT.one tv)) (by rfl) (fun W702 hg bn => ?_)
          replace b0 := b0.kept hg (by simp only [ne_eq, Option.some.injEq]; omega)
          replace b1 := b1.kept hg (by simp only [ne_eq, Option.some.injEq]; omega)
          replace hown := hown.kept hg (.inr (fun e => absurd (hgm _ e) (by omega)))
          replace tv := isT.kept hg (Lw.not (by omega)) tv
          replace hm := Nat.le_trans hm hg.size
          replace hrw := rangeAt.kept hrw hgw hg (by simp only [ne_eq, Option.some.injEq]; omega)
          replace hgw := Nat.lt_of_lt_of_le hgw hg.size
          replace hY := ext_grow hY hg (fun q hq => by cases hq; omega)
          replace hWk := ext_grow hWk hg (fun q hq => by cases hq; omega)
          replace hE := ext_grow hE hg (fun q hq => by cases hq; omega)
          clear b2 hg
          have b2 := bn
          clear bn
          (try dsimp only); refine hK _ _ ?_; clear hK K; (try simp only [Act.put, List.setIfInBounds_toArray, List.set_cons_zero, List.set_cons_succ])
          replace qz : r2 < W702.heap.size := b2.lt
          refine wpList_nil ?_
          have c0 : W702.cell? ⟨r2, 0, none⟩ = some (.int .i64 x.s) := b2.cell 0
          have c1 : W702.cell? ⟨r2, 1, none⟩ = some (.int .i64 x.p) := b2.cell 1
          have z2 : LtD r2 W702.heap.size := b2.lt
          go_upto_region 18 with (first | ((with_reducible (apply wp_cond_split)); rfl; (all_goals intro hcd); (all_goals (first | (exfalso; exact Bool.noConfusion hcd) | ((try simp only [hcd]); go_prune)))) | ((fail_if_success go_not_at_region 17); ((with_reducible refine wp_region_same ?_); (first | go_big_quiet_step (fail) | quiet_step (fail)); (first | go_big_quiet_step (fail) | quiet_step (fail)); (first | go_big_quiet_step (fail) | (refine wpQuiet_liftE (wanted_T rfl rfl rfl) ?_; refine lift_fieldAddr rfl rfl ?_; apply Exists.intro; refine ⟨fun hgd => ?_, ?_⟩; (focus ((try simp only [Bool.and_eq_true, Bool.not_eq_true', Bool.or_eq_true, Bool.or_eq_false_iff, Bool.and_eq_false_iff, Bool.not_eq_eq_eq_not, Bool.not_true, Bool.not_false, decide_eq_true_eq, decide_eq_false_iff_not, bne_iff_ne, beq_iff_eq, beq_eq_false_iff_ne, bne_eq_false_iff_eq, ne_eq, int_eq_le, Int.not_lt, Int.not_le] at hgd); (try simp only [Act.put, List.setIfInBounds_toArray, List.set_cons_zero, List.set_cons_succ]); go_simp; (try simp (disch := omega) only [IntWalk.i64_in, IntWalk.wrap64_in]); (first | done | exact rfl | (intro _; exact rfl)))); simp only [Act.put, List.setIfInBounds_toArray, List.set_cons_zero, List.set_cons_succ])); (first | go_big_quiet_step (fail) | (refine wpQuiet_liftE (wanted_T rfl rfl rfl) ?_; refine lift_put (n := 83) rfl (fun h => h) ?_; refine lift_load rfl rfl ?_; apply Exists.intro; refine ⟨fun hgd => ?_, ?_⟩; (focus ((try simp only [Bool.and_eq_true, Bool.not_eq_true', Bool.or_eq_true, Bool.or_eq_false_iff, Bool.and_eq_false_iff, Bool.not_eq_eq_eq_not, Bool.not_true, Bool.not_false, decide_eq_true_eq, decide_eq_false_iff_not, bne_iff_ne, beq_iff_eq, beq_eq_false_iff_ne, bne_eq_false_iff_eq, ne_eq, int_eq_le, Int.not_lt, Int.not_le] at hgd); (try simp only [Act.put, List.setIfInBounds_toArray, List.set_cons_zero, List.set_cons_succ]); go_simp; (try simp (disch := omega) only [IntWalk.i64_in, IntWalk.wrap64_in]); (first | done | exact rfl | (intro _; exact rfl)))); simp only [Act.put, List.setIfInBounds_toArray, List.set_cons_zero, List.set_cons_succ])); (first | go_big_quiet_step (fail) | (refine wpQuiet_liftE (wanted_T rfl rfl rfl) ?_; refine lift_fieldAddr rfl rfl ?_; apply Exists.intro; refine ⟨fun hgd => ?_, ?_⟩; (focus ((try simp only [Bool.and_eq_true, Bool.not_eq_true', Bool.or_eq_true, Bool.or_eq_false_iff, Bool.and_eq_false_iff, Bool.not_eq_eq_eq_not, Bool.not_true, Bool.not_false, decide_eq_true_eq, decide_eq_false_iff_not, bne_iff_ne, beq_iff_eq, beq_eq_false_iff_ne, bne_eq_false_iff_eq, ne_eq, int_eq_le, Int.not_lt, Int.not_le] at hgd); (try simp only [Act.put, List.setIfInBounds_toArray, List.set_cons_zero, List.set_cons_succ]); go_simp; (try simp (disch := omega) only [IntWalk.i64_in, IntWalk.wrap64_in]); (first | done | exact rfl | (intro _; exact rfl)))); simp only [Act.put, List.setIfInBounds_toArray, List.set_cons_zero, List.set_cons_succ])); (first | go_big_quiet_step (fail) | (refine wpQuiet_liftE (wanted_T rfl rfl rfl) ?_; refine lift_put (n := 85) rfl (fun h => h) ?_; refine lift_load rfl rfl ?_; apply Exists.intro; refine ⟨fun hgd => ?_, ?_⟩; (focus ((try simp only [Bool.and_eq_true, Bool.not_eq_true', Bool.or_eq_true, Bool.or_eq_false_iff, Bool.and_eq_false_iff, Bool.not_eq_eq_eq_not, Bool.not_true, Bool.not_false, decide_eq_true_eq, decide_eq_false_iff_not, bne_iff_ne, beq_iff_eq, beq_eq_false_iff_ne, bne_eq_false_iff_eq, ne_eq, int_eq_le, Int.not_lt, Int.not_le] at hgd); (try simp only [Act.put, List.setIfInBounds_toArray, List.set_cons_zero, List.set_cons_succ]); go_simp; (try simp (disch := omega) only [IntWalk.i64_in, IntWalk.wrap64_in]); (first | done | exact rfl | (intro _; exact rfl)))); simp only [Act.put, List.setIfInBounds_toArray, List.set_cons_zero, List.set_cons_succ])); (first | go_big_quiet_step (fail) | (refine wpQuiet_liftE (wanted_T rfl rfl rfl) ?_; refine lift_put (n := 84) rfl (fun h => h) ?_; refine lift_put (n := 86) rfl (fun h => h) ?_; refine lift_binOp_tt rfl rfl rfl ?_; apply Exists.intro; refine ⟨fun hgd => ?_, ?_⟩; (focus ((try simp only [Bool.and_eq_true, Bool.not_eq_true', Bool.or_eq_true, Bool.or_eq_false_iff, Bool.and_eq_false_iff, Bool.not_eq_eq_eq_not, Bool.not_true, Bool.not_false, decide_eq_true_eq, decide_eq_false_iff_not, bne_iff_ne, beq_iff_eq, beq_eq_false_iff_ne, bne_eq_false_iff_eq, ne_eq, int_eq_le, Int.not_lt, Int.not_le] at hgd); (try simp only [Act.put, List.setIfInBounds_toArray, List.set_cons_zero, List.set_cons_succ]); go_simp; (try simp (disch := omega) only [IntWalk.i64_in, IntWalk.wrap64_in]); (first | done | exact rfl | (intro _; exact rfl)))); simp only [Act.put, List.setIfInBounds_toArray, List.set_cons_zero, List.set_cons_succ])); (first | go_big_quiet_step (fail) | (refine wpQuiet_liftE (wanted_T rfl rfl rfl) ?_; (first | refine lift_moveL rfl rfl ?_ | refine lift_move rfl rfl ?_); simp only [Act.put, List.setIfInBounds_toArray, List.set_cons_zero, List.set_cons_succ])); (first | go_big_quiet_step (fail) | (refine wpQuiet_liftE (wanted_T rfl rfl rfl) ?_; refine lift_put (n := 87) rfl (fun h => h) ?_; refine lift_put (n := 88) rfl (fun h => h) ?_; refine lift_binOp_tt rfl rfl rfl ?_; apply Exists.intro; refine ⟨fun hgd => ?_, ?_⟩; (focus ((try simp only [Bool.and_eq_true, Bool.not_eq_true', Bool.or_eq_true, Bool.or_eq_false_iff, Bool.and_eq_false_iff, Bool.not_eq_eq_eq_not, Bool.not_true, Bool.not_false, decide_eq_true_eq, decide_eq_false_iff_not, bne_iff_ne, beq_iff_eq, beq_eq_false_iff_ne, bne_eq_false_iff_eq, ne_eq, int_eq_le, Int.not_lt, Int.not_le] at hgd); (try simp only [Act.put, List.setIfInBounds_toArray, List.set_cons_zero, List.set_cons_succ]); go_simp; (try simp (disch := omega) only [IntWalk.i64_in, IntWalk.wrap64_in]); (first | done | exact rfl | (intro _; exact rfl)))); simp only [Act.put, List.setIfInBounds_toArray, List.set_cons_zero, List.set_cons_succ])); (first | go_big_quiet_step (fail) | (refine wpQuiet_liftE (wanted_T rfl rfl rfl) ?_; refine lift_put (n := 89) rfl (fun h => h) ?_; (first | refine lift_moveL rfl rfl ?_ | refine lift_move rfl rfl ?_); simp only [Act.put, List.setIfInBounds_toArray, List.set_cons_zero, List.set_cons_succ])); (first | go_big_quiet_step (fail) | (refine wpQuiet_liftE (wanted_F2 rfl rfl rfl) ?_; refine lift_fieldAddr rfl rfl ?_; apply Exists.intro; refine ⟨fun hgd => ?_, ?_⟩; (focus ((try simp only [Bool.and_eq_true, Bool.not_eq_true', Bool.or_eq_true, Bool.or_eq_false_iff, Bool.and_eq_false_iff, Bool.not_eq_eq_eq_not, Bool.not_true, Bool.not_false, decide_eq_true_eq, decide_eq_false_iff_not, bne_iff_ne, beq_iff_eq, beq_eq_false_iff_ne, bne_eq_false_iff_eq, ne_eq, int_eq_le, Int.not_lt, Int.not_le] at hgd); (try simp only [Act.put, List.setIfInBounds_toArray, List.set_cons_zero, List.set_cons_succ]); go_simp; (try simp (disch := omega) only [IntWalk.i64_in, IntWalk.wrap64_in]); (first | done | exact rfl | (intro _; exact rfl)))); simp only [Act.put, List.setIfInBounds_toArray, List.set_cons_zero, List.set_cons_succ]) | (refine wpQuiet_liftE (wanted_F rfl rfl rfl) ?_; refine lift_fieldAddr rfl rfl ?_; apply Exists.intro; refine ⟨fun hgd => ?_, ?_⟩; (focus ((try simp only [Bool.and_eq_true, Bool.not_eq_true', Bool.or_eq_true, Bool.or_eq_false_iff, Bool.and_eq_false_iff, Bool.not_eq_eq_eq_not, Bool.not_true, Bool.not_false, decide_eq_true_eq, decide_eq_false_iff_not, bne_iff_ne, beq_iff_eq, beq_eq_false_iff_ne, bne_eq_false_iff_eq, ne_eq, int_eq_le, Int.not_lt, Int.not_le] at hgd); (try simp only [Act.put, List.setIfInBounds_toArray, List.set_cons_zero, List.set_cons_succ]); go_simp; (try simp (disch := omega) only [IntWalk.i64_in, IntWalk.wrap64_in]); (first | done | exact rfl | (intro _; exact rfl)))); simp only [Act.put, List.setIfInBounds_toArray, List.set_cons_zero, List.set_cons_succ])); (first | go_big_quiet_step (fail) | (refine wpQuiet_liftE (wanted_F2 rfl rfl rfl) ?_; refine lift_put (n := 91) rfl (fun h => h) ?_; refine lift_load rfl rfl ?_; apply Exists.intro; refine ⟨fun hgd => ?_, ?_⟩; (focus ((try simp only [Bool.and_eq_true, Bool.not_eq_true', Bool.or_eq_true, Bool.or_eq_false_iff, Bool.and_eq_false_iff, Bool.not_eq_eq_eq_not, Bool.not_true, Bool.not_false, decide_eq_true_eq, decide_eq_false_iff_not, bne_iff_ne, beq_iff_eq, beq_eq_false_iff_ne, bne_eq_false_iff_eq, ne_eq, int_eq_le, Int.not_lt, Int.not_le] at hgd); (try simp only [Act.put, List.setIfInBounds_toArray, List.set_cons_zero, List.set_cons_succ]); go_simp; (try simp (disch := omega) only [IntWalk.i64_in, IntWalk.wrap64_in]); (first | done | exact rfl | (intro _; exact rfl)))); simp only [Act.put, List.setIfInBounds_toArray, List.set_cons_zero, List.set_cons_succ]) | (refine wpQuiet_liftE (wanted_F rfl rfl rfl) ?_; refine lift_put (n := 91) rfl (fun h => h) ?_; refine lift_load rfl rfl ?_; apply Exists.intro; refine ⟨fun hgd => ?_, ?_⟩; (focus ((try simp only [Bool.and_eq_true, Bool.not_eq_true', Bool.or_eq_true, Bool.or_eq_false_iff, Bool.and_eq_false_iff, Bool.not_eq_eq_eq_not, Bool.not_true, Bool.not_false, decide_eq_true_eq, decide_eq_false_iff_not, bne_iff_ne, beq_iff_eq, beq_eq_false_iff_ne, bne_eq_false_iff_eq, ne_eq, int_eq_le, Int.not_lt, Int.not_le] at hgd); (try simp only [Act.put, List.setIfInBounds_toArray, List.set_cons_zero, List.set_cons_succ]); go_simp; (try simp (disch := omega) only [IntWalk.i64_in, IntWalk.wrap64_in]); (first | done | exact rfl | (intro _; exact rfl)))); simp only [Act.put, List.setIfInBounds_toArray, List.set_cons_zero, List.set_cons_succ])); (first | go_big_quiet_step (fail) | (refine wpQuiet_liftE (wanted_F2 rfl rfl rfl) ?_; (first | refine lift_moveL rfl rfl ?_ | refine lift_move rfl rfl ?_); simp only [Act.put, List.setIfInBounds_toArray, List.set_cons_zero, List.set_cons_succ]) | (refine wpQuiet_liftE (wanted_F rfl rfl rfl) ?_; (first | refine lift_moveL rfl rfl ?_ | refine lift_move rfl rfl ?_); simp only [Act.put, List.setIfInBounds_toArray, List.set_cons_zero, List.set_cons_succ])); (first | go_big_quiet_step (fail) | (refine wpQuiet_liftE (wanted_F2 rfl rfl rfl) ?_; (first | refine lift_moveL rfl rfl ?_ | refine lift_move rfl rfl ?_); simp only [Act.put, List.setIfInBounds_toArray, List.set_cons_zero, List.set_cons_succ]) | (refine wpQuiet_liftE (wanted_F rfl rfl rfl) ?_; (first | refine lift_moveL rfl rfl ?_ | refine lift_move rfl rfl ?_); simp only [Act.put, List.setIfInBounds_toArray, List.set_cons_zero, List.set_cons_succ])); (first | go_big_quiet_step (fail) | (refine wpQuiet_liftE (wanted_F2 rfl rfl rfl) ?_; refine lift_put (n := 93) rfl (fun h => h) ?_; refine lift_put (n := 94) rfl (fun h => h) ?_; refine lift_binOp_tt rfl rfl rfl ?_; apply Exists.intro; refine ⟨fun hgd => ?_, ?_⟩; (focus ((try simp only [Bool.and_eq_true, Bool.not_eq_true', Bool.or_eq_true, Bool.or_eq_false_iff, Bool.and_eq_false_iff, Bool.not_eq_eq_eq_not, Bool.not_true, Bool.not_false, decide_eq_true_eq, decide_eq_false_iff_not, bne_iff_ne, beq_iff_eq, beq_eq_false_iff_ne, bne_eq_false_iff_eq, ne_eq, int_eq_le, Int.not_lt, Int.not_le] at hgd); (try simp only [Act.put, List.setIfInBounds_toArray, List.set_cons_zero, List.set_cons_succ]); go_simp; (try simp (disch := omega) only [IntWalk.i64_in, IntWalk.wrap64_in]); (first | done | exact rfl | (intro _; exact rfl)))); simp only [Act.put, List.setIfInBounds_toArray, List.set_cons_zero, List.set_cons_succ]) | (refine wpQuiet_liftE (wanted_F rfl rfl rfl) ?_; refine lift_put (n := 93) rfl (fun h => h) ?_; refine lift_put (n := 94) rfl (fun h => h) ?_; refine lift_binOp_tt rfl rfl rfl ?_; apply Exists.intro; refine ⟨fun hgd => ?_, ?_⟩; (focus ((try simp only [Bool.and_eq_true, Bool.not_eq_true', Bool.or_eq_true, Bool.or_eq_false_iff, Bool.and_eq_false_iff, Bool.not_eq_eq_eq_not, Bool.not_true, Bool.not_false, decide_eq_true_eq, decide_eq_false_iff_not, bne_iff_ne, beq_iff_eq, beq_eq_false_iff_ne, bne_eq_false_iff_eq, ne_eq, int_eq_le, Int.not_lt, Int.not_le] at hgd); (try simp only [Act.put, List.setIfInBounds_toArray, List.set_cons_zero, List.set_cons_succ]); go_simp; (try simp (disch := omega) only [IntWalk.i64_in, IntWalk.wrap64_in]); (first | done | exact rfl | (intro _; exact rfl)))); simp only [Act.put, List.setIfInBounds_toArray, List.set_cons_zero, List.set_cons_succ])); (first | go_big_quiet_step (fail) | (refine wpQuiet_liftE (wanted_F2 rfl rfl rfl) ?_; refine lift_put (n := 92) rfl (fun h => h) ?_; refine lift_put (n := 95) rfl (fun h => h) ?_; refine lift_binOp_tt rfl rfl rfl ?_; apply Exists.intro; refine ⟨fun hgd => ?_, ?_⟩; (focus ((try simp only [Bool.and_eq_true, Bool.not_eq_true', Bool.or_eq_true, Bool.or_eq_false_iff, Bool.and_eq_false_iff, Bool.not_eq_eq_eq_not, Bool.not_true, Bool.not_false, decide_eq_true_eq, decide_eq_false_iff_not, bne_iff_ne, beq_iff_eq, beq_eq_false_iff_ne, bne_eq_false_iff_eq, ne_eq, int_eq_le, Int.not_lt, Int.not_le] at hgd); (try simp only [Act.put, List.setIfInBounds_toArray, List.set_cons_zero, List.set_cons_succ]); go_simp; (try simp (disch := omega) only [IntWalk.i64_in, IntWalk.wrap64_in]); (first | done | exact rfl | (intro _; exact rfl)))); simp only [Act.put, List.setIfInBounds_toArray, List.set_cons_zero, List.set_cons_succ]) | (refine wpQuiet_liftE (wanted_F rfl rfl rfl) ?_; refine lift_put (n := 92) rfl (fun h => h) ?_; refine lift_put (n := 95) rfl (fun h => h) ?_; refine lift_binOp_tt rfl rfl rfl ?_; apply Exists.intro; refine ⟨fun hgd => ?_, ?_⟩; (focus ((try simp only [Bool.and_eq_true, Bool.not_eq_true', Bool.or_eq_true, Bool.or_eq_false_iff, Bool.and_eq_false_iff, Bool.not_eq_eq_eq_not, Bool.not_true, Bool.not_false, decide_eq_true_eq, decide_eq_false_iff_not, bne_iff_ne, beq_iff_eq, beq_eq_false_iff_ne, bne_eq_false_iff_eq, ne_eq, int_eq_le, Int.not_lt, Int.not_le] at hgd); (try simp only [Act.put, List.setIfInBounds_toArray, List.set_cons_zero, List.set_cons_succ]); go_simp; (try simp (disch := omega) only [IntWalk.i64_in, IntWalk.wrap64_in]); (first | done | exact rfl | (intro _; exact rfl)))); simp only [Act.put, List.setIfInBounds_toArray, List.set_cons_zero, List.set_cons_succ])); (first | go_big_quiet_step (fail) | (refine wpQuiet_gpick_or (wanted_T rfl rfl rfl) rfl rfl rfl ?_; simp only [Act.put, List.setIfInBounds_toArray, List.set_cons_zero, List.set_cons_succ])); (first | (refine wpQuiet_pick_and rfl rfl rfl rfl ?_; simp only [Act.put, List.setIfInBounds_toArray, List.set_cons_zero, List.set_cons_succ]) | go_big_quiet_step (fail)); (first | go_big_quiet_step (fail) | quiet_step (fail)); (with_reducible refine wpQuiet_nil ?_); intro wq hwq; subst hwq)))
          clear c0 c1 z2
          go_upto_region 18 with fail
          refine wp_region_lit ?_
          refine wpList_plain rfl (fun K hK => ?_)
          go_simp; (try simp (disch := omega) only [IntWalk.i64_in, IntWalk.wrap64_in])
          (try dsimp only); refine hK _ _ ?_; clear hK K; (try simp only [Act.put, List.setIfInBounds_toArray, List.set_cons_zero, List.set_cons_succ])
          refine wpList_plain rfl (fun K hK => ?_)
          go_simp
          (try dsimp only); refine hK _ _ ?_; clear hK K; (try simp only [Act.put, List.setIfInBounds_toArray, List.set_cons_zero, List.set_cons_succ])
          refine wpList_nil ?_
          go_wp2_with fail
          go_roundw
          case rel => exact ⟨k + 1, _, by go_num, rfl, by rw [hfn.out]; rfl, by omega, hY⟩
          case measure => simp [intOf]; omega
        · have hfull : freeL p.flat s n = fb := by rw [← hfb.out, List.take_of_length_le (by omega)]
          replace hfull : Hid _ := hfull
          cases fb with
          | false =>
            go_upto_region 19 with fail
            refine wp_region_lit ?_
            refine wpList_plain rfl (fun K hK => ?_)
            go_simp
            (try dsimp only); refine hK _ _ ?_; clear hK K; (try simp only [Act.put, List.setIfInBounds_toArray, List.set_cons_zero, List.set_cons_succ])
            refine wpList_nil ?_
            go_upto_region 12 with fail
            refine wp_region_lit ?_
            refine wpList_plain rfl (fun K hK => ?_)
            go_simp
            (try dsimp only); refine hK _ _ ?_; clear hK K; (try simp only [Act.put, List.setIfInBounds_toArray, List.set_cons_zero, List.set_cons_succ])
            refine wpList_plain rfl (fun K hK => ?_)
            go_simp; (try simp (disch := omega) only [IntWalk.i64_in, IntWalk.wrap64_in])
            (try dsimp only); refine hK _ _ ?_; clear hK K; (try simp only [Act.put, List.setIfInBounds_toArray, List.set_cons_zero, List.set_cons_succ])
            refine wpList_plain rfl (fun K hK => ?_)
            go_simp
            (try dsimp only); refine hK _ _ ?_; clear hK K; (try simp only [Act.put, List.setIfInBounds_toArray, List.set_cons_zero, List.set_cons_succ])
            refine wpList_nil ?_
            go_wp2_with fail
            go_roundw
            case rel =>
              refine ⟨s + 1, rfl, by omega, by omega, fun q q1 q2 => ?_, hX⟩
              by_cases c : q < s
              · exact hno.out q q1 c
              · rw [show q = s by omega]; exact hfull.out
            case measure => simp [intOf]; omega
          | true =>
            have hgs : (g == s) = true := by rw [← hg.out, GapF_first hp g1 g2 g3 g4 hs1 hle hfull.out hno.out]; simp
            go_upto_region 19 with fail
            refine wp_region_lit ?_
            refine wpList_plain rfl (fun K hK => ?_)
            go_simp
            (try dsimp only); refine hK _ _ ?_; clear hK K; (try simp only [Act.put, List.setIfInBounds_toArray, List.set_cons_zero, List.set_cons_succ])
            refine wpList_nil ?_
            go_upto_region 20 with fail
            refine wp_region_lit ?_
            refine wpList_plain rfl (fun K hK => ?_)
            go_simp
            (try dsimp only); refine hK _ _ ?_; clear hK K; (try simp only [Act.put, List.setIfInBounds_toArray, List.set_cons_zero, List.set_cons_succ])
            refine wpList_plain rfl (fun K hK => ?_)
            go_simp
            (try dsimp only); refine hK _ _ ?_; clear hK K; (try simp only [Act.put, List.setIfInBounds_toArray, List.set_cons_zero, List.set_cons_succ])
            refine wpList_plain rfl (fun K hK => ?_)
            go_simp; (try simp (disch := omega) only [IntWalk.i64_in, IntWalk.wrap64_in]); (try simp only [hgs])
            (try dsimp only); refine hK _ _ ?_; clear hK K; (try simp only [Act.put, List.setIfInBounds_toArray, List.set_cons_zero, List.set_cons_succ])
            refine wpList_plain rfl (fun K hK => ?_)
            go_simp
            (try dsimp only); refine hK _ _ ?_; clear hK K; (try simp only [Act.put, List.setIfInBounds_toArray, List.set_cons_zero, List.set_cons_succ])
            refine wpList_nil ?_
            go_wp2_with fail
            go_ret
            exact ⟨rfl, hE⟩
    · have hc1 : decide (s ≤ hi - n) = false := decide_eq_false hle
      have hgv : (g == -1) = true := by rw [← hg.out, GapF_none hp g1 g2 g3 g4 (fun q q1 q2 => hno.out q q1 (by omega))]; rfl
      go_upto_region 11 with fail
      refine wp_region_lit ?_
      refine wpList_plain rfl (fun K hK => ?_)
      go_simp
      (try dsimp only); refine hK _ _ ?_; clear hK K; (try simp only [Act.put, List.setIfInBounds_toArray, List.set_cons_zero, List.set_cons_succ])
      refine wpList_plain rfl (fun K hK => ?_)
      go_simp
      (try dsimp only); refine hK _ _ ?_; clear hK K; (try simp only [Act.put, List.setIfInBounds_toArray, List.set_cons_zero, List.set_cons_succ])
      refine wpList_plain rfl (fun K hK => ?_)
      go_simp
      (try dsimp only); refine hK _ _ ?_; clear hK K; (try simp only [Act.put, List.setIfInBounds_toArray, List.set_cons_zero, List.set_cons_succ])
      refine wpList_plain rfl (fun K hK => ?_)
      go_simp; (try simp (disch := omega) only [IntWalk.i64_in, IntWalk.wrap64_in]); (try simp only [hc1])
      (try dsimp only); refine hK _ _ ?_; clear hK K; (try simp only [Act.put, List.setIfInBounds_toArray, List.set_cons_zero, List.set_cons_succ])
      refine wpList_plain rfl (fun K hK => ?_)
      go_simp; (try simp (disch := omega) only [IntWalk.i64_in, IntWalk.wrap64_in]); (try simp only [hc1])
      (try dsimp only); refine hK _ _ ?_; clear hK K; (try simp only [Act.put, List.setIfInBounds_toArray, List.set_cons_zero, List.set_cons_succ])
      refine wpList_nil ?_
      go_upto_region 21 with fail
      refine wp_region_lit ?_
      refine wpList_plain rfl (fun K hK => ?_)
      go_simp
      (try dsimp only); refine hK _ _ ?_; clear hK K; (try simp only [Act.put, List.setIfInBounds_toArray, List.set_cons_zero, List.set_cons_succ])
      refine wpList_plain rfl (fun K hK => ?_)
      go_simp; (try simp (disch := omega) only [IntWalk.i64_in, IntWalk.wrap64_in]); (try simp only [hgv])
      (try dsimp only); refine hK _ _ ?_; clear hK K; (try simp only [Act.put, List.setIfInBounds_toArray, List.set_cons_zero, List.set_cons_succ])
      refine wpList_plain rfl (fun K hK => ?_)
      go_simp
      (try dsimp only); refine hK _ _ ?_; clear hK K; (try simp only [Act.put, List.setIfInBounds_toArray, List.set_cons_zero, List.set_cons_succ])
      refine wpList_nil ?_
      go_wp2_with fail
      go_ret
      exact ⟨rfl, hE⟩

theorem law_gaps (l : List OV) (s : Value) (lo hi n : Int) (w : World) (hs : isSl w s 7 l.length (oF l)) :
    Calls Try.prog 9 #[s, .agg #[.int .i64 lo, .int .i64 hi, .int .i64 n]] w fun e w' => e = .returned (.bool true) ∧ Ext w w' := by
  by_cases hl : 24 < l.length
  · exact law_gaps_big l s lo hi n w hs hl
  · exact law_gaps_ok l s lo hi n w hs hl

end Go.Proofs.Ytnbohogkfdeddaa
