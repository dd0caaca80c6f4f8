/- Rangetree: the law RangetreeBuilds. -/
import Derived.Test.YtnbohogkfdeddaaRvd
import Derived.Test.YtnbohogkfdeddaaRvc
import Derived.Test.YtnbohogkfdeddaaRux
set_option linter.unusedSimpArgs false
set_option linter.unusedVariables false
namespace Go.Proofs.Ytnbohogkfdeddaa
open Go.RowKit

set_option maxRecDepth 100000 in
set_option maxHeartbeats 4000000 in
theorem law_builds_big (l : List RV) (s : Value) (w : World) (hs : isSl w s 6 l.length (rF l)) (hl : 60 < l.length) :
    Calls Try.prog 3 #[s] w fun e w' => e = .returned (.bool true) ∧ Ext w w' := by
  obtain ⟨ad, c, rfl⟩ := sl_shape hs
  have HS : Hid (isSl w (.slice ad l.length c) 6 l.length (rF l)) := hs
  clear hs
  have hb1 : decide ((60 : Int) < (l.length : Int)) = true := by simpa using (by omega :  (60 : Int) < (l.length : Int))
  have hb2 : decide (60 < l.length) = true := by simpa using hl
  go_enter Try.func3, Try.ntmps3
  go_upto_region 1 with fail
  refine name_wX (fun W0 hW => ?_)
  have hE : Ext w W0 := by rw [hW]; exact Ext.refl w
  clear hW
  refine wp_region_lit ?_
  refine wpList_plain rfl (fun K hK => ?_); go_simp; (go_at_call 11; refine (awake_ok _).mono ?_; intro e W1 hpp; obtain ⟨rfl, hx⟩ := hpp); (try dsimp only); refine hK _ _ ?_; clear hK K; (try simp only [Act.put, Zs, Zz, Zc])
  replace hE := hE.trans hx
  clear hx
  refine wpList_plain rfl (fun K hK => ?_); go_simp; (try simp only [hb1, hb2]); (try dsimp only); refine hK _ _ ?_; clear hK K; (try simp only [Act.put, Zs, Zz, Zc])
  refine wpList_plain rfl (fun K hK => ?_); go_simp; (try dsimp only); refine hK _ _ ?_; clear hK K; (try simp only [Act.put, Zs, Zz, Zc])
  iterate 2 (refine wpList_step (fun K hK => ?_); rw [if_pos (by rfl)]; go_simp; (try dsimp only); refine hK _ _ ?_; clear hK K; (try simp only [Act.put, Zs, Zz, Zc]))
  refine wpList_step (fun K hK => ?_); rw [if_pos (by rfl)]; go_simp; (try simp (disch := omega) only [Yq, Yr]); (try simp only [hb1, hb2]); (try dsimp only); refine hK _ _ ?_; clear hK K; (try simp only [Act.put, Zs, Zz, Zc])
  refine wpList_plain rfl (fun K hK => ?_); go_simp; (try dsimp only); refine hK _ _ ?_; clear hK K; (try simp only [Act.put, Zs, Zz, Zc])
  refine wpList_nil ?_
  go_upto_region 2 with fail
  refine wp_region_lit ?_
  refine wpList_plain rfl (fun K hK => ?_); go_simp; (go_at_call 11; refine (awake_ok _).mono ?_; intro e W2 hpp; obtain ⟨rfl, hx⟩ := hpp); (try dsimp only); refine hK _ _ ?_; clear hK K; (try simp only [Act.put, Zs, Zz, Zc])
  replace hE := hE.trans hx
  clear hx
  refine wpList_plain rfl (fun K hK => ?_); go_simp; (try dsimp only); refine hK _ _ ?_; clear hK K; (try simp only [Act.put, Zs, Zz, Zc])
  refine wpList_nil ?_
  go_wp2_with fail
  go_ret
  exact ⟨rfl, hE⟩

set_option maxRecDepth 100000 in
set_option maxHeartbeats 4000000 in
theorem law_builds_err (l : List RV) (s : Value) (w : World) (hs : isSl w s 6 l.length (rF l)) (hl : ¬ 60 < l.length) (h0 : (BuildF l).2 ≠ 0) :
    Calls Try.prog 3 #[s] w fun e w' => e = .returned (.bool true) ∧ Ext w w' := by
  obtain ⟨ad, c, rfl⟩ := sl_shape hs
  have HS : Hid (isSl w (.slice ad l.length c) 6 l.length (rF l)) := hs
  clear hs
  have hb1 : decide ((60 : Int) < (l.length : Int)) = false := by simpa using (by omega : ¬ (60 : Int) < (l.length : Int))
  have hb2 : decide (60 < l.length) = false := by simpa using hl
  have hbe : ((BuildF l).2 != (BuildF l).2) = false := by simp
  have hb0 : ((BuildF l).2 != 0) = true := by simp; exact h0
  replace h0 : Hid _ := h0
  go_enter Try.func3, Try.ntmps3
  go_upto_region 1 with fail
  refine name_wX (fun W0 hW => ?_)
  have hE : Ext w W0 := by rw [hW]; exact Ext.refl w
  clear hW
  refine wp_region_lit ?_
  refine wpList_plain rfl (fun K hK => ?_); go_simp; (go_at_call 11; refine (awake_ok _).mono ?_; intro e W1 hpp; obtain ⟨rfl, hx⟩ := hpp); (try dsimp only); refine hK _ _ ?_; clear hK K; (try simp only [Act.put, Zs, Zz, Zc])
  replace hE := hE.trans hx
  clear hx
  refine wpList_plain rfl (fun K hK => ?_); go_simp; (try simp only [hb1, hb2]); (try dsimp only); refine hK _ _ ?_; clear hK K; (try simp only [Act.put, Zs, Zz, Zc])
  refine wpList_plain rfl (fun K hK => ?_); go_simp; (try dsimp only); refine hK _ _ ?_; clear hK K; (try simp only [Act.put, Zs, Zz, Zc])
  iterate 2 (refine wpList_step (fun K hK => ?_); rw [if_pos (by rfl)]; go_simp; (try dsimp only); refine hK _ _ ?_; clear hK K; (try simp only [Act.put, Zs, Zz, Zc]))
  refine wpList_step (fun K hK => ?_); rw [if_pos (by rfl)]; go_simp; (try simp (disch := omega) only [Yq, Yr]); (try simp only [hb1, hb2]); (try dsimp only); refine hK _ _ ?_; clear hK K; (try simp only [Act.put, Zs, Zz, Zc])
  refine wpList_plain rfl (fun K hK => ?_); go_simp; (try dsimp only); refine hK _ _ ?_; clear hK K; (try simp only [Act.put, Zs, Zz, Zc])
  refine wpList_nil ?_
  go_upto_region 3 with fail
  refine wp_region_lit ?_
  refine wpList_plain rfl (fun K hK => ?_); go_simp; (try dsimp only); refine hK _ _ ?_; clear hK K; (try simp only [Act.put, Zs, Zz, Zc])
  refine wpList_plain rfl (fun K hK => ?_); go_simp; (go_at_call 12; refine (build_any (A := Ex []) l _ _ (Up.ex (by intro r hr; simp at hr <;> omega)) (HS.out.ext hE) (by omega)).mono ?_; intro e W2 hpp; obtain ⟨v1, rfl, t1, hx⟩ := hpp); (try dsimp only); refine hK _ _ ?_; clear hK K; (try simp only [Act.put, Zs, Zz, Zc])
  replace hE := hE.trans hx
  clear hx
  replace t1 := isT.lw t1
  obtain ⟨mt1, hmt10⟩ : ∃ m, m = W2.heap.size := ⟨_, rfl⟩
  have zhmt1 : w.heap.size ≤ mt1 := by rw [hmt10]; exact hE.below.size
  rw [← hmt10] at t1
  have hmt1 : mt1 ≤ W2.heap.size := by omega
  clear hmt10
  iterate 3 (refine wpList_plain rfl (fun K hK => ?_); go_simp; (try dsimp only); refine hK _ _ ?_; clear hK K; (try simp only [Act.put, Zs, Zz, Zc]))
  refine wpList_plain rfl (fun K hK => ?_); have qb : mt1 ≤ W2.heap.size := hmt1; go_simp; (try dsimp only); refine hK _ _ ?_; clear hK K; (try simp only [Act.put, Zs, Zz, Zc])
  refine name_wl (fun W3 hW => ?_)
  have hx : Ext W2 W3 := by rw [hW]; exact ext_alloc _ _
  have b0 : Blk W3 W2.heap.size 28 TV.z.cs := by rw [hW]; exact Blk.newAt rfl
  clear hW
  replace t1 := isT.ext hx t1
  replace hmt1 := Nat.le_trans hmt1 hx.below.size
  replace hE := hE.trans hx
  clear hx
  obtain ⟨r0, hr⟩ : ∃ r, r = W2.heap.size := ⟨_, rfl⟩
  rw [← hr] at b0
  try rw [← hr]
  have qb0 : mt1 ≤ r0 := by omega
  clear hr
  have qz : r0 < W3.heap.size := b0.lt
  refine wpList_plain rfl (fun K hK => ?_)
  refine wp_store_box 28 _ _ (by rfl) b0 (by rfl) (by rfl) (by exact Try.infoT) (by first | exact RV.one _ | exact TV.one _ rfl | exact RV.one _ | exact TV.one _ (isT.one t1)) (by rfl) (fun W4 hg bn => ?_)
  replace t1 := isT.kept hg (by rintro ⟨h1, h2⟩; first | omega | exact h1 (by simp)) t1
  replace hmt1 := Nat.le_trans hmt1 hg.size
  replace hE := ext_grow hE hg (fun q hq => by cases hq; omega)
  clear b0 hg
  have b0 := bn
  clear bn
  (try dsimp only); refine hK _ _ ?_; clear hK K; (try simp only [Act.put, Zs, Zz, Zc])
  replace qz : r0 < W4.heap.size := b0.lt
  refine wpList_plain rfl (fun K hK => ?_); go_simp; (try dsimp only); refine hK _ _ ?_; clear hK K; (try simp only [Act.put, Zs, Zz, Zc])
  refine wpList_nil ?_
  go_upto_region 4 with fail
  refine wp_region_lit ?_
  refine wpList_plain rfl (fun K hK => ?_); go_simp; (try dsimp only); refine hK _ _ ?_; clear hK K; (try simp only [Act.put, Zs, Zz, Zc])
  refine wpList_plain rfl (fun K hK => ?_); go_simp; (go_at_call 13; refine (rbuild_any (A := Ex [r0]) l _ _ (Up.ex (by intro r hr; simp at hr <;> omega)) (HS.out.ext hE) (by omega)).mono ?_; intro e W5 hpp; obtain ⟨v2, rfl, t2, hx⟩ := hpp); (try dsimp only); refine hK _ _ ?_; clear hK K; (try simp only [Act.put, Zs, Zz, Zc])
  replace b0 := b0.ext hx
  replace t1 := isT.ext hx t1
  replace hmt1 := Nat.le_trans hmt1 hx.below.size
  replace hE := hE.trans hx
  clear hx
  replace qz : r0 < W5.heap.size := b0.lt
  replace t2 := isT.lw t2
  obtain ⟨mt2, hmt20⟩ : ∃ m, m = W5.heap.size := ⟨_, rfl⟩
  have zhmt2 : w.heap.size ≤ mt2 := by rw [hmt20]; exact hE.below.size
  rw [← hmt20] at t2
  have hmt2 : mt2 ≤ W5.heap.size := by omega
  have qhmt2 : r0 < mt2 := by omega
  have phmt2 : mt1 ≤ mt2 := by omega
  clear hmt20
  iterate 3 (refine wpList_plain rfl (fun K hK => ?_); go_simp; (try dsimp only); refine hK _ _ ?_; clear hK K; (try simp only [Act.put, Zs, Zz, Zc]))
  refine wpList_plain rfl (fun K hK => ?_); have qb : mt2 ≤ W5.heap.size := hmt2; go_simp; (try dsimp only); refine hK _ _ ?_; clear hK K; (try simp only [Act.put, Zs, Zz, Zc])
  refine name_wl (fun W6 hW => ?_)
  have hx : Ext W5 W6 := by rw [hW]; exact ext_alloc _ _
  have b1 : Blk W6 W5.heap.size 28 TV.z.cs := by rw [hW]; exact Blk.newAt rfl
  clear hW
  replace b0 := b0.ext hx
  replace t1 := isT.ext hx t1
  replace hmt1 := Nat.le_trans hmt1 hx.below.size
  replace t2 := isT.ext hx t2
  replace hmt2 := Nat.le_trans hmt2 hx.below.size
  replace hE := hE.trans hx
  clear hx
  obtain ⟨r1, hr⟩ : ∃ r, r = W5.heap.size := ⟨_, rfl⟩
  rw [← hr] at b1
  try rw [← hr]
  have q1 : r0 < r1 := by omega
  have qb1 : mt2 ≤ r1 := by omega
  clear hr
  replace qz : r1 < W6.heap.size := b1.lt
  refine wpList_plain rfl (fun K hK => ?_)
  refine wp_store_box 28 _ _ (by rfl) b1 (by rfl) (by rfl) (by exact Try.infoT) (by first | exact RV.one _ | exact TV.one _ rfl | exact RV.one _ | exact TV.one _ (isT.one t1) | exact TV.one _ (isT.one t2)) (by rfl) (fun W7 hg bn => ?_)
  replace b0 := b0.kept hg (Zn (by omega))
  replace t1 := isT.kept hg (by rintro ⟨h1, h2⟩; first | omega | exact h1 (by simp)) t1
  replace hmt1 := Nat.le_trans hmt1 hg.size
  replace t2 := isT.kept hg (by rintro ⟨h1, h2⟩; first | omega | exact h1 (by simp)) t2
  replace hmt2 := Nat.le_trans hmt2 hg.size
  replace hE := ext_grow hE hg (fun q hq => by cases hq; omega)
  clear b1 hg
  have b1 := bn
  clear bn
  (try dsimp only); refine hK _ _ ?_; clear hK K; (try simp only [Act.put, Zs, Zz, Zc])
  replace qz : r1 < W7.heap.size := b1.lt
  refine wpList_plain rfl (fun K hK => ?_); go_simp; (try dsimp only); refine hK _ _ ?_; clear hK K; (try simp only [Act.put, Zs, Zz, Zc])
  refine wpList_nil ?_
  go_upto_region 5 with fail
  refine wp_region_lit ?_
  iterate 2 (refine wpList_plain rfl (fun K hK => ?_); go_simp; (try dsimp only); refine hK _ _ ?_; clear hK K; (try simp only [Act.put, Zs, Zz, Zc]))
  refine wpList_plain rfl (fun K hK => ?_); go_simp; (try simp (disch := omega) only [Yq, Yr]); (try simp only [hbe]); (try dsimp only); refine hK _ _ ?_; clear hK K; (try simp only [Act.put, Zs, Zz, Zc])
  refine wpList_plain rfl (fun K hK => ?_); go_simp; (try dsimp only); refine hK _ _ ?_; clear hK K; (try simp only [Act.put, Zs, Zz, Zc])
  refine wpList_step (fun K hK => ?_); rw [if_pos (by rfl)]; (first | (refine wp_ld 28 _ (b0.range) (by rfl) (by rfl) Try.underlying28 rfl (by exact Try.infoT) ?_)); (try dsimp only); refine hK _ _ ?_; clear hK K; (try simp only [Act.put, Zs, Zz, Zc])
  refine wpList_step (fun K hK => ?_); rw [if_pos (by rfl)]; (first | (refine wp_ld 28 _ (b1.range) (by rfl) (by rfl) Try.underlying28 rfl (by exact Try.infoT) ?_)); (try dsimp only); refine hK _ _ ?_; clear hK K; (try simp only [Act.put, Zs, Zz, Zc])
  refine wpList_step (fun K hK => ?_); rw [if_pos (by rfl)]; go_simp; (go_at_call 14; refine (rsame_P _ _ _ _ _ _ t1 t2).mono ?_; intro e W8 hpp; obtain ⟨rfl, hx⟩ := hpp); (try dsimp only); refine hK _ _ ?_; clear hK K; (try simp only [Act.put, Zs, Zz, Zc])
  replace b0 := b0.ext hx
  replace b1 := b1.ext hx
  replace t1 := isT.ext hx t1
  replace hmt1 := Nat.le_trans hmt1 hx.below.size
  replace t2 := isT.ext hx t2
  replace hmt2 := Nat.le_trans hmt2 hx.below.size
  replace hE := hE.trans hx
  clear hx
  replace qz : r1 < W8.heap.size := b1.lt
  refine wpList_step (fun K hK => ?_); rw [if_pos (by rfl)]; go_simp; (try simp only [hbe]); (try dsimp only); refine hK _ _ ?_; clear hK K; (try simp only [Act.put, Zs, Zz, Zc])
  refine wpList_plain rfl (fun K hK => ?_); go_simp; (try dsimp only); refine hK _ _ ?_; clear hK K; (try simp only [Act.put, Zs, Zz, Zc])
  refine wpList_nil ?_
  go_upto_region 7 with fail
  refine wp_region_lit ?_
  refine wpList_plain rfl (fun K hK => ?_); go_simp; (try dsimp only); refine hK _ _ ?_; clear hK K; (try simp only [Act.put, Zs, Zz, Zc])
  refine wpList_plain rfl (fun K hK => ?_); go_simp; (try simp (disch := omega) only [Yq, Yr]); (try simp only [hb0]); (try dsimp only); refine hK _ _ ?_; clear hK K; (try simp only [Act.put, Zs, Zz, Zc])
  refine wpList_nil ?_
  go_upto_region 8 with fail
  refine wp_region_lit ?_
  refine wpList_plain rfl (fun K hK => ?_); go_simp; (try dsimp only); refine hK _ _ ?_; clear hK K; (try simp only [Act.put, Zs, Zz, Zc])
  refine wpList_nil ?_
  go_wp2_with fail
  go_ret
  exact ⟨rfl, hE⟩

set_option maxRecDepth 100000 in
set_option maxHeartbeats 4000000 in
theorem law_builds_ok (l : List RV) (s : Value) (w : World) (hs : isSl w s 6 l.length (rF l)) (hl : ¬ 60 < l.length) (h0 : (BuildF l).2 = 0) :
    Calls Try.prog 3 #[s] w fun e w' => e = .returned (.bool true) ∧ Ext w w' := by
  obtain ⟨ad, c, rfl⟩ := sl_shape hs
  have HS : Hid (isSl w (.slice ad l.length c) 6 l.length (rF l)) := hs
  clear hs
  have hb1 : decide ((60 : Int) < (l.length : Int)) = false := by simpa using (by omega : ¬ (60 : Int) < (l.length : Int))
  have hb2 : decide (60 < l.length) = false := by simpa using hl
  have hbe : ((BuildF l).2 != (BuildF l).2) = false := by simp
  have hb0 : ((BuildF l).2 != 0) = false := by simp [h0]
  replace h0 : Hid _ := h0
  go_enter Try.func3, Try.ntmps3
  go_upto_region 1 with fail
  refine name_wX (fun W0 hW => ?_)
  have hE : Ext w W0 := by rw [hW]; exact Ext.refl w
  clear hW
  refine wp_region_lit ?_
  refine wpList_plain rfl (fun K hK => ?_); go_simp; (go_at_call 11; refine (awake_ok _).mono ?_; intro e W1 hpp; obtain ⟨rfl, hx⟩ := hpp); (try dsimp only); refine hK _ _ ?_; clear hK K; (try simp only [Act.put, Zs, Zz, Zc])
  replace hE := hE.trans hx
  clear hx
  refine wpList_plain rfl (fun K hK => ?_); go_simp; (try simp only [hb1, hb2]); (try dsimp only); refine hK _ _ ?_; clear hK K; (try simp only [Act.put, Zs, Zz, Zc])
  refine wpList_plain rfl (fun K hK => ?_); go_simp; (try dsimp only); refine hK _ _ ?_; clear hK K; (try simp only [Act.put, Zs, Zz, Zc])
  iterate 2 (refine wpList_step (fun K hK => ?_); rw [if_pos (by rfl)]; go_simp; (try dsimp only); refine hK _ _ ?_; clear hK K; (try simp only [Act.put, Zs, Zz, Zc]))
  refine wpList_step (fun K hK => ?_); rw [if_pos (by rfl)]; go_simp; (try simp (disch := omega) only [Yq, Yr]); (try simp only [hb1, hb2]); (try dsimp only); refine hK _ _ ?_; clear hK K; (try simp only [Act.put, Zs, Zz, Zc])
  refine wpList_plain rfl (fun K hK => ?_); go_simp; (try dsimp only); refine hK _ _ ?_; clear hK K; (try simp only [Act.put, Zs, Zz, Zc])
  refine wpList_nil ?_
  go_upto_region 3 with fail
  refine wp_region_lit ?_
  refine wpList_plain rfl (fun K hK => ?_); go_simp; (try dsimp only); refine hK _ _ ?_; clear hK K; (try simp only [Act.put, Zs, Zz, Zc])
  refine wpList_plain rfl (fun K hK => ?_); go_simp; (go_at_call 12; refine (build_any (A := Ex []) l _ _ (Up.ex (by intro r hr; simp at hr <;> omega)) (HS.out.ext hE) (by omega)).mono ?_; intro e W2 hpp; obtain ⟨v1, rfl, t1, hx⟩ := hpp); (try dsimp only); refine hK _ _ ?_; clear hK K; (try simp only [Act.put, Zs, Zz, Zc])
  replace hE := hE.trans hx
  clear hx
  replace t1 := isT.lw t1
  obtain ⟨mt1, hmt10⟩ : ∃ m, m = W2.heap.size := ⟨_, rfl⟩
  have zhmt1 : w.heap.size ≤ mt1 := by rw [hmt10]; exact hE.below.size
  rw [← hmt10] at t1
  have hmt1 : mt1 ≤ W2.heap.size := by omega
  clear hmt10
  iterate 3 (refine wpList_plain rfl (fun K hK => ?_); go_simp; (try dsimp only); refine hK _ _ ?_; clear hK K; (try simp only [Act.put, Zs, Zz, Zc]))
  refine wpList_plain rfl (fun K hK => ?_); have qb : mt1 ≤ W2.heap.size := hmt1; go_simp; (try dsimp only); refine hK _ _ ?_; clear hK K; (try simp only [Act.put, Zs, Zz, Zc])
  refine name_wl (fun W3 hW => ?_)
  have hx : Ext W2 W3 := by rw [hW]; exact ext_alloc _ _
  have b0 : Blk W3 W2.heap.size 28 TV.z.cs := by rw [hW]; exact Blk.newAt rfl
  clear hW
  replace t1 := isT.ext hx t1
  replace hmt1 := Nat.le_trans hmt1 hx.below.size
  replace hE := hE.trans hx
  clear hx
  obtain ⟨r0, hr⟩ : ∃ r, r = W2.heap.size := ⟨_, rfl⟩
  rw [← hr] at b0
  try rw [← hr]
  have qb0 : mt1 ≤ r0 := by omega
  clear hr
  have qz : r0 < W3.heap.size := b0.lt
  refine wpList_plain rfl (fun K hK => ?_)
  refine wp_store_box 28 _ _ (by rfl) b0 (by rfl) (by rfl) (by exact Try.infoT) (by first | exact RV.one _ | exact TV.one _ rfl | exact RV.one _ | exact TV.one _ (isT.one t1)) (by rfl) (fun W4 hg bn => ?_)
  replace t1 := isT.kept hg (by rintro ⟨h1, h2⟩; first | omega | exact h1 (by simp)) t1
  replace hmt1 := Nat.le_trans hmt1 hg.size
  replace hE := ext_grow hE hg (fun q hq => by cases hq; omega)
  clear b0 hg
  have b0 := bn
  clear bn
  (try dsimp only); refine hK _ _ ?_; clear hK K; (try simp only [Act.put, Zs, Zz, Zc])
  replace qz : r0 < W4.heap.size := b0.lt
  refine wpList_plain rfl (fun K hK => ?_); go_simp; (try dsimp only); refine hK _ _ ?_; clear hK K; (try simp only [Act.put, Zs, Zz, Zc])
  refine wpList_nil ?_
  go_upto_region 4 with fail
  refine wp_region_lit ?_
  refine wpList_plain rfl (fun K hK => ?_); go_simp; (try dsimp only); refine hK _ _ ?_; clear hK K; (try simp only [Act.put, Zs, Zz, Zc])
  refine wpList_plain rfl (fun K hK => ?_); go_simp; (go_at_call 13; refine (rbuild_any (A := Ex [r0]) l _ _ (Up.ex (by intro r hr; simp at hr <;> omega)) (HS.out.ext hE) (by omega)).mono ?_; intro e W5 hpp; obtain ⟨v2, rfl, t2, hx⟩ := hpp); (try dsimp only); refine hK _ _ ?_; clear hK K; (try simp only [Act.put, Zs, Zz, Zc])
  replace b0 := b0.ext hx
  replace t1 := isT.ext hx t1
  replace hmt1 := Nat.le_trans hmt1 hx.below.size
  replace hE := hE.trans hx
  clear hx
  replace qz : r0 < W5.heap.size := b0.lt
  replace t2 := isT.lw t2
  obtain ⟨mt2, hmt20⟩ : ∃ m, m = W5.heap.size := ⟨_, rfl⟩
  have zhmt2 : w.heap.size ≤ mt2 := by rw [hmt20]; exact hE.below.size
  rw [← hmt20] at t2
  have hmt2 : mt2 ≤ W5.heap.size := by omega
  have qhmt2 : r0 < mt2 := by omega
  have phmt2 : mt1 ≤ mt2 := by omega
  clear hmt20
  iterate 3 (refine wpList_plain rfl (fun K hK => ?_); go_simp; (try dsimp only); refine hK _ _ ?_; clear hK K; (try simp only [Act.put, Zs, Zz, Zc]))
  refine wpList_plain rfl (fun K hK => ?_); have qb : mt2 ≤ W5.heap.size := hmt2; go_simp; (try dsimp only); refine hK _ _ ?_; clear hK K; (try simp only [Act.put, Zs, Zz, Zc])
  refine name_wl (fun W6 hW => ?_)
  have hx : Ext W5 W6 := by rw [hW]; exact ext_alloc _ _
  have b1 : Blk W6 W5.heap.size 28 TV.z.cs := by rw [hW]; exact Blk.newAt rfl
  clear hW
  replace b0 := b0.ext hx
  replace t1 := isT.ext hx t1
  replace hmt1 := Nat.le_trans hmt1 hx.below.size
  replace t2 := isT.ext hx t2
  replace hmt2 := Nat.le_trans hmt2 hx.below.size
  replace hE := hE.trans hx
  clear hx
  obtain ⟨r1, hr⟩ : ∃ r, r = W5.heap.size := ⟨_, rfl⟩
  rw [← hr] at b1
  try rw [← hr]
  have q1 : r0 < r1 := by omega
  have qb1 : mt2 ≤ r1 := by omega
  clear hr
  replace qz : r1 < W6.heap.size := b1.lt
  refine wpList_plain rfl (fun K hK => ?_)
  refine wp_store_box 28 _ _ (by rfl) b1 (by rfl) (by rfl) (by exact Try.infoT) (by first | exact RV.one _ | exact TV.one _ rfl | exact RV.one _ | exact TV.one _ (isT.one t1) | exact TV.one _ (isT.one t2)) (by rfl) (fun W7 hg bn => ?_)
  replace b0 := b0.kept hg (Zn (by omega))
  replace t1 := isT.kept hg (by rintro ⟨h1, h2⟩; first | omega | exact h1 (by simp)) t1
  replace hmt1 := Nat.le_trans hmt1 hg.size
  replace t2 := isT.kept hg (by rintro ⟨h1, h2⟩; first | omega | exact h1 (by simp)) t2
  replace hmt2 := Nat.le_trans hmt2 hg.size
  replace hE := ext_grow hE hg (fun q hq => by cases hq; omega)
  clear b1 hg
  have b1 := bn
  clear bn
  (try dsimp only); refine hK _ _ ?_; clear hK K; (try simp only [Act.put, Zs, Zz, Zc])
  replace qz : r1 < W7.heap.size := b1.lt
  refine wpList_plain rfl (fun K hK => ?_); go_simp; (try dsimp only); refine hK _ _ ?_; clear hK K; (try simp only [Act.put, Zs, Zz, Zc])
  refine wpList_nil ?_
  go_upto_region 5 with fail
  refine wp_region_lit ?_
  iterate 2 (refine wpList_plain rfl (fun K hK => ?_); go_simp; (try dsimp only); refine hK _ _ ?_; clear hK K; (try simp only [Act.put, Zs, Zz, Zc]))
  refine wpList_plain rfl (fun K hK => ?_); go_simp; (try simp (disch := omega) only [Yq, Yr]); (try simp only [hbe]); (try dsimp only); refine hK _ _ ?_; clear hK K; (try simp only [Act.put, Zs, Zz, Zc])
  refine wpList_plain rfl (fun K hK => ?_); go_simp; (try dsimp only); refine hK _ _ ?_; clear hK K; (try simp only [Act.put, Zs, Zz, Zc])
  refine wpList_step (fun K hK => ?_); rw [if_pos (by rfl)]; (first | (refine wp_ld 28 _ (b0.range) (by rfl) (by rfl) Try.underlying28 rfl (by exact Try.infoT) ?_)); (try dsimp only); refine hK _ _ ?_; clear hK K; (try simp only [Act.put, Zs, Zz, Zc])
  refine wpList_step (fun K hK => ?_); rw [if_pos (by rfl)]; (first | (refine wp_ld 28 _ (b1.range) (by rfl) (by rfl) Try.underlying28 rfl (by exact Try.infoT) ?_)); (try dsimp only); refine hK _ _ ?_; clear hK K; (try simp only [Act.put, Zs, Zz, Zc])
  refine wpList_step (fun K hK => ?_); rw [if_pos (by rfl)]; go_simp; (go_at_call 14; refine (rsame_P _ _ _ _ _ _ t1 t2).mono ?_; intro e W8 hpp; obtain ⟨rfl, hx⟩ := hpp); (try dsimp only); refine hK _ _ ?_; clear hK K; (try simp only [Act.put, Zs, Zz, Zc])
  replace b0 := b0.ext hx
  replace b1 := b1.ext hx
  replace t1 := isT.ext hx t1
  replace hmt1 := Nat.le_trans hmt1 hx.below.size
  replace t2 := isT.ext hx t2
  replace hmt2 := Nat.le_trans hmt2 hx.below.size
  replace hE := hE.trans hx
  clear hx
  replace qz : r1 < W8.heap.size := b1.lt
  refine wpList_step (fun K hK => ?_); rw [if_pos (by rfl)]; go_simp; (try simp only [hbe]); (try dsimp only); refine hK _ _ ?_; clear hK K; (try simp only [Act.put, Zs, Zz, Zc])
  refine wpList_plain rfl (fun K hK => ?_); go_simp; (try dsimp only); refine hK _ _ ?_; clear hK K; (try simp only [Act.put, Zs, Zz, Zc])
  refine wpList_nil ?_
  go_upto_region 7 with fail
  refine wp_region_lit ?_
  refine wpList_plain rfl (fun K hK => ?_); go_simp; (try dsimp only); refine hK _ _ ?_; clear hK K; (try simp only [Act.put, Zs, Zz, Zc])
  refine wpList_plain rfl (fun K hK => ?_); go_simp; (try simp (disch := omega) only [Yq, Yr]); (try simp only [hb0]); (try dsimp only); refine hK _ _ ?_; clear hK K; (try simp only [Act.put, Zs, Zz, Zc])
  refine wpList_nil ?_
  go_upto_region 9 with fail
  refine wp_region_lit ?_
  refine wpList_plain rfl (fun K hK => ?_); have qb : mt2 ≤ W8.heap.size := hmt2; go_simp; (try dsimp only); refine hK _ _ ?_; clear hK K; (try simp only [Act.put, Zs, Zz, Zc])
  refine name_wl (fun W9 hW => ?_)
  have hx : Ext W8 W9 := by rw [hW]; exact ext_alloc _ _
  have b2 : Blk W9 W8.heap.size 28 TV.z.cs := by rw [hW]; exact Blk.newAt rfl
  clear hW
  replace b0 := b0.ext hx
  replace b1 := b1.ext hx
  replace t1 := isT.ext hx t1
  replace hmt1 := Nat.le_trans hmt1 hx.below.size
  replace t2 := isT.ext hx t2
  replace hmt2 := Nat.le_trans hmt2 hx.below.size
  replace hE := hE.trans hx
  clear hx
  obtain ⟨r2, hr⟩ : ∃ r, r = W8.heap.size := ⟨_, rfl⟩
  rw [← hr] at b2
  try rw [← hr]
  have q2 : r1 < r2 := by omega
  have qb2 : mt2 ≤ r2 := by omega
  clear hr
  replace qz : r2 < W9.heap.size := b2.lt
  refine wpList_nil ?_
  obtain ⟨hF, hva⟩ := BuildF_ok l h0.out
  have hz : (bldF .E 0 l).2 = 0 := by rw [← hF]; exact h0.out
  replace hF : Hid _ := hF
  replace hva : Hid _ := hva
  replace hz : Hid _ := hz
  go_upto_region 11 with fail
  go_loopw [41] (fun vi wr => ∃ (k : Nat) (p : PT) (v : TV) (last : Int), vi = .int .i64 k ∧ k ≤ l.length ∧ Blk wr r0 28 v1.cs ∧ Blk wr r1 28 v2.cs ∧ Blk wr r2 28 v.cs ∧ isT (Lw (Ex []) mt1) wr (BuildF l).1.bt v1 ∧ isT (Ex [r0, r1, r2]) wr p.bt v ∧ good p ∧ (∀ x ∈ p.flat, x.e ≤ last) ∧ bldF .E 0 l = bldF p last (l.drop k) ∧ p.flat = l.take k ∧ Ext w wr) (fun vi _ => l.length - (intOf vi).toNat)
  case atStart => exact ⟨0, .E, TV.z, 0, rfl, by omega, b0, b1, b2, t1, isT_z _ _, good_E, (fun x h => by simp [PT.flat] at h), by simp, by simp [PT.flat], hE⟩
  case round =>
    clear b0 b1 b2 t1 t2 hE qz hmt1 hmt2
    obtain ⟨k, p, v, last, rfl, hk, b0, b1, b2, t1, tv, hp, hla, hbl, hfl, hE⟩ := hrel
    obtain ⟨W0, rfl⟩ : ∃ W0, W0 = wr := ⟨_, rfl⟩
    have qz : r2 < W0.heap.size := b2.lt
    replace hbl : Hid _ := hbl
    replace hla : Hid _ := hla
    replace hfl : Hid _ := hfl
    by_cases hlt : k < l.length
    · obtain ⟨b, o, rfl, hc1, hc2, hbw0, hra⟩ := sl_at HS.out hlt
      have hbw : b < W0.heap.size := Nat.lt_of_lt_of_le hbw0 hE.below.size
      replace hra := rangeAt.ext hra hbw0 hE
      have hvx : vld l[k] := hva.out _ (List.getElem_mem hlt)
      have hd : l.drop k = l[k] :: l.drop (k + 1) := List.drop_eq_getElem_cons hlt
      have hcs : ¬ (l[k]).s < last := bldF_ok (p := p) (l := l.drop (k + 1)) (by rw [← hd, ← hbl.out]; exact hz.out)
      have hI := ins_next hp hvx hla.out hcs
      obtain ⟨hg1, hg2⟩ := ins_ord hp hvx hla.out hcs
      replace hcs : Hid _ := hcs
      replace hd : Hid _ := hd
      obtain ⟨x, hxx⟩ : ∃ x, x = l[k] := ⟨_, rfl⟩
      rw [← hxx] at hra hI hg1 hg2 hvx
      replace hxx : Hid _ := hxx
      replace hI : Hid _ := hI
      replace hg2 : Hid _ := hg2
      replace tv := isT.lw tv
      obtain ⟨mtv, hmtv0⟩ : ∃ m, m = W0.heap.size := ⟨_, rfl⟩
      have zhmtv : w.heap.size ≤ mtv := by rw [hmtv0]; exact hE.below.size
      rw [← hmtv0] at tv
      have hmtv : mtv ≤ W0.heap.size := by omega
      have qhmtv : r2 < mtv := by omega
      clear hmtv0
      go_upto_region 12 with fail
      refine wp_region_lit ?_
      refine wpList_plain rfl (fun K hK => ?_); go_simp; (try dsimp only); refine hK _ _ ?_; clear hK K; (try simp only [Act.put, Zs, Zz, Zc])
      refine wpList_plain rfl (fun K hK => ?_); (first | (refine wp_ld 25 _ (hra) (by rfl) (by rfl) Try.underlying25 rfl (by exact Try.infoR) ?_)); (try dsimp only); refine hK _ _ ?_; clear hK K; (try simp only [Act.put, Zs, Zz, Zc])
      refine wpList_plain rfl (fun K hK => ?_); have qb : mtv ≤ W0.heap.size := hmtv; go_simp; (try dsimp only); refine hK _ _ ?_; clear hK K; (try simp only [Act.put, Zs, Zz, Zc])
      refine name_wl (fun W101 hW => ?_)
      have hx : Ext W0 W101 := by rw [hW]; exact ext_alloc _ _
      have b3 : Blk W101 W0.heap.size 25 RV.z.cs := by rw [hW]; exact Blk.newAt rfl
      clear hW
      replace b0 := b0.ext hx
      replace b1 := b1.ext hx
      replace b2 := b2.ext hx
      replace t1 := isT.ext hx t1
      replace hra := rangeAt.ext hra hbw hx
      replace hbw := Nat.lt_of_lt_of_le hbw hx.below.size
      replace tv := isT.ext hx tv
      replace hmtv := Nat.le_trans hmtv hx.below.size
      replace hE := hE.trans hx
      clear hx
      obtain ⟨r3, hr⟩ : ∃ r, r = W0.heap.size := ⟨_, rfl⟩
      rw [← hr] at b3
      try rw [← hr]
      have q3 : r2 < r3 := by omega
      have qb3 : mtv ≤ r3 := by omega
      clear hr
      replace qz : r3 < W101.heap.size := b3.lt
      refine wpList_plain rfl (fun K hK => ?_)
      refine wp_store_box 25 _ _ (by rfl) b3 (by rfl) (by rfl) (by exact Try.infoR) (by first | exact RV.one _ | exact TV.one _ rfl | exact RV.one _ | exact TV.one _ (isT.one t1) | exact TV.one _ (isT.one t2) | exact RV.one _ | exact TV.one _ (isT.one tv)) (by rfl) (fun W102 hg bn => ?_)
      replace b0 := b0.kept hg (Zn (by omega))
      replace b1 := b1.kept hg (Zn (by omega))
      replace b2 := b2.kept hg (Zn (by omega))
      replace t1 := isT.kept hg (by rintro ⟨h1, h2⟩; first | omega | exact h1 (by simp)) t1
      replace hra := rangeAt.kept hra hbw hg (Zn (by omega))
      replace hbw := Nat.lt_of_lt_of_le hbw hg.size
      replace tv := isT.kept hg (by rintro ⟨h1, h2⟩; first | omega | exact h1 (by simp)) tv
      replace hmtv := Nat.le_trans hmtv hg.size
      replace hE := ext_grow hE hg (fun q hq => by cases hq; omega)
      clear b3 hg
      have b3 := bn
      clear bn
      (try dsimp only); refine hK _ _ ?_; clear hK K; (try simp only [Act.put, Zs, Zz, Zc])
      replace qz : r3 < W102.heap.size := b3.lt
      refine wpList_nil ?_
      clear hra hbw
      go_upto_region 13 with fail
      refine wp_region_lit ?_
      refine wpList_plain rfl (fun K hK => ?_); (first | (refine wp_ld 28 _ (b2.range) (by rfl) (by rfl) Try.underlying28 rfl (by exact Try.infoT) ?_)); (try dsimp only); refine hK _ _ ?_; clear hK K; (try simp only [Act.put, Zs, Zz, Zc])
      refine wpList_plain rfl (fun K hK => ?_); (first | (refine wp_ld 25 _ (b3.range) (by rfl) (by rfl) Try.underlying25 rfl (by exact Try.infoR) ?_)); (try dsimp only); refine hK _ _ ?_; clear hK K; (try simp only [Act.put, Zs, Zz, Zc])
      refine wpList_plain rfl (fun K hK => ?_); go_simp; (go_at_call 15; refine (insert_to (A := Ex [r0, r1, r2, r3]) p x v _ _ _ hI.out (Up.ex (by intro r hr; simp at hr <;> omega)) hp (isT.exm tv (by intro r hr; simp at hr <;> (try simp) <;> omega))).mono ?_; intro e W103 hpp; obtain ⟨v3, rfl, t3, hx⟩ := hpp); (try dsimp only); refine hK _ _ ?_; clear hK K; (try simp only [Act.put, Zs, Zz, Zc])
      replace b0 := b0.ext hx
      replace b1 := b1.ext hx
      replace b2 := b2.ext hx
      replace b3 := b3.ext hx
      replace t1 := isT.ext hx t1
      replace tv := isT.ext hx tv
      replace hmtv := Nat.le_trans hmtv hx.below.size
      replace hE := hE.trans hx
      clear hx
      replace qz : r3 < W103.heap.size := b3.lt
      replace t3 := isT.lw t3
      obtain ⟨mt3, hmt30⟩ : ∃ m, m = W103.heap.size := ⟨_, rfl⟩
      have zhmt3 : w.heap.size ≤ mt3 := by rw [hmt30]; exact hE.below.size
      rw [← hmt30] at t3
      have hmt3 : mt3 ≤ W103.heap.size := by omega
      have qhmt3 : r3 < mt3 := by omega
      have phmt3 : mtv ≤ mt3 := by omega
      clear hmt30
      iterate 3 (refine wpList_plain rfl (fun K hK => ?_); go_simp; (try dsimp only); refine hK _ _ ?_; clear hK K; (try simp only [Act.put, Zs, Zz, Zc]))
      refine wpList_plain rfl (fun K hK => ?_)
      refine wp_store_box 28 _ _ (by rfl) b2 (by rfl) (by rfl) (by exact Try.infoT) (by first | exact RV.one _ | exact TV.one _ rfl | exact RV.one _ | exact TV.one _ (isT.one t1) | exact TV.one _ (isT.one t2) | exact RV.one _ | exact TV.one _ (isT.one tv) | exact TV.one _ (isT.one t3)) (by rfl) (fun W104 hg bn => ?_)
      replace b0 := b0.kept hg (Zn (by omega))
      replace b1 := b1.kept hg (Zn (by omega))
      replace b3 := b3.kept hg (Zn (by omega))
      replace t1 := isT.kept hg (by rintro ⟨h1, h2⟩; first | omega | exact h1 (by simp)) t1
      replace tv := isT.kept hg (by rintro ⟨h1, h2⟩; first | omega | exact h1 (by simp)) tv
      replace hmtv := Nat.le_trans hmtv hg.size
      replace t3 := isT.kept hg (by rintro ⟨h1, h2⟩; first | omega | exact h1 (by simp)) t3
      replace hmt3 := Nat.le_trans hmt3 hg.size
      replace hE := ext_grow hE hg (fun q hq => by cases hq; omega)
      clear b2 hg
      have b2 := bn
      clear bn
      (try dsimp only); refine hK _ _ ?_; clear hK K; (try simp only [Act.put, Zs, Zz, Zc])
      replace qz : r3 < W104.heap.size := b3.lt
      refine wpList_plain rfl (fun K hK => ?_); go_simp; (try dsimp only); refine hK _ _ ?_; clear hK K; (try simp only [Act.put, Zs, Zz, Zc])
      refine wpList_nil ?_
      go_upto_region 14 with fail
      refine wp_region_lit ?_
      refine wpList_plain rfl (fun K hK => ?_); go_simp; (try dsimp only); refine hK _ _ ?_; clear hK K; (try simp only [Act.put, Zs, Zz, Zc])
      refine wpList_plain rfl (fun K hK => ?_); go_simp; (try simp (disch := omega) only [Yq, Yr]); (try dsimp only); refine hK _ _ ?_; clear hK K; (try simp only [Act.put, Zs, Zz, Zc])
      refine wpList_nil ?_
      go_upto_region 16 with fail
      refine wp_region_lit ?_
      refine wpList_plain rfl (fun K hK => ?_); go_simp; (try simp (disch := omega) only [Yq, Yr]); (try dsimp only); refine hK _ _ ?_; clear hK K; (try simp only [Act.put, Zs, Zz, Zc])
      refine wpList_plain rfl (fun K hK => ?_); go_simp; (try dsimp only); refine hK _ _ ?_; clear hK K; (try simp only [Act.put, Zs, Zz, Zc])
      refine wpList_nil ?_
      go_wp2_with fail
      go_roundw
      case rel =>
        refine ⟨k + 1, insP p x, v3, x.e, by go_num, by omega, b0, b1, b2, t1, (isT.exm t3 (by intro r hr; simp at hr <;> (try simp) <;> omega)), hg1, ?_, by rw [hbl.out, hd.out, bldF, ← hxx.out, if_neg (by rw [hxx.out]; exact hcs.out)], ?_, hE⟩
        · intro y hy
          rw [hg2.out] at hy
          rcases List.mem_append.1 hy with h | h
          · have h1 := hla.out y h
            have h2 := hvx.2.1
            have h3 : last ≤ (l[k]).s := Int.not_lt.1 hcs.out
            rw [← hxx.out] at h3
            unfold RV.e at *
            omega
          · rw [List.mem_singleton.1 h]; exact Int.le_refl _
        · rw [hg2.out, hfl.out, List.take_succ_eq_append_getElem hlt, hxx.out]
      case measure => simp [intOf]; omega
    · have hF2 : BuildF l = (p, 0) := by rw [hF.out, hbl.out, List.drop_of_length_le (by omega), bldF]
      have hfl2 : p.flat = l := by rw [hfl.out, List.take_of_length_le (by omega)]
      rw [hF2] at t1
      replace hF2 : Hid _ := hF2
      have hsl : isSl W0 (.slice ad l.length c) 6 l.length (rF l) := HS.out.ext hE
      have hlen := good_len hp
      replace tv := isT.lw tv
      go_upto_region 17 with fail
      refine wp_region_lit ?_
      refine wpList_plain rfl (fun K hK => ?_); (first | (refine wp_ld 28 _ (b0.range) (by rfl) (by rfl) Try.underlying28 rfl (by exact Try.infoT) ?_)); (try dsimp only); refine hK _ _ ?_; clear hK K; (try simp only [Act.put, Zs, Zz, Zc])
      refine wpList_plain rfl (fun K hK => ?_); (first | (refine wp_ld 28 _ (b2.range) (by rfl) (by rfl) Try.underlying28 rfl (by exact Try.infoT) ?_)); (try dsimp only); refine hK _ _ ?_; clear hK K; (try simp only [Act.put, Zs, Zz, Zc])
      refine wpList_plain rfl (fun K hK => ?_); go_simp; (go_at_call 14; refine (rsame_P _ _ _ _ _ _ t1 tv).mono ?_; intro e W801 hpp; obtain ⟨rfl, hx⟩ := hpp); (try dsimp only); refine hK _ _ ?_; clear hK K; (try simp only [Act.put, Zs, Zz, Zc])
      replace b0 := b0.ext hx
      replace b1 := b1.ext hx
      replace b2 := b2.ext hx
      replace t1 := isT.ext hx t1
      replace tv := isT.ext hx tv
      replace hsl := isSl.ext hsl hx
      replace hE := hE.trans hx
      clear hx
      replace qz : r2 < W801.heap.size := b2.lt
      refine wpList_plain rfl (fun K hK => ?_); go_simp; (try dsimp only); refine hK _ _ ?_; clear hK K; (try simp only [Act.put, Zs, Zz, Zc])
      refine wpList_step (fun K hK => ?_); rw [if_pos (by rfl)]; (first | (refine wp_ld 28 _ (b0.range) (by rfl) (by rfl) Try.underlying28 rfl (by exact Try.infoT) ?_)); (try dsimp only); refine hK _ _ ?_; clear hK K; (try simp only [Act.put, Zs, Zz, Zc])
      refine wpList_step (fun K hK => ?_); rw [if_pos (by rfl)]; go_simp; (go_at_call 17; refine (list_P p v1 _ hp t1).mono ?_; intro e W802 hpp; obtain ⟨u2, rfl, hown, hx⟩ := hpp); (try dsimp only); refine hK _ _ ?_; clear hK K; (try simp only [Act.put, Zs, Zz, Zc])
      replace b0 := b0.ext hx
      replace b1 := b1.ext hx
      replace b2 := b2.ext hx
      replace t1 := isT.ext hx t1
      replace tv := isT.ext hx tv
      replace hsl := isSl.ext hsl hx
      replace hE := hE.trans hx
      clear hx
      replace qz : r2 < W802.heap.size := b2.lt
      refine wpList_step (fun K hK => ?_); rw [if_pos (by rfl)]; go_simp; (try dsimp only); refine hK _ _ ?_; clear hK K; (try simp only [Act.put, Zs, Zz, Zc])
      refine wpList_step (fun K hK => ?_); rw [if_pos (by rfl)]; go_simp; (go_at_call 16; refine (lsame_eq p.flat l _ _ _ hown.isSl hsl hfl2 (by omega)).mono ?_; intro e W803 hpp; obtain ⟨rfl, hx⟩ := hpp); (try dsimp only); refine hK _ _ ?_; clear hK K; (try simp only [Act.put, Zs, Zz, Zc])
      replace b0 := b0.ext hx
      replace b1 := b1.ext hx
      replace b2 := b2.ext hx
      replace t1 := isT.ext hx t1
      replace tv := isT.ext hx tv
      replace hsl := isSl.ext hsl hx
      replace hown := hown.ext hx
      replace hE := hE.trans hx
      clear hx
      replace qz : r2 < W803.heap.size := b2.lt
      iterate 2 (refine wpList_plain rfl (fun K hK => ?_); go_simp; (try dsimp only); refine hK _ _ ?_; clear hK K; (try simp only [Act.put, Zs, Zz, Zc]))
      refine wpList_nil ?_
      go_wp2_with fail
      go_ret
      exact ⟨rfl, hE⟩
theorem law_builds (l : List RV) (s : Value) (w : World) (hs : isSl w s 6 l.length (rF l)) :
    Calls Try.prog 3 #[s] w fun e w' => e = .returned (.bool true) ∧ Ext w w' := by
  by_cases hl : 60 < l.length
  · exact law_builds_big l s w hs hl
  · by_cases h0 : (BuildF l).2 = 0
    · exact law_builds_ok l s w hs hl h0
    · exact law_builds_err l s w hs hl h0

end Go.Proofs.Ytnbohogkfdeddaa
