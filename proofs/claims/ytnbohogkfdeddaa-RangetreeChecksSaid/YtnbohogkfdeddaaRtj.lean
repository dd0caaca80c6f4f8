/- Rangetree: join. -/
import Derived.Test.YtnbohogkfdeddaaRtg
set_option linter.unusedSimpArgs false
set_option linter.unusedVariables false
namespace Go.Proofs.Ytnbohogkfdeddaa
open Go.RowKit

set_option maxRecDepth 100000 in
set_option maxHeartbeats 4000000 in
theorem join_4 {A : Nat → Prop} (l : PT) (x : RV) (d : PT) (z : RV) (u : PT) (y : RV) (c : PT) (vl vr : TV) (w : World) (hA : Up A w) (hl : isT A w (l).bt vl) (hr : isT A w (PT.N (PT.N d z u) y c).bt vr) (hvx : vld x) (bl : bd (l)) (br : bd (PT.N (PT.N d z u) y c)) (h9 : (l).ht ≤ 900 ∧ (PT.N (PT.N d z u) y c).ht ≤ 900) (c1 : ¬ (PT.N (PT.N d z u) y c).ht + 1 < l.ht) (c3 : l.ht + 1 < (PT.N (PT.N d z u) y c).ht) (c2 : ¬ (PT.N d z u).ht ≤ c.ht) :
    Calls Try.prog 53 #[.agg vl.cs.toArray, .agg x.cs.toArray, .agg vr.cs.toArray] w fun e w' => ∃ v, e = .returned (.agg v.cs.toArray) ∧ isT A w' (PT.N (PT.N l x d) z (PT.N u y c)).bt v ∧ Ext w w' := by
  obtain ⟨nl1, _, _, _⟩ := isP_num hl
  obtain ⟨nr1, _, _, _⟩ := isP_num hr
  have hl9 : vl.h ≤ 900 := by omega
  have hr9 : vr.h ≤ 900 := by omega
  have hl0 : 0 ≤ vl.h := by have := PT.ht_nn (l); omega
  have hr0 : 0 ≤ vr.h := by have := PT.ht_nn (PT.N (PT.N d z u) y c); omega
  replace c1 : ¬ vr.h + 1 < vl.h := by omega
  replace c3 : vl.h + 1 < vr.h := by omega
  have hbb : l.ht ≤ 950 ∧ d.ht ≤ 950 ∧ u.ht ≤ 950 ∧ c.ht ≤ 950 := by have h1 := h9.2; have h2 := h9.1; have := PT.ht_nn d; have := PT.ht_nn u; have := PT.ht_nn c; simp only [PT.ht] at h1; omega
  clear nl1 nr1
  go_enter Try.func53, Try.ntmps53
  go_upto_region 1 with fail
  refine name_wX (fun W1 hW => ?_)
  have hE : Ext w W1 := by rw [hW]; repeat' (first | exact Ext.refl _ | apply Ext.al)
  have b0 : Blk W1 (w.heap.size) 28 vl.cs := by rw [hW]; exact (((Blk.newAt rfl).alloc _).alloc _).alloc _
  have b1 : Blk W1 (w.heap.size + 1) 25 x.cs := by rw [hW]; exact ((Blk.newAt (by simp)).alloc _).alloc _
  have b2 : Blk W1 (w.heap.size + 1 + 1) 28 vr.cs := by rw [hW]; exact (Blk.newAt (by simp)).alloc _
  have b3 : Blk W1 (w.heap.size + 1 + 1 + 1) 28 TV.z.cs := by rw [hW]; exact Blk.newAt (by simp)
  clear hW
  obtain ⟨r3, hr3⟩ : ∃ r, r = w.heap.size + 1 + 1 + 1 := ⟨_, rfl⟩
  rw [← hr3] at b3
  try rw [← hr3]
  obtain ⟨r2, hr2⟩ : ∃ r, r = w.heap.size + 1 + 1 := ⟨_, rfl⟩
  rw [← hr2] at b2
  try rw [← hr2]
  obtain ⟨r1, hr1⟩ : ∃ r, r = w.heap.size + 1 := ⟨_, rfl⟩
  rw [← hr1] at b1
  try rw [← hr1]
  obtain ⟨r0, hr0⟩ : ∃ r, r = w.heap.size := ⟨_, rfl⟩
  rw [← hr0] at b0
  try rw [← hr0]
  have q0 : w.heap.size ≤ r0 := by omega
  have q1 : r0 < r1 := by omega
  have q2 : r1 < r2 := by omega
  have q3 : r2 < r3 := by omega
  clear hr0 hr1 hr2 hr3
  have qz : r3 < W1.heap.size := b3.lt
  have tl := isT.ext hE (isT.lw hl)
  have tr := isT.ext hE (isT.lw hr)
  clear hl hr
  go_upto_region 1 with fail
  refine wp_region_lit ?_
  refine wpList_plain rfl (fun K hK => ?_); go_simp; (try dsimp only); refine hK _ _ ?_; clear hK K; (try simp only [Act.put, Zs, Zz, Zc])
  refine wpList_plain rfl (fun K hK => ?_); have zc := b0.cell 0; go_simp; clear zc; (try dsimp only); refine hK _ _ ?_; clear hK K; (try simp only [Act.put, Zs, Zz, Zc])
  refine wpList_plain rfl (fun K hK => ?_); go_simp; (try dsimp only); refine hK _ _ ?_; clear hK K; (try simp only [Act.put, Zs, Zz, Zc])
  refine wpList_plain rfl (fun K hK => ?_); have zc := b2.cell 0; go_simp; clear zc; (try dsimp only); refine hK _ _ ?_; clear hK K; (try simp only [Act.put, Zs, Zz, Zc])
  iterate 2 (refine wpList_plain rfl (fun K hK => ?_); go_simp; (try simp (disch := omega) only [Yq, Yr]); (try dsimp only); refine hK _ _ ?_; clear hK K; (try simp only [Act.put, Zs, Zz, Zc]))
  refine wpList_plain rfl (fun K hK => ?_); go_simp; (try dsimp only); refine hK _ _ ?_; clear hK K; (try simp only [Act.put, Zs, Zz, Zc])
  refine wpList_nil ?_
  go_upto_region 7 with fail
  refine wp_region_lit ?_
  refine wpList_plain rfl (fun K hK => ?_); go_simp; (try dsimp only); refine hK _ _ ?_; clear hK K; (try simp only [Act.put, Zs, Zz, Zc])
  refine wpList_plain rfl (fun K hK => ?_); have zc := b2.cell 0; go_simp; clear zc; (try dsimp only); refine hK _ _ ?_; clear hK K; (try simp only [Act.put, Zs, Zz, Zc])
  refine wpList_plain rfl (fun K hK => ?_); go_simp; (try dsimp only); refine hK _ _ ?_; clear hK K; (try simp only [Act.put, Zs, Zz, Zc])
  refine wpList_plain rfl (fun K hK => ?_); have zc := b0.cell 0; go_simp; clear zc; (try dsimp only); refine hK _ _ ?_; clear hK K; (try simp only [Act.put, Zs, Zz, Zc])
  iterate 2 (refine wpList_plain rfl (fun K hK => ?_); go_simp; (try simp (disch := omega) only [Yq, Yr]); (try dsimp only); refine hK _ _ ?_; clear hK K; (try simp only [Act.put, Zs, Zz, Zc]))
  refine wpList_plain rfl (fun K hK => ?_); go_simp; (try dsimp only); refine hK _ _ ?_; clear hK K; (try simp only [Act.put, Zs, Zz, Zc])
  refine wpList_nil ?_
  go_upto_region 8 with fail
  refine wp_region_lit ?_
  refine wpList_plain rfl (fun K hK => ?_); (first | (refine wp_ld 28 _ (b2.range) (by rfl) (by rfl) Try.underlying28 rfl (by exact Try.infoT) ?_)); (try dsimp only); refine hK _ _ ?_; clear hK K; (try simp only [Act.put, Zs, Zz, Zc])
  refine wpList_plain rfl (fun K hK => ?_); go_simp; (go_at_call 52; refine (parts_P (A := Lw A w.heap.size) _ _ _ _ _ tr).mono ?_; intro e W2 hpp; obtain ⟨vb, vc, rfl, tb, tc, hx⟩ := hpp); (try dsimp only); refine hK _ _ ?_; clear hK K; (try simp only [Act.put, Zs, Zz, Zc])
  replace b0 := b0.ext hx
  replace b1 := b1.ext hx
  replace b2 := b2.ext hx
  replace b3 := b3.ext hx
  replace tl := isT.ext hx tl
  replace tr := isT.ext hx tr
  replace tb := isT.ext hx tb
  replace tc := isT.ext hx tc
  replace hE := hE.trans hx
  clear hx
  replace qz : r3 < W2.heap.size := b3.lt
  iterate 5 (refine wpList_plain rfl (fun K hK => ?_); go_simp; (try dsimp only); refine hK _ _ ?_; clear hK K; (try simp only [Act.put, Zs, Zz, Zc]))
  refine name_wl (fun W3 hW => ?_)
  have hx : Ext W2 W3 := by rw [hW]; exact ext_alloc _ _
  have b4 : Blk W3 W2.heap.size 28 TV.z.cs := by rw [hW]; exact Blk.newAt rfl
  clear hW
  replace b0 := b0.ext hx
  replace b1 := b1.ext hx
  replace b2 := b2.ext hx
  replace b3 := b3.ext hx
  replace tl := isT.ext hx tl
  replace tr := isT.ext hx tr
  replace tb := isT.ext hx tb
  replace tc := isT.ext hx tc
  replace hE := hE.trans hx
  clear hx
  obtain ⟨r4, hr⟩ : ∃ r, r = W2.heap.size := ⟨_, rfl⟩
  rw [← hr] at b4
  try rw [← hr]
  have q4 : r3 < r4 := by omega
  clear hr
  replace qz : r4 < W3.heap.size := b4.lt
  refine wpList_plain rfl (fun K hK => ?_); go_simp; (try dsimp only); refine hK _ _ ?_; clear hK K; (try simp only [Act.put, Zs, Zz, Zc])
  refine name_wl (fun W4 hW => ?_)
  have hx : Ext W3 W4 := by rw [hW]; exact ext_alloc _ _
  have b5 : Blk W4 W3.heap.size 25 RV.z.cs := by rw [hW]; exact Blk.newAt rfl
  clear hW
  replace b0 := b0.ext hx
  replace b1 := b1.ext hx
  replace b2 := b2.ext hx
  replace b3 := b3.ext hx
  replace b4 := b4.ext hx
  replace tl := isT.ext hx tl
  replace tr := isT.ext hx tr
  replace tb := isT.ext hx tb
  replace tc := isT.ext hx tc
  replace hE := hE.trans hx
  clear hx
  obtain ⟨r5, hr⟩ : ∃ r, r = W3.heap.size := ⟨_, rfl⟩
  rw [← hr] at b5
  try rw [← hr]
  have q5 : r4 < r5 := by omega
  clear hr
  replace qz : r5 < W4.heap.size := b5.lt
  refine wpList_plain rfl (fun K hK => ?_); go_simp; (try dsimp only); refine hK _ _ ?_; clear hK K; (try simp only [Act.put, Zs, Zz, Zc])
  refine name_wl (fun W5 hW => ?_)
  have hx : Ext W4 W5 := by rw [hW]; exact ext_alloc _ _
  have b6 : Blk W5 W4.heap.size 28 TV.z.cs := by rw [hW]; exact Blk.newAt rfl
  clear hW
  replace b0 := b0.ext hx
  replace b1 := b1.ext hx
  replace b2 := b2.ext hx
  replace b3 := b3.ext hx
  replace b4 := b4.ext hx
  replace b5 := b5.ext hx
  replace tl := isT.ext hx tl
  replace tr := isT.ext hx tr
  replace tb := isT.ext hx tb
  replace tc := isT.ext hx tc
  replace hE := hE.trans hx
  clear hx
  obtain ⟨r6, hr⟩ : ∃ r, r = W4.heap.size := ⟨_, rfl⟩
  rw [← hr] at b6
  try rw [← hr]
  have q6 : r5 < r6 := by omega
  clear hr
  replace qz : r6 < W5.heap.size := b6.lt
  refine wpList_plain rfl (fun K hK => ?_)
  refine wp_store_box 28 _ _ (by rfl) b4 (by rfl) (by rfl) (by exact Try.infoT) (by first | exact RV.one _ | exact TV.one _ rfl | exact TV.one _ (isT.one tl) | exact TV.one _ (isT.one tr) | exact TV.one _ (isT.one tb) | exact TV.one _ (isT.one tc)) (by rfl) (fun W6 hg bn => ?_)
  replace b0 := b0.kept hg (Zn (by omega))
  replace b1 := b1.kept hg (Zn (by omega))
  replace b2 := b2.kept hg (Zn (by omega))
  replace b3 := b3.kept hg (Zn (by omega))
  replace b5 := b5.kept hg (Zn (by omega))
  replace b6 := b6.kept hg (Zn (by omega))
  replace tl := isT.kept hg (Lw.not (by omega)) tl
  replace tr := isT.kept hg (Lw.not (by omega)) tr
  replace tb := isT.kept hg (Lw.not (by omega)) tb
  replace tc := isT.kept hg (Lw.not (by omega)) tc
  replace hE := ext_grow hE hg (fun q hq => by cases hq; omega)
  clear b4 hg
  have b4 := bn
  clear bn
  (try dsimp only); refine hK _ _ ?_; clear hK K; (try simp only [Act.put, Zs, Zz, Zc])
  replace qz : r6 < W6.heap.size := b6.lt
  refine wpList_plain rfl (fun K hK => ?_)
  refine wp_store_box 25 _ _ (by rfl) b5 (by rfl) (by rfl) (by exact Try.infoR) (by first | exact RV.one _ | exact TV.one _ rfl | exact TV.one _ (isT.one tl) | exact TV.one _ (isT.one tr) | exact TV.one _ (isT.one tb) | exact TV.one _ (isT.one tc)) (by rfl) (fun W7 hg bn => ?_)
  replace b0 := b0.kept hg (Zn (by omega))
  replace b1 := b1.kept hg (Zn (by omega))
  replace b2 := b2.kept hg (Zn (by omega))
  replace b3 := b3.kept hg (Zn (by omega))
  replace b4 := b4.kept hg (Zn (by omega))
  replace b6 := b6.kept hg (Zn (by omega))
  replace tl := isT.kept hg (Lw.not (by omega)) tl
  replace tr := isT.kept hg (Lw.not (by omega)) tr
  replace tb := isT.kept hg (Lw.not (by omega)) tb
  replace tc := isT.kept hg (Lw.not (by omega)) tc
  replace hE := ext_grow hE hg (fun q hq => by cases hq; omega)
  clear b5 hg
  have b5 := bn
  clear bn
  (try dsimp only); refine hK _ _ ?_; clear hK K; (try simp only [Act.put, Zs, Zz, Zc])
  replace qz : r6 < W7.heap.size := b6.lt
  refine wpList_plain rfl (fun K hK => ?_)
  refine wp_store_box 28 _ _ (by rfl) b6 (by rfl) (by rfl) (by exact Try.infoT) (by first | exact RV.one _ | exact TV.one _ rfl | exact TV.one _ (isT.one tl) | exact TV.one _ (isT.one tr) | exact TV.one _ (isT.one tb) | exact TV.one _ (isT.one tc)) (by rfl) (fun W8 hg bn => ?_)
  replace b0 := b0.kept hg (Zn (by omega))
  replace b1 := b1.kept hg (Zn (by omega))
  replace b2 := b2.kept hg (Zn (by omega))
  replace b3 := b3.kept hg (Zn (by omega))
  replace b4 := b4.kept hg (Zn (by omega))
  replace b5 := b5.kept hg (Zn (by omega))
  replace tl := isT.kept hg (Lw.not (by omega)) tl
  replace tr := isT.kept hg (Lw.not (by omega)) tr
  replace tb := isT.kept hg (Lw.not (by omega)) tb
  replace tc := isT.kept hg (Lw.not (by omega)) tc
  replace hE := ext_grow hE hg (fun q hq => by cases hq; omega)
  clear b6 hg
  have b6 := bn
  clear bn
  (try dsimp only); refine hK _ _ ?_; clear hK K; (try simp only [Act.put, Zs, Zz, Zc])
  replace qz : r6 < W8.heap.size := b6.lt
  refine wpList_nil ?_
  have nb := (isP_num tb).1
  have nc := (isP_num tc).1
  have c2v : ¬ vb.h ≤ vc.h := by rw [nb, nc]; exact c2
  clear nb nc
  go_upto_region 9 with fail
  refine wp_region_lit ?_
  refine wpList_plain rfl (fun K hK => ?_); go_simp; (try dsimp only); refine hK _ _ ?_; clear hK K; (try simp only [Act.put, Zs, Zz, Zc])
  refine wpList_plain rfl (fun K hK => ?_); have zc := b6.cell 0; go_simp; clear zc; (try dsimp only); refine hK _ _ ?_; clear hK K; (try simp only [Act.put, Zs, Zz, Zc])
  refine wpList_plain rfl (fun K hK => ?_); go_simp; (try dsimp only); refine hK _ _ ?_; clear hK K; (try simp only [Act.put, Zs, Zz, Zc])
  refine wpList_plain rfl (fun K hK => ?_); have zc := b4.cell 0; go_simp; clear zc; (try dsimp only); refine hK _ _ ?_; clear hK K; (try simp only [Act.put, Zs, Zz, Zc])
  refine wpList_plain rfl (fun K hK => ?_); go_simp; (try simp (disch := omega) only [Yq, Yr]); (try dsimp only); refine hK _ _ ?_; clear hK K; (try simp only [Act.put, Zs, Zz, Zc])
  refine wpList_nil ?_
  go_upto_region 11 with fail
  refine wp_region_lit ?_
  refine wpList_plain rfl (fun K hK => ?_); (first | (refine wp_ld 28 _ (b4.range) (by rfl) (by rfl) Try.underlying28 rfl (by exact Try.infoT) ?_)); (try dsimp only); refine hK _ _ ?_; clear hK K; (try simp only [Act.put, Zs, Zz, Zc])
  refine wpList_plain rfl (fun K hK => ?_); go_simp; (go_at_call 52; refine (parts_P (A := Lw A w.heap.size) _ _ _ _ _ tb).mono ?_; intro e W9 hpp; obtain ⟨vd, vu, rfl, td, tu, hx⟩ := hpp); (try dsimp only); refine hK _ _ ?_; clear hK K; (try simp only [Act.put, Zs, Zz, Zc])
  replace b0 := b0.ext hx
  replace b1 := b1.ext hx
  replace b2 := b2.ext hx
  replace b3 := b3.ext hx
  replace b4 := b4.ext hx
  replace b5 := b5.ext hx
  replace b6 := b6.ext hx
  replace tl := isT.ext hx tl
  replace tr := isT.ext hx tr
  replace tb := isT.ext hx tb
  replace tc := isT.ext hx tc
  replace td := isT.ext hx td
  replace tu := isT.ext hx tu
  replace hE := hE.trans hx
  clear hx
  replace qz : r6 < W9.heap.size := b6.lt
  iterate 5 (refine wpList_plain rfl (fun K hK => ?_); go_simp; (try dsimp only); refine hK _ _ ?_; clear hK K; (try simp only [Act.put, Zs, Zz, Zc]))
  refine name_wl (fun W10 hW => ?_)
  have hx : Ext W9 W10 := by rw [hW]; exact ext_alloc _ _
  have b7 : Blk W10 W9.heap.size 28 TV.z.cs := by rw [hW]; exact Blk.newAt rfl
  clear hW
  replace b0 := b0.ext hx
  replace b1 := b1.ext hx
  replace b2 := b2.ext hx
  replace b3 := b3.ext hx
  replace b4 := b4.ext hx
  replace b5 := b5.ext hx
  replace b6 := b6.ext hx
  replace tl := isT.ext hx tl
  replace tr := isT.ext hx tr
  replace tb := isT.ext hx tb
  replace tc := isT.ext hx tc
  replace td := isT.ext hx td
  replace tu := isT.ext hx tu
  replace hE := hE.trans hx
  clear hx
  obtain ⟨r7, hr⟩ : ∃ r, r = W9.heap.size := ⟨_, rfl⟩
  rw [← hr] at b7
  try rw [← hr]
  have q7 : r6 < r7 := by omega
  clear hr
  replace qz : r7 < W10.heap.size := b7.lt
  refine wpList_plain rfl (fun K hK => ?_); go_simp; (try dsimp only); refine hK _ _ ?_; clear hK K; (try simp only [Act.put, Zs, Zz, Zc])
  refine name_wl (fun W11 hW => ?_)
  have hx : Ext W10 W11 := by rw [hW]; exact ext_alloc _ _
  have b8 : Blk W11 W10.heap.size 25 RV.z.cs := by rw [hW]; exact Blk.newAt rfl
  clear hW
  replace b0 := b0.ext hx
  replace b1 := b1.ext hx
  replace b2 := b2.ext hx
  replace b3 := b3.ext hx
  replace b4 := b4.ext hx
  replace b5 := b5.ext hx
  replace b6 := b6.ext hx
  replace b7 := b7.ext hx
  replace tl := isT.ext hx tl
  replace tr := isT.ext hx tr
  replace tb := isT.ext hx tb
  replace tc := isT.ext hx tc
  replace td := isT.ext hx td
  replace tu := isT.ext hx tu
  replace hE := hE.trans hx
  clear hx
  obtain ⟨r8, hr⟩ : ∃ r, r = W10.heap.size := ⟨_, rfl⟩
  rw [← hr] at b8
  try rw [← hr]
  have q8 : r7 < r8 := by omega
  clear hr
  replace qz : r8 < W11.heap.size := b8.lt
  refine wpList_plain rfl (fun K hK => ?_); go_simp; (try dsimp only); refine hK _ _ ?_; clear hK K; (try simp only [Act.put, Zs, Zz, Zc])
  refine name_wl (fun W12 hW => ?_)
  have hx : Ext W11 W12 := by rw [hW]; exact ext_alloc _ _
  have b9 : Blk W12 W11.heap.size 28 TV.z.cs := by rw [hW]; exact Blk.newAt rfl
  clear hW
  replace b0 := b0.ext hx
  replace b1 := b1.ext hx
  replace b2 := b2.ext hx
  replace b3 := b3.ext hx
  replace b4 := b4.ext hx
  replace b5 := b5.ext hx
  replace b6 := b6.ext hx
  replace b7 := b7.ext hx
  replace b8 := b8.ext hx
  replace tl := isT.ext hx tl
  replace tr := isT.ext hx tr
  replace tb := isT.ext hx tb
  replace tc := isT.ext hx tc
  replace td := isT.ext hx td
  replace tu := isT.ext hx tu
  replace hE := hE.trans hx
  clear hx
  obtain ⟨r9, hr⟩ : ∃ r, r = W11.heap.size := ⟨_, rfl⟩
  rw [← hr] at b9
  try rw [← hr]
  have q9 : r8 < r9 := by omega
  clear hr
  replace qz : r9 < W12.heap.size := b9.lt
  refine wpList_plain rfl (fun K hK => ?_)
  refine wp_store_box 28 _ _ (by rfl) b7 (by rfl) (by rfl) (by exact Try.infoT) (by first | exact RV.one _ | exact TV.one _ rfl | exact TV.one _ (isT.one tl) | exact TV.one _ (isT.one tr) | exact TV.one _ (isT.one tb) | exact TV.one _ (isT.one tc) | exact TV.one _ (isT.one td) | exact TV.one _ (isT.one tu)) (by rfl) (fun W13 hg bn => ?_)
  replace b0 := b0.kept hg (Zn (by omega))
  replace b1 := b1.kept hg (Zn (by omega))
  replace b2 := b2.kept hg (Zn (by omega))
  replace b3 := b3.kept hg (Zn (by omega))
  replace b4 := b4.kept hg (Zn (by omega))
  replace b5 := b5.kept hg (Zn (by omega))
  replace b6 := b6.kept hg (Zn (by omega))
  replace b8 := b8.kept hg (Zn (by omega))
  replace b9 := b9.kept hg (Zn (by omega))
  replace tl := isT.kept hg (Lw.not (by omega)) tl
  replace tr := isT.kept hg (Lw.not (by omega)) tr
  replace tb := isT.kept hg (Lw.not (by omega)) tb
  replace tc := isT.kept hg (Lw.not (by omega)) tc
  replace td := isT.kept hg (Lw.not (by omega)) td
  replace tu := isT.kept hg (Lw.not (by omega)) tu
  replace hE := ext_grow hE hg (fun q hq => by cases hq; omega)
  clear b7 hg
  have b7 := bn
  clear bn
  (try dsimp only); refine hK _ _ ?_; clear hK K; (try simp only [Act.put, Zs, Zz, Zc])
  replace qz : r9 < W13.heap.size := b9.lt
  refine wpList_plain rfl (fun K hK => ?_)
  refine wp_store_box 25 _ _ (by rfl) b8 (by rfl) (by rfl) (by exact Try.infoR) (by first | exact RV.one _ | exact TV.one _ rfl | exact TV.one _ (isT.one tl) | exact TV.one _ (isT.one tr) | exact TV.one _ (isT.one tb) | exact TV.one _ (isT.one tc) | exact TV.one _ (isT.one td) | exact TV.one _ (isT.one tu)) (by rfl) (fun W14 hg bn => ?_)
  replace b0 := b0.kept hg (Zn (by omega))
  replace b1 := b1.kept hg (Zn (by omega))
  replace b2 := b2.kept hg (Zn (by omega))
  replace b3 := b3.kept hg (Zn (by omega))
  replace b4 := b4.kept hg (Zn (by omega))
  replace b5 := b5.kept hg (Zn (by omega))
  replace b6 := b6.kept hg (Zn (by omega))
  replace b7 := b7.kept hg (Zn (by omega))
  replace b9 := b9.kept hg (Zn (by omega))
  replace tl := isT.kept hg (Lw.not (by omega)) tl
  replace tr := isT.kept hg (Lw.not (by omega)) tr
  replace tb := isT.kept hg (Lw.not (by omega)) tb
  replace tc := isT.kept hg (Lw.not (by omega)) tc
  replace td := isT.kept hg (Lw.not (by omega)) td
  replace tu := isT.kept hg (Lw.not (by omega)) tu
  replace hE := ext_grow hE hg (fun q hq => by cases hq; omega)
  clear b8 hg
  have b8 := bn
  clear bn
  (try dsimp only); refine hK _ _ ?_; clear hK K; (try simp only [Act.put, Zs, Zz, Zc])
  replace qz : r9 < W14.heap.size := b9.lt
  refine wpList_plain rfl (fun K hK => ?_)
  refine wp_store_box 28 _ _ (by rfl) b9 (by rfl) (by rfl) (by exact Try.infoT) (by first | exact RV.one _ | exact TV.one _ rfl | exact TV.one _ (isT.one tl) | exact TV.one _ (isT.one tr) | exact TV.one _ (isT.one tb) | exact TV.one _ (isT.one tc) | exact TV.one _ (isT.one td) | exact TV.one _ (isT.one tu)) (by rfl) (fun W15 hg bn => ?_)
  replace b0 := b0.kept hg (Zn (by omega))
  replace b1 := b1.kept hg (Zn (by omega))
  replace b2 := b2.kept hg (Zn (by omega))
  replace b3 := b3.kept hg (Zn (by omega))
  replace b4 := b4.kept hg (Zn (by omega))
  replace b5 := b5.kept hg (Zn (by omega))
  replace b6 := b6.kept hg (Zn (by omega))
  replace b7 := b7.kept hg (Zn (by omega))
  replace b8 := b8.kept hg (Zn (by omega))
  replace tl := isT.kept hg (Lw.not (by omega)) tl
  replace tr := isT.kept hg (Lw.not (by omega)) tr
  replace tb := isT.kept hg (Lw.not (by omega)) tb
  replace tc := isT.kept hg (Lw.not (by omega)) tc
  replace td := isT.kept hg (Lw.not (by omega)) td
  replace tu := isT.kept hg (Lw.not (by omega)) tu
  replace hE := ext_grow hE hg (fun q hq => by cases hq; omega)
  clear b9 hg
  have b9 := bn
  clear bn
  (try dsimp only); refine hK _ _ ?_; clear hK K; (try simp only [Act.put, Zs, Zz, Zc])
  replace qz : r9 < W15.heap.size := b9.lt
  refine wpList_nil ?_
  go_upto_region 12 with fail
  obtain ⟨m, hm, hm2⟩ : ∃ m, r9 < m ∧ m = W15.heap.size := ⟨_, qz, rfl⟩
  have hm3 : m ≤ W15.heap.size := by omega
  clear hm2
  have x0 := b0
  have x1 := b1
  have x2 := b2
  have x3 := b3
  have x4 := b4
  have x5 := b5
  have x6 := b6
  have x7 := b7
  have x8 := b8
  have x9 := b9
  have hS : GrownX W15 [r3] W15 := GrownX.refl _ _
  refine wp_region_S (GrownX W15 [r3]) (by kernel_rfl) ?_
  refine name_wd (fun W16 hW => ?_)
  have hx : Ext W15 W16 := by rw [hW]; exact ext_drew _
  clear hW
  replace hS := hS.ext hx
  replace b0 := b0.ext hx
  replace b1 := b1.ext hx
  replace b2 := b2.ext hx
  replace b3 := b3.ext hx
  replace b4 := b4.ext hx
  replace b5 := b5.ext hx
  replace b6 := b6.ext hx
  replace b7 := b7.ext hx
  replace b8 := b8.ext hx
  replace b9 := b9.ext hx
  replace tl := isT.ext hx tl
  replace tr := isT.ext hx tr
  replace tb := isT.ext hx tb
  replace tc := isT.ext hx tc
  replace td := isT.ext hx td
  replace tu := isT.ext hx tu
  replace hm3 := Nat.le_trans hm3 hx.below.size
  replace hE := hE.trans hx
  clear hx
  replace qz : r9 < W16.heap.size := b9.lt
  refine wpAnyD_takeSL (i := 0) rfl (by kernel_rfl) (fun _ _ _ _ h => h) hS ?_
  apply Exists.intro
  refine ⟨Or.inl ⟨by rfl, ?_⟩, ?_⟩
  (focus (intro wz hz; (first | exact exec_ld 28 _ rfl rfl ((GrownX.blk hz x0 (by first | decide | (simp; done) | (simp; omega) | omega)).range) Try.underlying28 rfl (by exact Try.infoT))))
  (try simp only [Act.put, Zs, Zz, Zc])
  refine wpAnyD_takeSL (i := 1) rfl (by kernel_rfl) (fun _ _ _ _ h => h) hS ?_
  apply Exists.intro
  refine ⟨Or.inl ⟨by rfl, ?_⟩, ?_⟩
  (focus (intro wz hz; (first | exact exec_ld 25 _ rfl rfl ((GrownX.blk hz x1 (by first | decide | (simp; done) | (simp; omega) | omega)).range) Try.underlying25 rfl (by exact Try.infoR))))
  (try simp only [Act.put, Zs, Zz, Zc])
  refine wpAnyD_takeSL (i := 2) rfl (by kernel_rfl) (fun _ _ _ _ h => h) hS ?_
  apply Exists.intro
  refine ⟨Or.inl ⟨by rfl, ?_⟩, ?_⟩
  (focus (intro wz hz; (first | exact exec_ld 28 _ rfl rfl ((GrownX.blk hz x7 (by first | decide | (simp; done) | (simp; omega) | omega)).range) Try.underlying28 rfl (by exact Try.infoT))))
  (try simp only [Act.put, Zs, Zz, Zc])
  refine wpAnyD_takeSL (i := 4) rfl (by kernel_rfl) (fun _ _ _ _ h => h) hS ?_
  apply Exists.intro
  refine ⟨Or.inl ⟨by rfl, ?_⟩, ?_⟩
  (focus (intro wz hz; (first | exact exec_ld 25 _ rfl rfl ((GrownX.blk hz x8 (by first | decide | (simp; done) | (simp; omega) | omega)).range) Try.underlying25 rfl (by exact Try.infoR))))
  (try simp only [Act.put, Zs, Zz, Zc])
  refine wpAnyD_takeSL (i := 5) rfl (by kernel_rfl) (fun _ _ _ _ h => h) hS ?_
  apply Exists.intro
  refine ⟨Or.inl ⟨by rfl, ?_⟩, ?_⟩
  (focus (intro wz hz; (first | exact exec_ld 28 _ rfl rfl ((GrownX.blk hz x9 (by first | decide | (simp; done) | (simp; omega) | omega)).range) Try.underlying28 rfl (by exact Try.infoT))))
  (try simp only [Act.put, Zs, Zz, Zc])
  refine wpAnyD_takeSL (i := 6) rfl (by kernel_rfl) (fun _ _ _ _ h => h) hS ?_
  apply Exists.intro
  refine ⟨Or.inl ⟨by rfl, ?_⟩, ?_⟩
  (focus (intro wz hz; (first | exact exec_ld 25 _ rfl rfl ((GrownX.blk hz x5 (by first | decide | (simp; done) | (simp; omega) | omega)).range) Try.underlying25 rfl (by exact Try.infoR))))
  (try simp only [Act.put, Zs, Zz, Zc])
  refine wpAnyD_takeSL (i := 7) rfl (by kernel_rfl) (fun _ _ _ _ h => h) hS ?_
  apply Exists.intro
  refine ⟨Or.inl ⟨by rfl, ?_⟩, ?_⟩
  (focus (intro wz hz; (first | exact exec_ld 28 _ rfl rfl ((GrownX.blk hz x6 (by first | decide | (simp; done) | (simp; omega) | omega)).range) Try.underlying28 rfl (by exact Try.infoT))))
  (try simp only [Act.put, Zs, Zz, Zc])
  -- several: [3, 8]
  refine wpAnyD_oneL (i := 3) rfl (by kernel_rfl) (fun K hK => ?_)
  rw [if_pos (by rfl)]
  go_simp
  (go_at_call 51; refine (node_P (A := Lo A w.heap.size m) (l) x (d) _ _ _ (Up.lo hA hE hm3) tl.up td.up hvx bl (bd_node (bd_node br).1).1).mono ?_; intro e W17 hpp; obtain ⟨v1, rfl, t1, hx⟩ := hpp)
  replace hS := hS.ext hx; (try dsimp only); refine hK.out _ _ (fun _ => hS) ?_; clear hK K; (try simp only [Act.put, Zs, Zz, Zc])
  replace b0 := b0.ext hx
  replace b1 := b1.ext hx
  replace b2 := b2.ext hx
  replace b3 := b3.ext hx
  replace b4 := b4.ext hx
  replace b5 := b5.ext hx
  replace b6 := b6.ext hx
  replace b7 := b7.ext hx
  replace b8 := b8.ext hx
  replace b9 := b9.ext hx
  replace tl := isT.ext hx tl
  replace tr := isT.ext hx tr
  replace tb := isT.ext hx tb
  replace tc := isT.ext hx tc
  replace td := isT.ext hx td
  replace tu := isT.ext hx tu
  replace hm3 := Nat.le_trans hm3 hx.below.size
  replace hE := hE.trans hx
  clear hx
  replace qz : r9 < W17.heap.size := b9.lt
  refine wpAnyD_oneL (i := 8) rfl (by kernel_rfl) (fun K hK => ?_)
  rw [if_pos (by rfl)]
  go_simp
  (go_at_call 51; refine (node_P (A := Lo A w.heap.size m) (u) y (c) _ _ _ (Up.lo hA hE hm3) tu.up tc.up (bd_node br).2.1 (bd_node (bd_node br).1).2.2 (bd_node br).2.2).mono ?_; intro e W18 hpp; obtain ⟨v2, rfl, t2, hx⟩ := hpp)
  replace hS := hS.ext hx; (try dsimp only); refine hK.out _ _ (fun _ => hS) ?_; clear hK K; (try simp only [Act.put, Zs, Zz, Zc])
  replace b0 := b0.ext hx
  replace b1 := b1.ext hx
  replace b2 := b2.ext hx
  replace b3 := b3.ext hx
  replace b4 := b4.ext hx
  replace b5 := b5.ext hx
  replace b6 := b6.ext hx
  replace b7 := b7.ext hx
  replace b8 := b8.ext hx
  replace b9 := b9.ext hx
  replace tl := isT.ext hx tl
  replace tr := isT.ext hx tr
  replace tb := isT.ext hx tb
  replace tc := isT.ext hx tc
  replace td := isT.ext hx td
  replace tu := isT.ext hx tu
  replace hm3 := Nat.le_trans hm3 hx.below.size
  replace t1 := isT.ext hx t1
  replace hE := hE.trans hx
  clear hx
  replace qz : r9 < W18.heap.size := b9.lt
  refine wpAnyD_oneL (i := 9) rfl (by kernel_rfl) (fun K hK => ?_)
  rw [if_pos (by rfl)]
  go_simp
  (go_at_call 51; refine (node_P (A := Lo A w.heap.size m) (PT.N l x d) z (PT.N u y c) _ _ _ (Up.lo hA hE hm3) t1 t2 (bd_node (bd_node br).1).2.1 (bd_mk bl hvx (bd_node (bd_node br).1).1 ⟨hbb.1, hbb.2.1⟩) (bd_mk (bd_node (bd_node br).1).2.2 (bd_node br).2.1 (bd_node br).2.2 ⟨hbb.2.2.1, hbb.2.2.2⟩)).mono ?_; intro e W19 hpp; obtain ⟨v3, rfl, t3, hx⟩ := hpp)
  replace hS := hS.ext hx; (try dsimp only); refine hK.out _ _ (fun _ => hS) ?_; clear hK K; (try simp only [Act.put, Zs, Zz, Zc])
  replace b0 := b0.ext hx
  replace b1 := b1.ext hx
  replace b2 := b2.ext hx
  replace b3 := b3.ext hx
  replace b4 := b4.ext hx
  replace b5 := b5.ext hx
  replace b6 := b6.ext hx
  replace b7 := b7.ext hx
  replace b8 := b8.ext hx
  replace b9 := b9.ext hx
  replace tl := isT.ext hx tl
  replace tr := isT.ext hx tr
  replace tb := isT.ext hx tb
  replace tc := isT.ext hx tc
  replace td := isT.ext hx td
  replace tu := isT.ext hx tu
  replace hm3 := Nat.le_trans hm3 hx.below.size
  replace t1 := isT.ext hx t1
  replace t2 := isT.ext hx t2
  replace hE := hE.trans hx
  clear hx
  replace qz : r9 < W19.heap.size := b9.lt
  refine wpAnyD_oneL (i := 10) rfl (by kernel_rfl) (fun K hK => ?_)
  rw [if_pos (by rfl)]
  refine wp_store_box 28 _ _ (by rfl) b3 (by rfl) (by rfl) (by exact Try.infoT) (by first | exact RV.one _ | exact TV.one _ rfl | exact TV.one _ (isT.one tl) | exact TV.one _ (isT.one tr) | exact TV.one _ (isT.one tb) | exact TV.one _ (isT.one tc) | exact TV.one _ (isT.one td) | exact TV.one _ (isT.one tu) | exact TV.one _ (isT.one t1) | exact TV.one _ (isT.one t2) | exact TV.one _ (isT.one t3)) (by rfl) (fun W20 hg bn => ?_)
  replace b0 := b0.kept hg (Zn (by omega))
  replace b1 := b1.kept hg (Zn (by omega))
  replace b2 := b2.kept hg (Zn (by omega))
  replace b4 := b4.kept hg (Zn (by omega))
  replace b5 := b5.kept hg (Zn (by omega))
  replace b6 := b6.kept hg (Zn (by omega))
  replace b7 := b7.kept hg (Zn (by omega))
  replace b8 := b8.kept hg (Zn (by omega))
  replace b9 := b9.kept hg (Zn (by omega))
  replace tl := isT.kept hg (Lw.not (by omega)) tl
  replace tr := isT.kept hg (Lw.not (by omega)) tr
  replace tb := isT.kept hg (Lw.not (by omega)) tb
  replace tc := isT.kept hg (Lw.not (by omega)) tc
  replace td := isT.kept hg (Lw.not (by omega)) td
  replace tu := isT.kept hg (Lw.not (by omega)) tu
  replace hm3 := Nat.le_trans hm3 hg.size
  replace t1 := isT.kept hg (Lo.not (by omega) (by omega)) t1
  replace t2 := isT.kept hg (Lo.not (by omega) (by omega)) t2
  replace t3 := isT.kept hg (Lo.not (by omega) (by omega)) t3
  replace hE := ext_grow hE hg (fun q hq => by cases hq; omega)
  replace hS := hS.step hg (by first | decide | (simp; done) | (simp; omega) | omega)
  clear b3 hg
  have b3 := bn
  clear bn
  (try dsimp only); refine hK.out _ _ (fun _ => hS) ?_; clear hK K; (try simp only [Act.put, Zs, Zz, Zc])
  replace qz : r9 < W20.heap.size := b9.lt
  refine wpAnyD_done (by kernel_rfl) ?_ _
  clear hS x0 x1 x2 x3 x4 x5 x6 x7 x8 x9
  go_wp2_with fail
  exact bodyPost_ret (res_c rfl (GivesC.of b3 rfl Try.underlying28 rfl Try.infoT)) rfl ⟨v3, rfl, t3.hi, hE⟩


end Go.Proofs.Ytnbohogkfdeddaa
