/- Rangetree: the reference: Balanced. -/
import Derived.Test.YtnbohogkfdeddaaRuw
set_option linter.unusedSimpArgs false
set_option linter.unusedVariables false
namespace Go.Proofs.Ytnbohogkfdeddaa
open Go.RowKit

theorem hid_mk0 {p : Prop} (h : p) : Hid p := h
set_option maxRecDepth 100000 in
set_option maxHeartbeats 4000000 in
theorem rbal_0 {A : Nat → Prop} (l : PT) (x : RV) (r : PT) (vl vr : TV) (w : World) (hA : Up A w) (hl : isT A w (l).bt vl) (hr : isT A w (r).bt vr) (hvx : vld x) (bl : bd (l)) (br : bd (r)) (h9 : (l).ht ≤ 900 ∧ (r).ht ≤ 900) (c1 : ¬ r.ht + 1 < l.ht) (c3 : ¬ l.ht + 1 < r.ht) :
    Calls Try.prog 56 #[.agg vl.cs.toArray, .agg x.cs.toArray, .agg vr.cs.toArray] w fun e w' => ∃ v, e = .returned (.agg v.cs.toArray) ∧ isT A w' (PT.N l x r).bt v ∧ Ext w w' := by
  obtain ⟨nl1, -, -, -⟩ := isP_num hl
  obtain ⟨nr1, -, -, -⟩ := isP_num hr
  have hl9 : vl.h ≤ 900 := by omega
  have hr9 : vr.h ≤ 900 := by omega
  have hl0 : 0 ≤ vl.h := by have := PT.ht_nn (l); omega
  have hr0 : 0 ≤ vr.h := by have := PT.ht_nn (r); omega
  replace hl := isT.lw hl
  replace hr := isT.lw hr
  replace c1 : ¬ vr.h + 1 < vl.h := by omega
  replace c3 : ¬ vl.h + 1 < vr.h := by omega
  clear nl1 nr1
  go_enter Try.func56, Try.ntmps56
  go_upto_region 1 with fail
  refine name_wX (fun W1 hW => ?_)
  have hE : Ext w W1 := by rw [hW]; repeat' (first | exact Ext.refl _ | apply Ext.al)
  have b0 : Blk W1 (w.heap.size) 28 vl.cs := by rw [hW]; exact (((Blk.newAt rfl).alloc _).alloc _).alloc _
  have b1 : Blk W1 (w.heap.size + 1) 25 x.cs := by rw [hW]; exact ((Blk.newAt (by simp)).alloc _).alloc _
  have b2 : Blk W1 (w.heap.size + 1 + 1) 28 vr.cs := by rw [hW]; exact (Blk.newAt (by simp)).alloc _
  have b3 : Blk W1 (w.heap.size + 1 + 1 + 1) 28 TV.z.cs := by rw [hW]; exact Blk.newAt (by simp)
  clear hW
  obtain ⟨r3, hr3⟩ : ∃ r, r = w.heap.size + 1 + 1 + 1 := ⟨_, rfl⟩
  rw [← hr3] at b3
  try rw [← hr3]
  obtain ⟨r2, hr2⟩ : ∃ r, r = w.heap.size + 1 + 1 := ⟨_, rfl⟩
  rw [← hr2] at b2
  try rw [← hr2]
  obtain ⟨r1, hr1⟩ : ∃ r, r = w.heap.size + 1 := ⟨_, rfl⟩
  rw [← hr1] at b1
  try rw [← hr1]
  obtain ⟨r0, hr0⟩ : ∃ r, r = w.heap.size := ⟨_, rfl⟩
  rw [← hr0] at b0
  try rw [← hr0]
  have q0 : w.heap.size ≤ r0 := by omega
  have q1 : r0 < r1 := by omega
  have q2 : r1 < r2 := by omega
  have q3 : r2 < r3 := by omega
  clear hr0 hr1 hr2 hr3
  have qz : r3 < W1.heap.size := b3.lt
  replace hl := isT.ext hE hl
  replace hr := isT.ext hE hr
  go_upto_region 1 with fail
  refine wp_region_lit ?_
  have zc0 := b0.cell 0; have zc1 := b2.cell 0
  iterate 6 (refine wpList_plain rfl (fun K hK => ?_); go_simp; (try simp (disch := omega) only [Yq, Yr]); (try dsimp only); refine hK _ _ ?_; clear hK K; (try simp only [Act.put, Zs, Zz, Zc]))
  clear zc0 zc1
  refine wpList_nil ?_
  go_upto_region 6 with fail
  refine wp_region_lit ?_
  have zc0 := b2.cell 0; have zc1 := b0.cell 0
  iterate 6 (refine wpList_plain rfl (fun K hK => ?_); go_simp; (try simp (disch := omega) only [Yq, Yr]); (try dsimp only); refine hK _ _ ?_; clear hK K; (try simp only [Act.put, Zs, Zz, Zc]))
  clear zc0 zc1
  refine wpList_nil ?_
  go_upto_region 11 with fail
  obtain ⟨m, hm, hm2⟩ : ∃ m, r3 < m ∧ m = W1.heap.size := ⟨_, qz, rfl⟩
  have hm3 : m ≤ W1.heap.size := by omega
  clear hm2
  refine wp_region_lit ?_
  iterate 3 (refine wpList_plain rfl (fun K hK => ?_); (first | (refine wp_ld 28 _ (b0.range) (by rfl) (by rfl) Try.underlying28 rfl (by exact Try.infoT) ?_) | (refine wp_ld 25 _ (b1.range) (by rfl) (by rfl) Try.underlying25 rfl (by exact Try.infoR) ?_) | (refine wp_ld 28 _ (b2.range) (by rfl) (by rfl) Try.underlying28 rfl (by exact Try.infoT) ?_) | go_simp); (try dsimp only); refine hK _ _ ?_; clear hK K; (try simp only [Act.put, Zs, Zz, Zc]))
  refine wpList_plain rfl (fun K hK => ?_); go_simp; (go_at_call 55; refine (rnode_P (A := Lo A w.heap.size m) (l) x (r) _ _ _ (Up.lo hA hE hm3) hl.up hr.up hvx bl br).mono ?_; intro e W2 hpp; obtain ⟨v1, rfl, t1, hx⟩ := hpp); (try dsimp only); refine hK _ _ ?_; clear hK K; (try simp only [Act.put, Zs, Zz, Zc])
  replace b0 := b0.ext hx
  replace b1 := b1.ext hx
  replace b2 := b2.ext hx
  replace b3 := b3.ext hx
  replace hl := isT.ext hx hl
  replace hr := isT.ext hx hr
  replace hm3 := Nat.le_trans hm3 hx.below.size
  replace hE := hE.trans hx
  clear hx
  replace qz : r3 < W2.heap.size := b3.lt
  refine wpList_plain rfl (fun K hK => ?_)
  refine wp_store_box 28 _ _ (by rfl) b3 (by rfl) (by rfl) (by exact Try.infoT) (by first | exact RV.one _ | exact TV.one _ rfl | exact TV.one _ (isT.one hl) | exact TV.one _ (isT.one hr) | exact TV.one _ (isT.one t1)) (by rfl) (fun W3 hg bn => ?_)
  replace b0 := b0.kept hg (Zn (by omega))
  replace b1 := b1.kept hg (Zn (by omega))
  replace b2 := b2.kept hg (Zn (by omega))
  replace hl := isT.kept hg (Lw.not (by omega)) hl
  replace hr := isT.kept hg (Lw.not (by omega)) hr
  replace hm3 := Nat.le_trans hm3 hg.size
  replace t1 := isT.kept hg (Lo.not (by omega) (by omega)) t1
  replace hE := ext_grow hE hg (fun q hq => by cases hq; omega)
  clear b3 hg
  have b3 := bn
  clear bn
  (try dsimp only); refine hK _ _ ?_; clear hK K; (try simp only [Act.put, Zs, Zz, Zc])
  replace qz : r3 < W3.heap.size := b3.lt
  refine wpList_nil ?_
  go_wp2_with fail
  exact bodyPost_ret (res_c rfl (GivesC.of b3 rfl Try.underlying28 rfl Try.infoT)) rfl ⟨v1, rfl, t1.hi, hE⟩

set_option maxRecDepth 100000 in
set_option maxHeartbeats 4000000 in
theorem rbal_L {A : Nat → Prop} (a : PT) (y : RV) (b : PT) (x : RV) (r : PT) (vl vr : TV) (w : World) (hA : Up A w) (hl : isT A w (PT.N a y b).bt vl) (hr : isT A w (r).bt vr) (hvx : vld x) (bl : bd (PT.N a y b)) (br : bd (r)) (h9 : (PT.N a y b).ht ≤ 900 ∧ (r).ht ≤ 900) (c1 : r.ht + 1 < (PT.N a y b).ht) (J : PT) (hJ : Hid (J = joinP (PT.N a y b) x r)) :
    Calls Try.prog 56 #[.agg vl.cs.toArray, .agg x.cs.toArray, .agg vr.cs.toArray] w fun e w' => ∃ v, e = .returned (.agg v.cs.toArray) ∧ isT A w' (J).bt v ∧ Ext w w' := by
  have hn : a.ht ≤ 900 ∧ b.ht ≤ 900 ∧ r.ht ≤ 900 := by have h1 := h9.1; have h2 := h9.2; have := PT.ht_nn a; have := PT.ht_nn b; simp only [PT.ht] at h1; omega
  have c1h := hid_mk0 c1
  obtain ⟨nl1, -, -, -⟩ := isP_num hl
  obtain ⟨nr1, -, -, -⟩ := isP_num hr
  have hl9 : vl.h ≤ 900 := by omega
  have hr9 : vr.h ≤ 900 := by omega
  have hl0 : 0 ≤ vl.h := by have := PT.ht_nn (PT.N a y b); omega
  have hr0 : 0 ≤ vr.h := by have := PT.ht_nn (r); omega
  replace hl := isT.lw hl
  replace hr := isT.lw hr
  replace c1 : vr.h + 1 < vl.h := by omega
  clear h9
  obtain ⟨-, -, -, -, xx, -, gb1, og1, cc1, pa, pb, hk1, hc1, hg1, -, hra1, hrb1, tpa, tpb⟩ := hl
  obtain ⟨ah1, af1, al1, ag1, ax1, ak1⟩ := vl
  dsimp only at *
  subst ax1 hk1
  have hcI1 : (2 : Int) ≤ (cc1 : Int) := by omega
  have hgw1 := hg1
  have na := hid_mk0 (isP_num tpa).1
  have nb := hid_mk0 (isP_num tpb).1
  have na0 : 0 ≤ pa.h := by rw [na.out]; exact PT.ht_nn _
  have nb0 : 0 ≤ pb.h := by rw [nb.out]; exact PT.ht_nn _
  clear nl1 nr1
  go_enter Try.func56, Try.ntmps56
  go_upto_region 1 with fail
  refine name_wX (fun W1 hW => ?_)
  have hE : Ext w W1 := by rw [hW]; repeat' (first | exact Ext.refl _ | apply Ext.al)
  have b0 : Blk W1 (w.heap.size) 28 (TV.cs ⟨ah1, af1, al1, ag1, y, .slice (some ⟨gb1, og1, none⟩) 2 cc1⟩) := by rw [hW]; exact (((Blk.newAt rfl).alloc _).alloc _).alloc _
  have b1 : Blk W1 (w.heap.size + 1) 25 x.cs := by rw [hW]; exact ((Blk.newAt (by simp)).alloc _).alloc _
  have b2 : Blk W1 (w.heap.size + 1 + 1) 28 vr.cs := by rw [hW]; exact (Blk.newAt (by simp)).alloc _
  have b3 : Blk W1 (w.heap.size + 1 + 1 + 1) 28 TV.z.cs := by rw [hW]; exact Blk.newAt (by simp)
  clear hW
  obtain ⟨r3, hr3⟩ : ∃ r, r = w.heap.size + 1 + 1 + 1 := ⟨_, rfl⟩
  rw [← hr3] at b3
  try rw [← hr3]
  obtain ⟨r2, hr2⟩ : ∃ r, r = w.heap.size + 1 + 1 := ⟨_, rfl⟩
  rw [← hr2] at b2
  try rw [← hr2]
  obtain ⟨r1, hr1⟩ : ∃ r, r = w.heap.size + 1 := ⟨_, rfl⟩
  rw [← hr1] at b1
  try rw [← hr1]
  obtain ⟨r0, hr0⟩ : ∃ r, r = w.heap.size := ⟨_, rfl⟩
  rw [← hr0] at b0
  try rw [← hr0]
  have q0 : w.heap.size ≤ r0 := by omega
  have q1 : r0 < r1 := by omega
  have q2 : r1 < r2 := by omega
  have q3 : r2 < r3 := by omega
  clear hr0 hr1 hr2 hr3
  have qz : r3 < W1.heap.size := b3.lt
  replace hr := isT.ext hE hr
  replace tpa := isT.ext hE tpa
  replace tpb := isT.ext hE tpb
  replace hra1 := rangeAt.ext hra1 hg1 hE
  replace hrb1 := rangeAt.ext hrb1 hg1 hE
  replace hg1 := Nat.lt_of_lt_of_le hg1 hE.below.size
  go_upto_region 1 with fail
  refine wp_region_lit ?_
  have zc0 := b0.cell 0; have zc1 := b2.cell 0
  iterate 6 (refine wpList_plain rfl (fun K hK => ?_); go_simp; (try simp (disch := omega) only [Yq, Yr]); (try dsimp only); refine hK _ _ ?_; clear hK K; (try simp only [Act.put, Zs, Zz, Zc]))
  clear zc0 zc1
  refine wpList_nil ?_
  go_upto_region 2 with fail
  have ya1 := hra1
  have yb1 := hrb1
  have yg1 := hg1
  go_cut [7, 8] (fun sva svb wc => ∃ sra srb : Nat, sva = .pointer (some ⟨sra, 0, none⟩) ∧ svb = .pointer (some ⟨srb, 0, none⟩) ∧ r3 < sra ∧ r3 < srb ∧ sra ≠ srb ∧ Blk wc sra 28 pa.cs ∧ Blk wc srb 28 pb.cs ∧ Ext W1 wc)
  case first =>
    have hEz : Ext W1 W1 := Ext.refl _
    have x0 := b0
    have x1 := b1
    have x2 := b2
    have x3 := b3
    obtain ⟨mX, hmX⟩ : ∃ m, m = W1.heap.size := ⟨_, rfl⟩
    have hS : GrownX W1 [] W1 := GrownX.refl _ _
    refine wp_region_S (GrownX W1 []) (by kernel_rfl) ?_
    refine name_wd (fun W2 hW => ?_)
    have hx : Ext W1 W2 := by rw [hW]; exact ext_drew _
    clear hW
    replace hS := hS.ext hx
    replace b0 := b0.ext hx
    replace b1 := b1.ext hx
    replace b2 := b2.ext hx
    replace b3 := b3.ext hx
    replace hr := isT.ext hx hr
    replace tpa := isT.ext hx tpa
    replace tpb := isT.ext hx tpb
    replace hra1 := rangeAt.ext hra1 hg1 hx
    replace hrb1 := rangeAt.ext hrb1 hg1 hx
    replace hg1 := Nat.lt_of_lt_of_le hg1 hx.below.size
    replace hEz := hEz.trans hx
    replace hE := hE.trans hx
    clear hx
    replace qz : r3 < W2.heap.size := b3.lt
    refine wpAnyD_takeSL (i := 0) rfl (by kernel_rfl) (fun _ _ _ _ h => h) hS ?_
    apply Exists.intro
    refine ⟨Or.inl ⟨by rfl, ?_⟩, ?_⟩
    (focus (intro wz hz; go_simp; (try with_reducible rfl); done))
    (try simp only [Act.put, Zs, Zz, Zc])
    refine wpAnyD_takeSL (i := 1) rfl (by kernel_rfl) (fun _ _ _ _ h => h) hS ?_
    apply Exists.intro
    refine ⟨Or.inl ⟨by rfl, ?_⟩, ?_⟩
    (focus (intro wz hz; have zc := (GrownX.blk hz x0 (by first | decide | (simp; done) | (simp; omega) | omega)).cell 10; go_simp; (try with_reducible rfl); done))
    (try simp only [Act.put, Zs, Zz, Zc])
    refine wpAnyD_takeSL (i := 2) rfl (by kernel_rfl) (fun _ _ _ _ h => h) hS ?_
    apply Exists.intro
    refine ⟨Or.inl ⟨by rfl, ?_⟩, ?_⟩
    (focus (intro wz hz; go_simp; (try with_reducible rfl); done))
    (try simp only [Act.put, Zs, Zz, Zc])
    refine wpAnyD_takeSL (i := 3) rfl (by kernel_rfl) (fun _ _ _ _ h => h) hS ?_
    apply Exists.intro
    refine ⟨Or.inl ⟨by rfl, ?_⟩, ?_⟩
    (focus (intro wz hz; (first | exact exec_ld 28 _ rfl rfl (GrownX.range hz (ya1) (yg1) (by first | decide | (simp; done) | (simp; omega) | omega)) Try.underlying28 rfl (by exact Try.infoT) | exact exec_ld 28 _ rfl rfl (GrownX.range hz (yb1) (yg1) (by first | decide | (simp; done) | (simp; omega) | omega)) Try.underlying28 rfl (by exact Try.infoT))))
    (try simp only [Act.put, Zs, Zz, Zc])
    refine wpAnyD_takeSL (i := 4) rfl (by kernel_rfl) (fun _ _ _ _ h => h) hS ?_
    apply Exists.intro
    refine ⟨Or.inl ⟨by rfl, ?_⟩, ?_⟩
    (focus (intro wz hz; go_simp; (try with_reducible rfl); done))
    (try simp only [Act.put, Zs, Zz, Zc])
    refine wpAnyD_takeSL (i := 5) rfl (by kernel_rfl) (fun _ _ _ _ h => h) hS ?_
    apply Exists.intro
    refine ⟨Or.inl ⟨by rfl, ?_⟩, ?_⟩
    (focus (intro wz hz; have zc := (GrownX.blk hz x0 (by first | decide | (simp; done) | (simp; omega) | omega)).cell 10; go_simp; (try with_reducible rfl); done))
    (try simp only [Act.put, Zs, Zz, Zc])
    refine wpAnyD_takeSL (i := 6) rfl (by kernel_rfl) (fun _ _ _ _ h => h) hS ?_
    apply Exists.intro
    refine ⟨Or.inl ⟨by rfl, ?_⟩, ?_⟩
    (focus (intro wz hz; go_simp; (try with_reducible rfl); done))
    (try simp only [Act.put, Zs, Zz, Zc])
    refine wpAnyD_takeSL (i := 7) rfl (by kernel_rfl) (fun _ _ _ _ h => h) hS ?_
    apply Exists.intro
    refine ⟨Or.inl ⟨by rfl, ?_⟩, ?_⟩
    (focus (intro wz hz; (first | exact exec_ld 28 _ rfl rfl (GrownX.range hz (ya1) (yg1) (by first | decide | (simp; done) | (simp; omega) | omega)) Try.underlying28 rfl (by exact Try.infoT) | exact exec_ld 28 _ rfl rfl (GrownX.range hz (yb1) (yg1) (by first | decide | (simp; done) | (simp; omega) | omega)) Try.underlying28 rfl (by exact Try.infoT))))
    (try simp only [Act.put, Zs, Zz, Zc])
    refine wpAnyD_many [8, 9] (by kernel_rfl) (by simp) (AllD_consL rfl (fun K hK => ?_) (AllD_consL rfl (fun K hK => ?_) AllD_nil))
    · rw [if_pos (by rfl)]
      have qb : mX ≤ W2.heap.size := (by rw [hmX]; exact hS.size)
      go_simp
      (try dsimp only); refine hK.out _ _ (fun _ => hS.ext (ext_alloc _ _)) ?_; clear hK K; (try simp only [Act.put, Zs, Zz, Zc])
      refine name_wd (fun W33 hW => ?_)
      have hx : Ext W2 W33 := by rw [hW]; exact ext_alloc _ _
      have b4 : Blk W33 W2.heap.size 28 TV.z.cs := by rw [hW]; exact Blk.newAt rfl
      clear hW
      replace hS := hS.ext hx
      replace b0 := b0.ext hx
      replace b1 := b1.ext hx
      replace b2 := b2.ext hx
      replace b3 := b3.ext hx
      replace hr := isT.ext hx hr
      replace tpa := isT.ext hx tpa
      replace tpb := isT.ext hx tpb
      replace hra1 := rangeAt.ext hra1 hg1 hx
      replace hrb1 := rangeAt.ext hrb1 hg1 hx
      replace hg1 := Nat.lt_of_lt_of_le hg1 hx.below.size
      replace hEz := hEz.trans hx
      replace hE := hE.trans hx
      clear hx
      obtain ⟨r4, hr⟩ : ∃ r, r = W2.heap.size := ⟨_, rfl⟩
      rw [← hr] at b4
      try rw [← hr]
      have q4 : r3 < r4 := by omega
      have qb4 : mX ≤ r4 := by omega
      clear hr
      replace qz : r4 < W33.heap.size := b4.lt
      refine wpAnyD_oneL (i := 9) rfl (by kernel_rfl) (fun K hK => ?_)
      rw [if_pos (by rfl)]
      have qb : mX ≤ W33.heap.size := (by rw [hmX]; exact hS.size)
      go_simp
      (try dsimp only); refine hK.out _ _ (fun _ => hS.ext (ext_alloc _ _)) ?_; clear hK K; (try simp only [Act.put, Zs, Zz, Zc])
      refine name_wd (fun W34 hW => ?_)
      have hx : Ext W33 W34 := by rw [hW]; exact ext_alloc _ _
      have b5 : Blk W34 W33.heap.size 28 TV.z.cs := by rw [hW]; exact Blk.newAt rfl
      clear hW
      replace hS := hS.ext hx
      replace b0 := b0.ext hx
      replace b1 := b1.ext hx
      replace b2 := b2.ext hx
      replace b3 := b3.ext hx
      replace b4 := b4.ext hx
      replace hr := isT.ext hx hr
      replace tpa := isT.ext hx tpa
      replace tpb := isT.ext hx tpb
      replace hra1 := rangeAt.ext hra1 hg1 hx
      replace hrb1 := rangeAt.ext hrb1 hg1 hx
      replace hg1 := Nat.lt_of_lt_of_le hg1 hx.below.size
      replace hEz := hEz.trans hx
      replace hE := hE.trans hx
      clear hx
      obtain ⟨r5, hr⟩ : ∃ r, r = W33.heap.size := ⟨_, rfl⟩
      rw [← hr] at b5
      try rw [← hr]
      have q5 : r4 < r5 := by omega
      have qb5 : mX ≤ r5 := by omega
      clear hr
      replace qz : r5 < W34.heap.size := b5.lt
      refine wpAnyD_oneL (i := 10) rfl (by kernel_rfl) (fun K hK => ?_)
      rw [if_pos (by rfl)]
      refine wp_store_box 28 _ _ (by rfl) b4 (by rfl) (by rfl) (by exact Try.infoT) (by first | exact RV.one _ | exact TV.one _ rfl | exact TV.one _ (isT.one hr) | exact TV.one _ (isT.one tpa) | exact TV.one _ (isT.one tpb)) (by rfl) (fun W35 hg bn => ?_)
      replace b0 := b0.kept hg (Zn (by omega))
      replace b1 := b1.kept hg (Zn (by omega))
      replace b2 := b2.kept hg (Zn (by omega))
      replace b3 := b3.kept hg (Zn (by omega))
      replace b5 := b5.kept hg (Zn (by omega))
      replace hr := isT.kept hg (Lw.not (by omega)) hr
      replace tpa := isT.kept hg (Lw.not (by omega)) tpa
      replace tpb := isT.kept hg (Lw.not (by omega)) tpb
      replace hra1 := rangeAt.kept hra1 hg1 hg (Zn (by omega))
      replace hrb1 := rangeAt.kept hrb1 hg1 hg (Zn (by omega))
      replace hg1 := Nat.lt_of_lt_of_le hg1 hg.size
      replace hEz := ext_grow hEz hg (fun q hq => by cases hq; omega)
      replace hE := ext_grow hE hg (fun q hq => by cases hq; omega)
      replace hS := hS.stepNew hg (by omega)
      clear b4 hg
      have b4 := bn
      clear bn
      (try dsimp only); refine hK.out _ _ (fun _ => hS) ?_; clear hK K; (try simp only [Act.put, Zs, Zz, Zc])
      replace qz : r5 < W35.heap.size := b5.lt
      refine wpAnyD_oneL (i := 11) rfl (by kernel_rfl) (fun K hK => ?_)
      rw [if_pos (by rfl)]
      refine wp_store_box 28 _ _ (by rfl) b5 (by rfl) (by rfl) (by exact Try.infoT) (by first | exact RV.one _ | exact TV.one _ rfl | exact TV.one _ (isT.one hr) | exact TV.one _ (isT.one tpa) | exact TV.one _ (isT.one tpb)) (by rfl) (fun W36 hg bn => ?_)
      replace b0 := b0.kept hg (Zn (by omega))
      replace b1 := b1.kept hg (Zn (by omega))
      replace b2 := b2.kept hg (Zn (by omega))
      replace b3 := b3.kept hg (Zn (by omega))
      replace b4 := b4.kept hg (Zn (by omega))
      replace hr := isT.kept hg (Lw.not (by omega)) hr
      replace tpa := isT.kept hg (Lw.not (by omega)) tpa
      replace tpb := isT.kept hg (Lw.not (by omega)) tpb
      replace hra1 := rangeAt.kept hra1 hg1 hg (Zn (by omega))
      replace hrb1 := rangeAt.kept hrb1 hg1 hg (Zn (by omega))
      replace hg1 := Nat.lt_of_lt_of_le hg1 hg.size
      replace hEz := ext_grow hEz hg (fun q hq => by cases hq; omega)
      replace hE := ext_grow hE hg (fun q hq => by cases hq; omega)
      replace hS := hS.stepNew hg (by omega)
      clear b5 hg
      have b5 := bn
      clear bn
      (try dsimp only); refine hK.out _ _ (fun _ => hS) ?_; clear hK K; (try simp only [Act.put, Zs, Zz, Zc])
      replace qz : r5 < W36.heap.size := b5.lt
      refine wpAnyD_done (by kernel_rfl) ?_ _
      clear hS hmX x0 x1 x2 x3
      simp only [Exit.then]; go_step; go_meet
      exact ⟨r4, r5, rfl, rfl, by omega, by omega, by omega, b4, b5, hEz⟩
    · rw [if_pos (by rfl)]
      have qb : mX ≤ W2.heap.size := (by rw [hmX]; exact hS.size)
      go_simp
      (try dsimp only); refine hK.out _ _ (fun _ => hS.ext (ext_alloc _ _)) ?_; clear hK K; (try simp only [Act.put, Zs, Zz, Zc])
      refine name_wd (fun W63 hW => ?_)
      have hx : Ext W2 W63 := by rw [hW]; exact ext_alloc _ _
      have b4 : Blk W63 W2.heap.size 28 TV.z.cs := by rw [hW]; exact Blk.newAt rfl
      clear hW
      replace hS := hS.ext hx
      replace b0 := b0.ext hx
      replace b1 := b1.ext hx
      replace b2 := b2.ext hx
      replace b3 := b3.ext hx
      replace hr := isT.ext hx hr
      replace tpa := isT.ext hx tpa
      replace tpb := isT.ext hx tpb
      replace hra1 := rangeAt.ext hra1 hg1 hx
      replace hrb1 := rangeAt.ext hrb1 hg1 hx
      replace hg1 := Nat.lt_of_lt_of_le hg1 hx.below.size
      replace hEz := hEz.trans hx
      replace hE := hE.trans hx
      clear hx
      obtain ⟨r4, hr⟩ : ∃ r, r = W2.heap.size := ⟨_, rfl⟩
      rw [← hr] at b4
      try rw [← hr]
      have q4 : r3 < r4 := by omega
      have qb4 : mX ≤ r4 := by omega
      clear hr
      replace qz : r4 < W63.heap.size := b4.lt
      refine wpAnyD_oneL (i := 8) rfl (by kernel_rfl) (fun K hK => ?_)
      rw [if_pos (by rfl)]
      have qb : mX ≤ W63.heap.size := (by rw [hmX]; exact hS.size)
      go_simp
      (try dsimp only); refine hK.out _ _ (fun _ => hS.ext (ext_alloc _ _)) ?_; clear hK K; (try simp only [Act.put, Zs, Zz, Zc])
      refine name_wd (fun W64 hW => ?_)
      have hx : Ext W63 W64 := by rw [hW]; exact ext_alloc _ _
      have b5 : Blk W64 W63.heap.size 28 TV.z.cs := by rw [hW]; exact Blk.newAt rfl
      clear hW
      replace hS := hS.ext hx
      replace b0 := b0.ext hx
      replace b1 := b1.ext hx
      replace b2 := b2.ext hx
      replace b3 := b3.ext hx
      replace b4 := b4.ext hx
      replace hr := isT.ext hx hr
      replace tpa := isT.ext hx tpa
      replace tpb := isT.ext hx tpb
      replace hra1 := rangeAt.ext hra1 hg1 hx
      replace hrb1 := rangeAt.ext hrb1 hg1 hx
      replace hg1 := Nat.lt_of_lt_of_le hg1 hx.below.size
      replace hEz := hEz.trans hx
      replace hE := hE.trans hx
      clear hx
      obtain ⟨r5, hr⟩ : ∃ r, r = W63.heap.size := ⟨_, rfl⟩
      rw [← hr] at b5
      try rw [← hr]
      have q5 : r4 < r5 := by omega
      have qb5 : mX ≤ r5 := by omega
      clear hr
      replace qz : r5 < W64.heap.size := b5.lt
      refine wpAnyD_oneL (i := 10) rfl (by kernel_rfl) (fun K hK => ?_)
      rw [if_pos (by rfl)]
      refine wp_store_box 28 _ _ (by rfl) b5 (by rfl) (by rfl) (by exact Try.infoT) (by first | exact RV.one _ | exact TV.one _ rfl | exact TV.one _ (isT.one hr) | exact TV.one _ (isT.one tpa) | exact TV.one _ (isT.one tpb)) (by rfl) (fun W65 hg bn => ?_)
      replace b0 := b0.kept hg (Zn (by omega))
      replace b1 := b1.kept hg (Zn (by omega))
      replace b2 := b2.kept hg (Zn (by omega))
      replace b3 := b3.kept hg (Zn (by omega))
      replace b4 := b4.kept hg (Zn (by omega))
      replace hr := isT.kept hg (Lw.not (by omega)) hr
      replace tpa := isT.kept hg (Lw.not (by omega)) tpa
      replace tpb := isT.kept hg (Lw.not (by omega)) tpb
      replace hra1 := rangeAt.kept hra1 hg1 hg (Zn (by omega))
      replace hrb1 := rangeAt.kept hrb1 hg1 hg (Zn (by omega))
      replace hg1 := Nat.lt_of_lt_of_le hg1 hg.size
      replace hEz := ext_grow hEz hg (fun q hq => by cases hq; omega)
      replace hE := ext_grow hE hg (fun q hq => by cases hq; omega)
      replace hS := hS.stepNew hg (by omega)
      clear b5 hg
      have b5 := bn
      clear bn
      (try dsimp only); refine hK.out _ _ (fun _ => hS) ?_; clear hK K; (try simp only [Act.put, Zs, Zz, Zc])
      replace qz : r5 < W65.heap.size := b5.lt
      refine wpAnyD_oneL (i := 11) rfl (by kernel_rfl) (fun K hK => ?_)
      rw [if_pos (by rfl)]
      refine wp_store_box 28 _ _ (by rfl) b4 (by rfl) (by rfl) (by exact Try.infoT) (by first | exact RV.one _ | exact TV.one _ rfl | exact TV.one _ (isT.one hr) | exact TV.one _ (isT.one tpa) | exact TV.one _ (isT.one tpb)) (by rfl) (fun W66 hg bn => ?_)
      replace b0 := b0.kept hg (Zn (by omega))
      replace b1 := b1.kept hg (Zn (by omega))
      replace b2 := b2.kept hg (Zn (by omega))
      replace b3 := b3.kept hg (Zn (by omega))
      replace b5 := b5.kept hg (Zn (by omega))
      replace hr := isT.kept hg (Lw.not (by omega)) hr
      replace tpa := isT.kept hg (Lw.not (by omega)) tpa
      replace tpb := isT.kept hg (Lw.not (by omega)) tpb
      replace hra1 := rangeAt.kept hra1 hg1 hg (Zn (by omega))
      replace hrb1 := rangeAt.kept hrb1 hg1 hg (Zn (by omega))
      replace hg1 := Nat.lt_of_lt_of_le hg1 hg.size
      replace hEz := ext_grow hEz hg (fun q hq => by cases hq; omega)
      replace hE := ext_grow hE hg (fun q hq => by cases hq; omega)
      replace hS := hS.stepNew hg (by omega)
      clear b4 hg
      have b4 := bn
      clear bn
      (try dsimp only); refine hK.out _ _ (fun _ => hS) ?_; clear hK K; (try simp only [Act.put, Zs, Zz, Zc])
      replace qz : r5 < W66.heap.size := b5.lt
      refine wpAnyD_done (by kernel_rfl) ?_ _
      clear hS hmX x0 x1 x2 x3
      simp only [Exit.then]; go_step; go_meet
      exact ⟨r5, r4, rfl, rfl, by omega, by omega, by omega, b5, b4, hEz⟩
  obtain ⟨r4, r5, rfl, rfl, q4x, q5x, qne4, b4, b5, hx⟩ := hcut
  obtain ⟨W2, rfl⟩ : ∃ W, W = wc := ⟨_, rfl⟩
  replace b0 := b0.ext hx
  replace b1 := b1.ext hx
  replace b2 := b2.ext hx
  replace b3 := b3.ext hx
  replace hr := isT.ext hx hr
  replace tpa := isT.ext hx tpa
  replace tpb := isT.ext hx tpb
  replace hra1 := rangeAt.ext hra1 hg1 hx
  replace hrb1 := rangeAt.ext hrb1 hg1 hx
  replace hg1 := Nat.lt_of_lt_of_le hg1 hx.below.size
  replace hE := hE.trans hx
  clear hx
  replace qz : r3 < W2.heap.size := b3.lt
  replace qz : r5 < W2.heap.size := b5.lt
  have qz4 : r4 < W2.heap.size := b4.lt
  clear ya1 yb1 yg1 hra1 hrb1 hg1
  go_upto_region 3 with fail
  by_cases c2 : b.ht ≤ a.ht
  · have hR : joinP (PT.N a y b) x r = .N a y (.N b x r) := by unfold joinP; rw [if_pos c1h.out]; dsimp only; rw [if_pos c2]
    replace hR : Hid _ := hR
    have c2v : pb.h ≤ pa.h := by rw [na.out, nb.out]; exact c2
    replace c2 : Hid _ := c2
    refine wp_region_lit ?_
    have zc0 := b4.cell 0; have zc1 := b5.cell 0
    iterate 5 (refine wpList_plain rfl (fun K hK => ?_); go_simp; (try dsimp only); refine hK _ _ ?_; clear hK K; (try simp only [Act.put, Zs, Zz, Zc]))
    clear zc0 zc1
    refine wpList_nil ?_
    go_upto_region 4 with fail
    obtain ⟨m, hm, hm2⟩ : ∃ m, r5 < m ∧ m = W2.heap.size := ⟨_, qz, rfl⟩
    have hm3 : m ≤ W2.heap.size := by omega
    have hm_4 : r4 < m := by omega
    clear hm2
    have x0 := b0
    have x1 := b1
    have x2 := b2
    have x3 := b3
    have x4 := b4
    have x5 := b5
    have hS : GrownX W2 [r3] W2 := GrownX.refl _ _
    refine wp_region_S (GrownX W2 [r3]) (by kernel_rfl) ?_
    refine name_wd (fun W301 hW => ?_)
    have hx : Ext W2 W301 := by rw [hW]; exact ext_drew _
    clear hW
    replace hS := hS.ext hx
    replace b0 := b0.ext hx
    replace b1 := b1.ext hx
    replace b2 := b2.ext hx
    replace b3 := b3.ext hx
    replace b4 := b4.ext hx
    replace b5 := b5.ext hx
    replace hr := isT.ext hx hr
    replace tpa := isT.ext hx tpa
    replace tpb := isT.ext hx tpb
    replace hm3 := Nat.le_trans hm3 hx.below.size
    replace hE := hE.trans hx
    clear hx
    replace qz : r5 < W301.heap.size := b5.lt
    replace qz4 : r4 < W301.heap.size := b4.lt
    refine wpAnyD_takeSL (i := 0) rfl (by kernel_rfl) (fun _ _ _ _ h => h) hS ?_
    apply Exists.intro
    refine ⟨Or.inl ⟨by rfl, ?_⟩, ?_⟩
    (focus (intro wz hz; (first | exact exec_ld 28 _ rfl rfl ((GrownX.blk hz x4 (by first | decide | (simp; done) | (simp; omega) | omega)).range) Try.underlying28 rfl (by exact Try.infoT))))
    (try simp only [Act.put, Zs, Zz, Zc])
    refine wpAnyD_takeSL (i := 1) rfl (by kernel_rfl) (fun _ _ _ _ h => h) hS ?_
    apply Exists.intro
    refine ⟨Or.inl ⟨by rfl, ?_⟩, ?_⟩
    (focus (intro wz hz; go_simp; (try with_reducible rfl); done))
    (try simp only [Act.put, Zs, Zz, Zc])
    refine wpAnyD_takeSL (i := 2) rfl (by kernel_rfl) (fun _ _ _ _ h => h) hS ?_
    apply Exists.intro
    refine ⟨Or.inl ⟨by rfl, ?_⟩, ?_⟩
    (focus (intro wz hz; (first | exact exec_ld 25 _ rfl rfl (Blk.rgn (GrownX.blk hz x0 (by first | decide | (simp; done) | (simp; omega) | omega))) Try.underlying25 rfl (by exact Try.infoR))))
    (try simp only [Act.put, Zs, Zz, Zc])
    refine wpAnyD_takeSL (i := 3) rfl (by kernel_rfl) (fun _ _ _ _ h => h) hS ?_
    apply Exists.intro
    refine ⟨Or.inl ⟨by rfl, ?_⟩, ?_⟩
    (focus (intro wz hz; (first | exact exec_ld 28 _ rfl rfl ((GrownX.blk hz x5 (by first | decide | (simp; done) | (simp; omega) | omega)).range) Try.underlying28 rfl (by exact Try.infoT))))
    (try simp only [Act.put, Zs, Zz, Zc])
    refine wpAnyD_takeSL (i := 4) rfl (by kernel_rfl) (fun _ _ _ _ h => h) hS ?_
    apply Exists.intro
    refine ⟨Or.inl ⟨by rfl, ?_⟩, ?_⟩
    (focus (intro wz hz; (first | exact exec_ld 25 _ rfl rfl ((GrownX.blk hz x1 (by first | decide | (simp; done) | (simp; omega) | omega)).range) Try.underlying25 rfl (by exact Try.infoR))))
    (try simp only [Act.put, Zs, Zz, Zc])
    refine wpAnyD_takeSL (i := 5) rfl (by kernel_rfl) (fun _ _ _ _ h => h) hS ?_
    apply Exists.intro
    refine ⟨Or.inl ⟨by rfl, ?_⟩, ?_⟩
    (focus (intro wz hz; (first | exact exec_ld 28 _ rfl rfl ((GrownX.blk hz x2 (by first | decide | (simp; done) | (simp; omega) | omega)).range) Try.underlying28 rfl (by exact Try.infoT))))
    (try simp only [Act.put, Zs, Zz, Zc])
    refine wpAnyD_oneL (i := 6) rfl (by kernel_rfl) (fun K hK => ?_)
    rw [if_pos (by rfl)]
    go_simp
    (go_at_call 55; refine (rnode_P (A := Lo A w.heap.size m) (b) x (r) _ _ _ (Up.lo hA hE hm3) tpb.up hr.up hvx (bd_node bl).2.2 br).mono ?_; intro e W302 hpp; obtain ⟨v1, rfl, t1, hx⟩ := hpp)
    replace hS := hS.ext hx; (try dsimp only); refine hK.out _ _ (fun _ => hS) ?_; clear hK K; (try simp only [Act.put, Zs, Zz, Zc])
    replace b0 := b0.ext hx
    replace b1 := b1.ext hx
    replace b2 := b2.ext hx
    replace b3 := b3.ext hx
    replace b4 := b4.ext hx
    replace b5 := b5.ext hx
    replace hr := isT.ext hx hr
    replace tpa := isT.ext hx tpa
    replace tpb := isT.ext hx tpb
    replace hm3 := Nat.le_trans hm3 hx.below.size
    replace hE := hE.trans hx
    clear hx
    replace qz : r5 < W302.heap.size := b5.lt
    replace qz4 : r4 < W302.heap.size := b4.lt
    refine wpAnyD_oneL (i := 7) rfl (by kernel_rfl) (fun K hK => ?_)
    rw [if_pos (by rfl)]
    go_simp
    (go_at_call 55; refine (rnode_P (A := Lo A w.heap.size m) (a) y (PT.N b x r) _ _ _ (Up.lo hA hE hm3) tpa.up t1 (bd_node bl).2.1 (bd_node bl).1 (bd_mk (bd_node bl).2.2 hvx br ⟨by omega, by omega⟩)).mono ?_; intro e W303 hpp; obtain ⟨v2, rfl, t2, hx⟩ := hpp)
    replace hS := hS.ext hx; (try dsimp only); refine hK.out _ _ (fun _ => hS) ?_; clear hK K; (try simp only [Act.put, Zs, Zz, Zc])
    replace b0 := b0.ext hx
    replace b1 := b1.ext hx
    replace b2 := b2.ext hx
    replace b3 := b3.ext hx
    replace b4 := b4.ext hx
    replace b5 := b5.ext hx
    replace hr := isT.ext hx hr
    replace tpa := isT.ext hx tpa
    replace tpb := isT.ext hx tpb
    replace hm3 := Nat.le_trans hm3 hx.below.size
    replace t1 := isT.ext hx t1
    replace hE := hE.trans hx
    clear hx
    replace qz : r5 < W303.heap.size := b5.lt
    replace qz4 : r4 < W303.heap.size := b4.lt
    refine wpAnyD_oneL (i := 8) rfl (by kernel_rfl) (fun K hK => ?_)
    rw [if_pos (by rfl)]
    refine wp_store_box 28 _ _ (by rfl) b3 (by rfl) (by rfl) (by exact Try.infoT) (by first | exact RV.one _ | exact TV.one _ rfl | exact TV.one _ (isT.one hr) | exact TV.one _ (isT.one tpa) | exact TV.one _ (isT.one tpb) | exact TV.one _ (isT.one t1) | exact TV.one _ (isT.one t2)) (by rfl) (fun W304 hg bn => ?_)
    replace b0 := b0.kept hg (Zn (by omega))
    replace b1 := b1.kept hg (Zn (by omega))
    replace b2 := b2.kept hg (Zn (by omega))
    replace b4 := b4.kept hg (Zn (by omega))
    replace b5 := b5.kept hg (Zn (by omega))
    replace hr := isT.kept hg (Lw.not (by omega)) hr
    replace tpa := isT.kept hg (Lw.not (by omega)) tpa
    replace tpb := isT.kept hg (Lw.not (by omega)) tpb
    replace hm3 := Nat.le_trans hm3 hg.size
    replace t1 := isT.kept hg (Lo.not (by omega) (by omega)) t1
    replace t2 := isT.kept hg (Lo.not (by omega) (by omega)) t2
    replace hE := ext_grow hE hg (fun q hq => by cases hq; omega)
    replace hS := hS.step hg (by first | decide | (simp; done) | (simp; omega) | omega)
    clear b3 hg
    have b3 := bn
    clear bn
    (try dsimp only); refine hK.out _ _ (fun _ => hS) ?_; clear hK K; (try simp only [Act.put, Zs, Zz, Zc])
    replace qz : r5 < W304.heap.size := b5.lt
    replace qz4 : r4 < W304.heap.size := b4.lt
    refine wpAnyD_done (by kernel_rfl) ?_ _
    clear hS x0 x1 x2 x3 x4 x5
    go_wp2_with fail
    exact bodyPost_ret (res_c rfl (GivesC.of b3 rfl Try.underlying28 rfl Try.infoT)) rfl ⟨v2, rfl, by rw [hJ.out, hR.out]; exact t2.hi, hE⟩
  · have c2v : ¬ pb.h ≤ pa.h := by rw [na.out, nb.out]; exact c2
    replace na : Hid True := trivial
    replace nb : Hid True := trivial
    cases b with
    | E => exact absurd (PT.ht_nn a) c2
    | N c z d =>
      have hR : joinP (PT.N a y (.N c z d)) x r = .N (.N a y c) z (.N d x r) := by unfold joinP; rw [if_pos c1h.out]; dsimp only; rw [if_neg c2]
      replace hR : Hid _ := hR
      have hcd : c.ht ≤ 900 ∧ d.ht ≤ 900 := by have h1 := hn.2.1; have := PT.ht_nn c; have := PT.ht_nn d; simp only [PT.ht] at h1; omega
      replace c2 : Hid _ := c2
      obtain ⟨-, -, -, -, xx, -, gb2, og2, cc2, pc, pd, hk2, hc2, hg2, hAg, hra2, hrb2, tpc, tpd⟩ := tpb
      obtain ⟨ah2, af2, al2, ag2, ax2, ak2⟩ := pb
      dsimp only at xx hk2 nb0 c2v
      subst ax2 hk2
      have hcI2 : (2 : Int) ≤ (cc2 : Int) := by omega
      have hgw2 : gb2 < w.heap.size := hAg.2
      clear hAg
      refine wp_region_lit ?_
      have zc0 := b4.cell 0; have zc1 := b5.cell 0
      iterate 5 (refine wpList_plain rfl (fun K hK => ?_); go_simp; (try dsimp only); refine hK _ _ ?_; clear hK K; (try simp only [Act.put, Zs, Zz, Zc]))
      clear zc0 zc1
      refine wpList_nil ?_
      go_upto_region 5 with fail
      obtain ⟨m, hm, hm2⟩ : ∃ m, r5 < m ∧ m = W2.heap.size := ⟨_, qz, rfl⟩
      have hm3 : m ≤ W2.heap.size := by omega
      have hm_4 : r4 < m := by omega
      clear hm2
      have ya2 := hra2
      have yb2 := hrb2
      have yg2 := hg2
      have x0 := b0
      have x1 := b1
      have x2 := b2
      have x3 := b3
      have x4 := b4
      have x5 := b5
      have hS : GrownX W2 [r3] W2 := GrownX.refl _ _
      refine wp_region_S (GrownX W2 [r3]) (by kernel_rfl) ?_
      refine name_wd (fun W401 hW => ?_)
      have hx : Ext W2 W401 := by rw [hW]; exact ext_drew _
      clear hW
      replace hS := hS.ext hx
      replace b0 := b0.ext hx
      replace b1 := b1.ext hx
      replace b2 := b2.ext hx
      replace b3 := b3.ext hx
      replace b4 := b4.ext hx
      replace b5 := b5.ext hx
      replace hr := isT.ext hx hr
      replace tpa := isT.ext hx tpa
      replace tpc := isT.ext hx tpc
      replace tpd := isT.ext hx tpd
      replace hra2 := rangeAt.ext hra2 hg2 hx
      replace hrb2 := rangeAt.ext hrb2 hg2 hx
      replace hg2 := Nat.lt_of_lt_of_le hg2 hx.below.size
      replace hm3 := Nat.le_trans hm3 hx.below.size
      replace hE := hE.trans hx
      clear hx
      replace qz : r5 < W401.heap.size := b5.lt
      replace qz4 : r4 < W401.heap.size := b4.lt
      refine wpAnyD_takeSL (i := 0) rfl (by kernel_rfl) (fun _ _ _ _ h => h) hS ?_
      apply Exists.intro
      refine ⟨Or.inl ⟨by rfl, ?_⟩, ?_⟩
      (focus (intro wz hz; (first | exact exec_ld 28 _ rfl rfl ((GrownX.blk hz x4 (by first | decide | (simp; done) | (simp; omega) | omega)).range) Try.underlying28 rfl (by exact Try.infoT))))
      (try simp only [Act.put, Zs, Zz, Zc])
      refine wpAnyD_takeSL (i := 1) rfl (by kernel_rfl) (fun _ _ _ _ h => h) hS ?_
      apply Exists.intro
      refine ⟨Or.inl ⟨by rfl, ?_⟩, ?_⟩
      (focus (intro wz hz; go_simp; (try with_reducible rfl); done))
      (try simp only [Act.put, Zs, Zz, Zc])
      refine wpAnyD_takeSL (i := 2) rfl (by kernel_rfl) (fun _ _ _ _ h => h) hS ?_
      apply Exists.intro
      refine ⟨Or.inl ⟨by rfl, ?_⟩, ?_⟩
      (focus (intro wz hz; (first | exact exec_ld 25 _ rfl rfl (Blk.rgn (GrownX.blk hz x0 (by first | decide | (simp; done) | (simp; omega) | omega))) Try.underlying25 rfl (by exact Try.infoR))))
      (try simp only [Act.put, Zs, Zz, Zc])
      refine wpAnyD_takeSL (i := 3) rfl (by kernel_rfl) (fun _ _ _ _ h => h) hS ?_
      apply Exists.intro
      refine ⟨Or.inl ⟨by rfl, ?_⟩, ?_⟩
      (focus (intro wz hz; go_simp; (try with_reducible rfl); done))
      (try simp only [Act.put, Zs, Zz, Zc])
      refine wpAnyD_takeSL (i := 4) rfl (by kernel_rfl) (fun _ _ _ _ h => h) hS ?_
      apply Exists.intro
      refine ⟨Or.inl ⟨by rfl, ?_⟩, ?_⟩
      (focus (intro wz hz; have zc := (GrownX.blk hz x5 (by first | decide | (simp; done) | (simp; omega) | omega)).cell 10; go_simp; (try with_reducible rfl); done))
      (try simp only [Act.put, Zs, Zz, Zc])
      refine wpAnyD_takeSL (i := 5) rfl (by kernel_rfl) (fun _ _ _ _ h => h) hS ?_
      apply Exists.intro
      refine ⟨Or.inl ⟨by rfl, ?_⟩, ?_⟩
      (focus (intro wz hz; go_simp; (try with_reducible rfl); done))
      (try simp only [Act.put, Zs, Zz, Zc])
      refine wpAnyD_takeSL (i := 6) rfl (by kernel_rfl) (fun _ _ _ _ h => h) hS ?_
      apply Exists.intro
      refine ⟨Or.inl ⟨by rfl, ?_⟩, ?_⟩
      (focus (intro wz hz; (first | exact exec_ld 28 _ rfl rfl (GrownX.range hz (ya2) (yg2) (by first | decide | (simp; done) | (simp; omega) | omega)) Try.underlying28 rfl (by exact Try.infoT) | exact exec_ld 28 _ rfl rfl (GrownX.range hz (yb2) (yg2) (by first | decide | (simp; done) | (simp; omega) | omega)) Try.underlying28 rfl (by exact Try.infoT))))
      (try simp only [Act.put, Zs, Zz, Zc])
      refine wpAnyD_takeSL (i := 8) rfl (by kernel_rfl) (fun _ _ _ _ h => h) hS ?_
      apply Exists.intro
      refine ⟨Or.inl ⟨by rfl, ?_⟩, ?_⟩
      (focus (intro wz hz; go_simp; (try with_reducible rfl); done))
      (try simp only [Act.put, Zs, Zz, Zc])
      refine wpAnyD_takeSL (i := 9) rfl (by kernel_rfl) (fun _ _ _ _ h => h) hS ?_
      apply Exists.intro
      refine ⟨Or.inl ⟨by rfl, ?_⟩, ?_⟩
      (focus (intro wz hz; (first | exact exec_ld 25 _ rfl rfl (Blk.rgn (GrownX.blk hz x5 (by first | decide | (simp; done) | (simp; omega) | omega))) Try.underlying25 rfl (by exact Try.infoR))))
      (try simp only [Act.put, Zs, Zz, Zc])
      refine wpAnyD_takeSL (i := 10) rfl (by kernel_rfl) (fun _ _ _ _ h => h) hS ?_
      apply Exists.intro
      refine ⟨Or.inl ⟨by rfl, ?_⟩, ?_⟩
      (focus (intro wz hz; go_simp; (try with_reducible rfl); done))
      (try simp only [Act.put, Zs, Zz, Zc])
      refine wpAnyD_takeSL (i := 11) rfl (by kernel_rfl) (fun _ _ _ _ h => h) hS ?_
      apply Exists.intro
      refine ⟨Or.inl ⟨by rfl, ?_⟩, ?_⟩
      (focus (intro wz hz; have zc := (GrownX.blk hz x5 (by first | decide | (simp; done) | (simp; omega) | omega)).cell 10; go_simp; (try with_reducible rfl); done))
      (try simp only [Act.put, Zs, Zz, Zc])
      refine wpAnyD_takeSL (i := 12) rfl (by kernel_rfl) (fun _ _ _ _ h => h) hS ?_
      apply Exists.intro
      refine ⟨Or.inl ⟨by rfl, ?_⟩, ?_⟩
      (focus (intro wz hz; go_simp; (try with_reducible rfl); done))
      (try simp only [Act.put, Zs, Zz, Zc])
      refine wpAnyD_takeSL (i := 13) rfl (by kernel_rfl) (fun _ _ _ _ h => h) hS ?_
      apply Exists.intro
      refine ⟨Or.inl ⟨by rfl, ?_⟩, ?_⟩
      (focus (intro wz hz; (first | exact exec_ld 28 _ rfl rfl (GrownX.range hz (ya2) (yg2) (by first | decide | (simp; done) | (simp; omega) | omega)) Try.underlying28 rfl (by exact Try.infoT) | exact exec_ld 28 _ rfl rfl (GrownX.range hz (yb2) (yg2) (by first | decide | (simp; done) | (simp; omega) | omega)) Try.underlying28 rfl (by exact Try.infoT))))
      (try simp only [Act.put, Zs, Zz, Zc])
      refine wpAnyD_takeSL (i := 14) rfl (by kernel_rfl) (fun _ _ _ _ h => h) hS ?_
      apply Exists.intro
      refine ⟨Or.inl ⟨by rfl, ?_⟩, ?_⟩
      (focus (intro wz hz; (first | exact exec_ld 25 _ rfl rfl ((GrownX.blk hz x1 (by first | decide | (simp; done) | (simp; omega) | omega)).range) Try.underlying25 rfl (by exact Try.infoR))))
      (try simp only [Act.put, Zs, Zz, Zc])
      refine wpAnyD_takeSL (i := 15) rfl (by kernel_rfl) (fun _ _ _ _ h => h) hS ?_
      apply Exists.intro
      refine ⟨Or.inl ⟨by rfl, ?_⟩, ?_⟩
      (focus (intro wz hz; (first | exact exec_ld 28 _ rfl rfl ((GrownX.blk hz x2 (by first | decide | (simp; done) | (simp; omega) | omega)).range) Try.underlying28 rfl (by exact Try.infoT))))
      (try simp only [Act.put, Zs, Zz, Zc])
      -- several: [7, 16]
      refine wpAnyD_oneL (i := 7) rfl (by kernel_rfl) (fun K hK => ?_)
      rw [if_pos (by rfl)]
      go_simp
      (go_at_call 55; refine (rnode_P (A := Lo A w.heap.size m) (a) y (c) _ _ _ (Up.lo hA hE hm3) tpa.up tpc.up (bd_node bl).2.1 (bd_node bl).1 (bd_node (bd_node bl).2.2).1).mono ?_; intro e W402 hpp; obtain ⟨v1, rfl, t1, hx⟩ := hpp)
      replace hS := hS.ext hx; (try dsimp only); refine hK.out _ _ (fun _ => hS) ?_; clear hK K; (try simp only [Act.put, Zs, Zz, Zc])
      replace b0 := b0.ext hx
      replace b1 := b1.ext hx
      replace b2 := b2.ext hx
      replace b3 := b3.ext hx
      replace b4 := b4.ext hx
      replace b5 := b5.ext hx
      replace hr := isT.ext hx hr
      replace tpa := isT.ext hx tpa
      replace tpc := isT.ext hx tpc
      replace tpd := isT.ext hx tpd
      replace hra2 := rangeAt.ext hra2 hg2 hx
      replace hrb2 := rangeAt.ext hrb2 hg2 hx
      replace hg2 := Nat.lt_of_lt_of_le hg2 hx.below.size
      replace hm3 := Nat.le_trans hm3 hx.below.size
      replace hE := hE.trans hx
      clear hx
      replace qz : r5 < W402.heap.size := b5.lt
      replace qz4 : r4 < W402.heap.size := b4.lt
      refine wpAnyD_oneL (i := 16) rfl (by kernel_rfl) (fun K hK => ?_)
      rw [if_pos (by rfl)]
      go_simp
      (go_at_call 55; refine (rnode_P (A := Lo A w.heap.size m) (d) x (r) _ _ _ (Up.lo hA hE hm3) tpd.up hr.up hvx (bd_node (bd_node bl).2.2).2.2 br).mono ?_; intro e W403 hpp; obtain ⟨v2, rfl, t2, hx⟩ := hpp)
      replace hS := hS.ext hx; (try dsimp only); refine hK.out _ _ (fun _ => hS) ?_; clear hK K; (try simp only [Act.put, Zs, Zz, Zc])
      replace b0 := b0.ext hx
      replace b1 := b1.ext hx
      replace b2 := b2.ext hx
      replace b3 := b3.ext hx
      replace b4 := b4.ext hx
      replace b5 := b5.ext hx
      replace hr := isT.ext hx hr
      replace tpa := isT.ext hx tpa
      replace tpc := isT.ext hx tpc
      replace tpd := isT.ext hx tpd
      replace hra2 := rangeAt.ext hra2 hg2 hx
      replace hrb2 := rangeAt.ext hrb2 hg2 hx
      replace hg2 := Nat.lt_of_lt_of_le hg2 hx.below.size
      replace hm3 := Nat.le_trans hm3 hx.below.size
      replace t1 := isT.ext hx t1
      replace hE := hE.trans hx
      clear hx
      replace qz : r5 < W403.heap.size := b5.lt
      replace qz4 : r4 < W403.heap.size := b4.lt
      refine wpAnyD_oneL (i := 17) rfl (by kernel_rfl) (fun K hK => ?_)
      rw [if_pos (by rfl)]
      go_simp
      (go_at_call 55; refine (rnode_P (A := Lo A w.heap.size m) (PT.N a y c) z (PT.N d x r) _ _ _ (Up.lo hA hE hm3) t1 t2 (bd_node (bd_node bl).2.2).2.1 (bd_mk (bd_node bl).1 (bd_node bl).2.1 (bd_node (bd_node bl).2.2).1 ⟨by omega, by omega⟩) (bd_mk (bd_node (bd_node bl).2.2).2.2 hvx br ⟨by omega, by omega⟩)).mono ?_; intro e W404 hpp; obtain ⟨v3, rfl, t3, hx⟩ := hpp)
      replace hS := hS.ext hx; (try dsimp only); refine hK.out _ _ (fun _ => hS) ?_; clear hK K; (try simp only [Act.put, Zs, Zz, Zc])
      replace b0 := b0.ext hx
      replace b1 := b1.ext hx
      replace b2 := b2.ext hx
      replace b3 := b3.ext hx
      replace b4 := b4.ext hx
      replace b5 := b5.ext hx
      replace hr := isT.ext hx hr
      replace tpa := isT.ext hx tpa
      replace tpc := isT.ext hx tpc
      replace tpd := isT.ext hx tpd
      replace hra2 := rangeAt.ext hra2 hg2 hx
      replace hrb2 := rangeAt.ext hrb2 hg2 hx
      replace hg2 := Nat.lt_of_lt_of_le hg2 hx.below.size
      replace hm3 := Nat.le_trans hm3 hx.below.size
      replace t1 := isT.ext hx t1
      replace t2 := isT.ext hx t2
      replace hE := hE.trans hx
      clear hx
      replace qz : r5 < W404.heap.size := b5.lt
      replace qz4 : r4 < W404.heap.size := b4.lt
      refine wpAnyD_oneL (i := 18) rfl (by kernel_rfl) (fun K hK => ?_)
      rw [if_pos (by rfl)]
      refine wp_store_box 28 _ _ (by rfl) b3 (by rfl) (by rfl) (by exact Try.infoT) (by first | exact RV.one _ | exact TV.one _ rfl | exact TV.one _ (isT.one hr) | exact TV.one _ (isT.one tpa) | exact TV.one _ (isT.one tpc) | exact TV.one _ (isT.one tpd) | exact TV.one _ (isT.one t1) | exact TV.one _ (isT.one t2) | exact TV.one _ (isT.one t3)) (by rfl) (fun W405 hg bn => ?_)
      replace b0 := b0.kept hg (Zn (by omega))
      replace b1 := b1.kept hg (Zn (by omega))
      replace b2 := b2.kept hg (Zn (by omega))
      replace b4 := b4.kept hg (Zn (by omega))
      replace b5 := b5.kept hg (Zn (by omega))
      replace hr := isT.kept hg (Lw.not (by omega)) hr
      replace tpa := isT.kept hg (Lw.not (by omega)) tpa
      replace tpc := isT.kept hg (Lw.not (by omega)) tpc
      replace tpd := isT.kept hg (Lw.not (by omega)) tpd
      replace hra2 := rangeAt.kept hra2 hg2 hg (Zn (by omega))
      replace hrb2 := rangeAt.kept hrb2 hg2 hg (Zn (by omega))
      replace hg2 := Nat.lt_of_lt_of_le hg2 hg.size
      replace hm3 := Nat.le_trans hm3 hg.size
      replace t1 := isT.kept hg (Lo.not (by omega) (by omega)) t1
      replace t2 := isT.kept hg (Lo.not (by omega) (by omega)) t2
      replace t3 := isT.kept hg (Lo.not (by omega) (by omega)) t3
      replace hE := ext_grow hE hg (fun q hq => by cases hq; omega)
      replace hS := hS.step hg (by first | decide | (simp; done) | (simp; omega) | omega)
      clear b3 hg
      have b3 := bn
      clear bn
      (try dsimp only); refine hK.out _ _ (fun _ => hS) ?_; clear hK K; (try simp only [Act.put, Zs, Zz, Zc])
      replace qz : r5 < W405.heap.size := b5.lt
      replace qz4 : r4 < W405.heap.size := b4.lt
      refine wpAnyD_done (by kernel_rfl) ?_ _
      clear hS x0 x1 x2 x3 x4 x5
      go_wp2_with fail
      exact bodyPost_ret (res_c rfl (GivesC.of b3 rfl Try.underlying28 rfl Try.infoT)) rfl ⟨v3, rfl, by rw [hJ.out, hR.out]; exact t3.hi, hE⟩

set_option maxRecDepth 100000 in
set_option maxHeartbeats 4000000 in
theorem rbal_R {A : Nat → Prop} (l : PT) (x : RV) (b : PT) (y : RV) (c : PT) (vl vr : TV) (w : World) (hA : Up A w) (hl : isT A w (l).bt vl) (hr : isT A w (PT.N b y c).bt vr) (hvx : vld x) (bl : bd (l)) (br : bd (PT.N b y c)) (h9 : (l).ht ≤ 900 ∧ (PT.N b y c).ht ≤ 900) (c1 : ¬ (PT.N b y c).ht + 1 < l.ht) (c3 : l.ht + 1 < (PT.N b y c).ht) (J : PT) (hJ : Hid (J = joinP l x (PT.N b y c))) :
    Calls Try.prog 56 #[.agg vl.cs.toArray, .agg x.cs.toArray, .agg vr.cs.toArray] w fun e w' => ∃ v, e = .returned (.agg v.cs.toArray) ∧ isT A w' (J).bt v ∧ Ext w w' := by
  have hn : l.ht ≤ 900 ∧ b.ht ≤ 900 ∧ c.ht ≤ 900 := by have h1 := h9.1; have h2 := h9.2; have := PT.ht_nn b; have := PT.ht_nn c; simp only [PT.ht] at h2; omega
  have c1h := hid_mk0 c1
  have c3h := hid_mk0 c3
  obtain ⟨nl1, -, -, -⟩ := isP_num hl
  obtain ⟨nr1, -, -, -⟩ := isP_num hr
  have hl9 : vl.h ≤ 900 := by omega
  have hr9 : vr.h ≤ 900 := by omega
  have hl0 : 0 ≤ vl.h := by have := PT.ht_nn (l); omega
  have hr0 : 0 ≤ vr.h := by have := PT.ht_nn (PT.N b y c); omega
  replace hl := isT.lw hl
  replace hr := isT.lw hr
  replace c1 : ¬ vr.h + 1 < vl.h := by omega
  replace c3 : vl.h + 1 < vr.h := by omega
  clear h9
  obtain ⟨-, -, -, -, xx, -, gb1, og1, cc1, pb, pc, hk1, hc1, hg1, -, hra1, hrb1, tpb, tpc⟩ := hr
  obtain ⟨ah1, af1, al1, ag1, ax1, ak1⟩ := vr
  dsimp only at *
  subst ax1 hk1
  have hcI1 : (2 : Int) ≤ (cc1 : Int) := by omega
  have hgw1 := hg1
  have nb := hid_mk0 (isP_num tpb).1
  have nc := hid_mk0 (isP_num tpc).1
  have nb0 : 0 ≤ pb.h := by rw [nb.out]; exact PT.ht_nn _
  have nc0 : 0 ≤ pc.h := by rw [nc.out]; exact PT.ht_nn _
  clear nl1 nr1
  go_enter Try.func56, Try.ntmps56
  go_upto_region 1 with fail
  refine name_wX (fun W1 hW => ?_)
  have hE : Ext w W1 := by rw [hW]; repeat' (first | exact Ext.refl _ | apply Ext.al)
  have b0 : Blk W1 (w.heap.size) 28 vl.cs := by rw [hW]; exact (((Blk.newAt rfl).alloc _).alloc _).alloc _
  have b1 : Blk W1 (w.heap.size + 1) 25 x.cs := by rw [hW]; exact ((Blk.newAt (by simp)).alloc _).alloc _
  have b2 : Blk W1 (w.heap.size + 1 + 1) 28 (TV.cs ⟨ah1, af1, al1, ag1, y, .slice (some ⟨gb1, og1, none⟩) 2 cc1⟩) := by rw [hW]; exact (Blk.newAt (by simp)).alloc _
  have b3 : Blk W1 (w.heap.size + 1 + 1 + 1) 28 TV.z.cs := by rw [hW]; exact Blk.newAt (by simp)
  clear hW
  obtain ⟨r3, hr3⟩ : ∃ r, r = w.heap.size + 1 + 1 + 1 := ⟨_, rfl⟩
  rw [← hr3] at b3
  try rw [← hr3]
  obtain ⟨r2, hr2⟩ : ∃ r, r = w.heap.size + 1 + 1 := ⟨_, rfl⟩
  rw [← hr2] at b2
  try rw [← hr2]
  obtain ⟨r1, hr1⟩ : ∃ r, r = w.heap.size + 1 := ⟨_, rfl⟩
  rw [← hr1] at b1
  try rw [← hr1]
  obtain ⟨r0, hr0⟩ : ∃ r, r = w.heap.size := ⟨_, rfl⟩
  rw [← hr0] at b0
  try rw [← hr0]
  have q0 : w.heap.size ≤ r0 := by omega
  have q1 : r0 < r1 := by omega
  have q2 : r1 < r2 := by omega
  have q3 : r2 < r3 := by omega
  clear hr0 hr1 hr2 hr3
  have qz : r3 < W1.heap.size := b3.lt
  replace hl := isT.ext hE hl
  replace tpc := isT.ext hE tpc
  replace tpb := isT.ext hE tpb
  replace hra1 := rangeAt.ext hra1 hg1 hE
  replace hrb1 := rangeAt.ext hrb1 hg1 hE
  replace hg1 := Nat.lt_of_lt_of_le hg1 hE.below.size
  go_upto_region 1 with fail
  refine wp_region_lit ?_
  have zc0 := b0.cell 0; have zc1 := b2.cell 0
  iterate 6 (refine wpList_plain rfl (fun K hK => ?_); go_simp; (try simp (disch := omega) only [Yq, Yr]); (try dsimp only); refine hK _ _ ?_; clear hK K; (try simp only [Act.put, Zs, Zz, Zc]))
  clear zc0 zc1
  refine wpList_nil ?_
  go_upto_region 6 with fail
  refine wp_region_lit ?_
  have zc0 := b2.cell 0; have zc1 := b0.cell 0
  iterate 6 (refine wpList_plain rfl (fun K hK => ?_); go_simp; (try simp (disch := omega) only [Yq, Yr]); (try dsimp only); refine hK _ _ ?_; clear hK K; (try simp only [Act.put, Zs, Zz, Zc]))
  clear zc0 zc1
  refine wpList_nil ?_
  go_upto_region 7 with fail
  have ya1 := hra1
  have yb1 := hrb1
  have yg1 := hg1
  go_cut [9, 10] (fun sva svb wc => ∃ sra srb : Nat, sva = .pointer (some ⟨sra, 0, none⟩) ∧ svb = .pointer (some ⟨srb, 0, none⟩) ∧ r3 < sra ∧ r3 < srb ∧ sra ≠ srb ∧ Blk wc sra 28 pb.cs ∧ Blk wc srb 28 pc.cs ∧ Ext W1 wc)
  case first =>
    have hEz : Ext W1 W1 := Ext.refl _
    have x0 := b0
    have x1 := b1
    have x2 := b2
    have x3 := b3
    obtain ⟨mX, hmX⟩ : ∃ m, m = W1.heap.size := ⟨_, rfl⟩
    have hS : GrownX W1 [] W1 := GrownX.refl _ _
    refine wp_region_S (GrownX W1 []) (by kernel_rfl) ?_
    refine name_wd (fun W2 hW => ?_)
    have hx : Ext W1 W2 := by rw [hW]; exact ext_drew _
    clear hW
    replace hS := hS.ext hx
    replace b0 := b0.ext hx
    replace b1 := b1.ext hx
    replace b2 := b2.ext hx
    replace b3 := b3.ext hx
    replace hl := isT.ext hx hl
    replace tpc := isT.ext hx tpc
    replace tpb := isT.ext hx tpb
    replace hra1 := rangeAt.ext hra1 hg1 hx
    replace hrb1 := rangeAt.ext hrb1 hg1 hx
    replace hg1 := Nat.lt_of_lt_of_le hg1 hx.below.size
    replace hEz := hEz.trans hx
    replace hE := hE.trans hx
    clear hx
    replace qz : r3 < W2.heap.size := b3.lt
    refine wpAnyD_takeSL (i := 0) rfl (by kernel_rfl) (fun _ _ _ _ h => h) hS ?_
    apply Exists.intro
    refine ⟨Or.inl ⟨by rfl, ?_⟩, ?_⟩
    (focus (intro wz hz; go_simp; (try with_reducible rfl); done))
    (try simp only [Act.put, Zs, Zz, Zc])
    refine wpAnyD_takeSL (i := 1) rfl (by kernel_rfl) (fun _ _ _ _ h => h) hS ?_
    apply Exists.intro
    refine ⟨Or.inl ⟨by rfl, ?_⟩, ?_⟩
    (focus (intro wz hz; have zc := (GrownX.blk hz x2 (by first | decide | (simp; done) | (simp; omega) | omega)).cell 10; go_simp; (try with_reducible rfl); done))
    (try simp only [Act.put, Zs, Zz, Zc])
    refine wpAnyD_takeSL (i := 2) rfl (by kernel_rfl) (fun _ _ _ _ h => h) hS ?_
    apply Exists.intro
    refine ⟨Or.inl ⟨by rfl, ?_⟩, ?_⟩
    (focus (intro wz hz; go_simp; (try with_reducible rfl); done))
    (try simp only [Act.put, Zs, Zz, Zc])
    refine wpAnyD_takeSL (i := 3) rfl (by kernel_rfl) (fun _ _ _ _ h => h) hS ?_
    apply Exists.intro
    refine ⟨Or.inl ⟨by rfl, ?_⟩, ?_⟩
    (focus (intro wz hz; (first | exact exec_ld 28 _ rfl rfl (GrownX.range hz (ya1) (yg1) (by first | decide | (simp; done) | (simp; omega) | omega)) Try.underlying28 rfl (by exact Try.infoT) | exact exec_ld 28 _ rfl rfl (GrownX.range hz (yb1) (yg1) (by first | decide | (simp; done) | (simp; omega) | omega)) Try.underlying28 rfl (by exact Try.infoT))))
    (try simp only [Act.put, Zs, Zz, Zc])
    refine wpAnyD_takeSL (i := 4) rfl (by kernel_rfl) (fun _ _ _ _ h => h) hS ?_
    apply Exists.intro
    refine ⟨Or.inl ⟨by rfl, ?_⟩, ?_⟩
    (focus (intro wz hz; go_simp; (try with_reducible rfl); done))
    (try simp only [Act.put, Zs, Zz, Zc])
    refine wpAnyD_takeSL (i := 5) rfl (by kernel_rfl) (fun _ _ _ _ h => h) hS ?_
    apply Exists.intro
    refine ⟨Or.inl ⟨by rfl, ?_⟩, ?_⟩
    (focus (intro wz hz; have zc := (GrownX.blk hz x2 (by first | decide | (simp; done) | (simp; omega) | omega)).cell 10; go_simp; (try with_reducible rfl); done))
    (try simp only [Act.put, Zs, Zz, Zc])
    refine wpAnyD_takeSL (i := 6) rfl (by kernel_rfl) (fun _ _ _ _ h => h) hS ?_
    apply Exists.intro
    refine ⟨Or.inl ⟨by rfl, ?_⟩, ?_⟩
    (focus (intro wz hz; go_simp; (try with_reducible rfl); done))
    (try simp only [Act.put, Zs, Zz, Zc])
    refine wpAnyD_takeSL (i := 7) rfl (by kernel_rfl) (fun _ _ _ _ h => h) hS ?_
    apply Exists.intro
    refine ⟨Or.inl ⟨by rfl, ?_⟩, ?_⟩
    (focus (intro wz hz; (first | exact exec_ld 28 _ rfl rfl (GrownX.range hz (ya1) (yg1) (by first | decide | (simp; done) | (simp; omega) | omega)) Try.underlying28 rfl (by exact Try.infoT) | exact exec_ld 28 _ rfl rfl (GrownX.range hz (yb1) (yg1) (by first | decide | (simp; done) | (simp; omega) | omega)) Try.underlying28 rfl (by exact Try.infoT))))
    (try simp only [Act.put, Zs, Zz, Zc])
    refine wpAnyD_many [8, 9] (by kernel_rfl) (by simp) (AllD_consL rfl (fun K hK => ?_) (AllD_consL rfl (fun K hK => ?_) AllD_nil))
    · rw [if_pos (by rfl)]
      have qb : mX ≤ W2.heap.size := (by rw [hmX]; exact hS.size)
      go_simp
      (try dsimp only); refine hK.out _ _ (fun _ => hS.ext (ext_alloc _ _)) ?_; clear hK K; (try simp only [Act.put, Zs, Zz, Zc])
      refine name_wd (fun W33 hW => ?_)
      have hx : Ext W2 W33 := by rw [hW]; exact ext_alloc _ _
      have b4 : Blk W33 W2.heap.size 28 TV.z.cs := by rw [hW]; exact Blk.newAt rfl
      clear hW
      replace hS := hS.ext hx
      replace b0 := b0.ext hx
      replace b1 := b1.ext hx
      replace b2 := b2.ext hx
      replace b3 := b3.ext hx
      replace hl := isT.ext hx hl
      replace tpc := isT.ext hx tpc
      replace tpb := isT.ext hx tpb
      replace hra1 := rangeAt.ext hra1 hg1 hx
      replace hrb1 := rangeAt.ext hrb1 hg1 hx
      replace hg1 := Nat.lt_of_lt_of_le hg1 hx.below.size
      replace hEz := hEz.trans hx
      replace hE := hE.trans hx
      clear hx
      obtain ⟨r4, hr⟩ : ∃ r, r = W2.heap.size := ⟨_, rfl⟩
      rw [← hr] at b4
      try rw [← hr]
      have q4 : r3 < r4 := by omega
      have qb4 : mX ≤ r4 := by omega
      clear hr
      replace qz : r4 < W33.heap.size := b4.lt
      refine wpAnyD_oneL (i := 9) rfl (by kernel_rfl) (fun K hK => ?_)
      rw [if_pos (by rfl)]
      have qb : mX ≤ W33.heap.size := (by rw [hmX]; exact hS.size)
      go_simp
      (try dsimp only); refine hK.out _ _ (fun _ => hS.ext (ext_alloc _ _)) ?_; clear hK K; (try simp only [Act.put, Zs, Zz, Zc])
      refine name_wd (fun W34 hW => ?_)
      have hx : Ext W33 W34 := by rw [hW]; exact ext_alloc _ _
      have b5 : Blk W34 W33.heap.size 28 TV.z.cs := by rw [hW]; exact Blk.newAt rfl
      clear hW
      replace hS := hS.ext hx
      replace b0 := b0.ext hx
      replace b1 := b1.ext hx
      replace b2 := b2.ext hx
      replace b3 := b3.ext hx
      replace b4 := b4.ext hx
      replace hl := isT.ext hx hl
      replace tpc := isT.ext hx tpc
      replace tpb := isT.ext hx tpb
      replace hra1 := rangeAt.ext hra1 hg1 hx
      replace hrb1 := rangeAt.ext hrb1 hg1 hx
      replace hg1 := Nat.lt_of_lt_of_le hg1 hx.below.size
      replace hEz := hEz.trans hx
      replace hE := hE.trans hx
      clear hx
      obtain ⟨r5, hr⟩ : ∃ r, r = W33.heap.size := ⟨_, rfl⟩
      rw [← hr] at b5
      try rw [← hr]
      have q5 : r4 < r5 := by omega
      have qb5 : mX ≤ r5 := by omega
      clear hr
      replace qz : r5 < W34.heap.size := b5.lt
      refine wpAnyD_oneL (i := 10) rfl (by kernel_rfl) (fun K hK => ?_)
      rw [if_pos (by rfl)]
      refine wp_store_box 28 _ _ (by rfl) b4 (by rfl) (by rfl) (by exact Try.infoT) (by first | exact RV.one _ | exact TV.one _ rfl | exact TV.one _ (isT.one hl) | exact TV.one _ (isT.one tpc) | exact TV.one _ (isT.one tpb)) (by rfl) (fun W35 hg bn => ?_)
      replace b0 := b0.kept hg (Zn (by omega))
      replace b1 := b1.kept hg (Zn (by omega))
      replace b2 := b2.kept hg (Zn (by omega))
      replace b3 := b3.kept hg (Zn (by omega))
      replace b5 := b5.kept hg (Zn (by omega))
      replace hl := isT.kept hg (Lw.not (by omega)) hl
      replace tpc := isT.kept hg (Lw.not (by omega)) tpc
      replace tpb := isT.kept hg (Lw.not (by omega)) tpb
      replace hra1 := rangeAt.kept hra1 hg1 hg (Zn (by omega))
      replace hrb1 := rangeAt.kept hrb1 hg1 hg (Zn (by omega))
      replace hg1 := Nat.lt_of_lt_of_le hg1 hg.size
      replace hEz := ext_grow hEz hg (fun q hq => by cases hq; omega)
      replace hE := ext_grow hE hg (fun q hq => by cases hq; omega)
      replace hS := hS.stepNew hg (by omega)
      clear b4 hg
      have b4 := bn
      clear bn
      (try dsimp only); refine hK.out _ _ (fun _ => hS) ?_; clear hK K; (try simp only [Act.put, Zs, Zz, Zc])
      replace qz : r5 < W35.heap.size := b5.lt
      refine wpAnyD_oneL (i := 11) rfl (by kernel_rfl) (fun K hK => ?_)
      rw [if_pos (by rfl)]
      refine wp_store_box 28 _ _ (by rfl) b5 (by rfl) (by rfl) (by exact Try.infoT) (by first | exact RV.one _ | exact TV.one _ rfl | exact TV.one _ (isT.one hl) | exact TV.one _ (isT.one tpc) | exact TV.one _ (isT.one tpb)) (by rfl) (fun W36 hg bn => ?_)
      replace b0 := b0.kept hg (Zn (by omega))
      replace b1 := b1.kept hg (Zn (by omega))
      replace b2 := b2.kept hg (Zn (by omega))
      replace b3 := b3.kept hg (Zn (by omega))
      replace b4 := b4.kept hg (Zn (by omega))
      replace hl := isT.kept hg (Lw.not (by omega)) hl
      replace tpc := isT.kept hg (Lw.not (by omega)) tpc
      replace tpb := isT.kept hg (Lw.not (by omega)) tpb
      replace hra1 := rangeAt.kept hra1 hg1 hg (Zn (by omega))
      replace hrb1 := rangeAt.kept hrb1 hg1 hg (Zn (by omega))
      replace hg1 := Nat.lt_of_lt_of_le hg1 hg.size
      replace hEz := ext_grow hEz hg (fun q hq => by cases hq; omega)
      replace hE := ext_grow hE hg (fun q hq => by cases hq; omega)
      replace hS := hS.stepNew hg (by omega)
      clear b5 hg
      have b5 := bn
      clear bn
      (try dsimp only); refine hK.out _ _ (fun _ => hS) ?_; clear hK K; (try simp only [Act.put, Zs, Zz, Zc])
      replace qz : r5 < W36.heap.size := b5.lt
      refine wpAnyD_done (by kernel_rfl) ?_ _
      clear hS hmX x0 x1 x2 x3
      simp only [Exit.then]; go_step; go_meet
      exact ⟨r4, r5, rfl, rfl, by omega, by omega, by omega, b4, b5, hEz⟩
    · rw [if_pos (by rfl)]
      have qb : mX ≤ W2.heap.size := (by rw [hmX]; exact hS.size)
      go_simp
      (try dsimp only); refine hK.out _ _ (fun _ => hS.ext (ext_alloc _ _)) ?_; clear hK K; (try simp only [Act.put, Zs, Zz, Zc])
      refine name_wd (fun W63 hW => ?_)
      have hx : Ext W2 W63 := by rw [hW]; exact ext_alloc _ _
      have b4 : Blk W63 W2.heap.size 28 TV.z.cs := by rw [hW]; exact Blk.newAt rfl
      clear hW
      replace hS := hS.ext hx
      replace b0 := b0.ext hx
      replace b1 := b1.ext hx
      replace b2 := b2.ext hx
      replace b3 := b3.ext hx
      replace hl := isT.ext hx hl
      replace tpc := isT.ext hx tpc
      replace tpb := isT.ext hx tpb
      replace hra1 := rangeAt.ext hra1 hg1 hx
      replace hrb1 := rangeAt.ext hrb1 hg1 hx
      replace hg1 := Nat.lt_of_lt_of_le hg1 hx.below.size
      replace hEz := hEz.trans hx
      replace hE := hE.trans hx
      clear hx
      obtain ⟨r4, hr⟩ : ∃ r, r = W2.heap.size := ⟨_, rfl⟩
      rw [← hr] at b4
      try rw [← hr]
      have q4 : r3 < r4 := by omega
      have qb4 : mX ≤ r4 := by omega
      clear hr
      replace qz : r4 < W63.heap.size := b4.lt
      refine wpAnyD_oneL (i := 8) rfl (by kernel_rfl) (fun K hK => ?_)
      rw [if_pos (by rfl)]
      have qb : mX ≤ W63.heap.size := (by rw [hmX]; exact hS.size)
      go_simp
      (try dsimp only); refine hK.out _ _ (fun _ => hS.ext (ext_alloc _ _)) ?_; clear hK K; (try simp only [Act.put, Zs, Zz, Zc])
      refine name_wd (fun W64 hW => ?_)
      have hx : Ext W63 W64 := by rw [hW]; exact ext_alloc _ _
      have b5 : Blk W64 W63.heap.size 28 TV.z.cs := by rw [hW]; exact Blk.newAt rfl
      clear hW
      replace hS := hS.ext hx
      replace b0 := b0.ext hx
      replace b1 := b1.ext hx
      replace b2 := b2.ext hx
      replace b3 := b3.ext hx
      replace b4 := b4.ext hx
      replace hl := isT.ext hx hl
      replace tpc := isT.ext hx tpc
      replace tpb := isT.ext hx tpb
      replace hra1 := rangeAt.ext hra1 hg1 hx
      replace hrb1 := rangeAt.ext hrb1 hg1 hx
      replace hg1 := Nat.lt_of_lt_of_le hg1 hx.below.size
      replace hEz := hEz.trans hx
      replace hE := hE.trans hx
      clear hx
      obtain ⟨r5, hr⟩ : ∃ r, r = W63.heap.size := ⟨_, rfl⟩
      rw [← hr] at b5
      try rw [← hr]
      have q5 : r4 < r5 := by omega
      have qb5 : mX ≤ r5 := by omega
      clear hr
      replace qz : r5 < W64.heap.size := b5.lt
      refine wpAnyD_oneL (i := 10) rfl (by kernel_rfl) (fun K hK => ?_)
      rw [if_pos (by rfl)]
      refine wp_store_box 28 _ _ (by rfl) b5 (by rfl) (by rfl) (by exact Try.infoT) (by first | exact RV.one _ | exact TV.one _ rfl | exact TV.one _ (isT.one hl) | exact TV.one _ (isT.one tpc) | exact TV.one _ (isT.one tpb)) (by rfl) (fun W65 hg bn => ?_)
      replace b0 := b0.kept hg (Zn (by omega))
      replace b1 := b1.kept hg (Zn (by omega))
      replace b2 := b2.kept hg (Zn (by omega))
      replace b3 := b3.kept hg (Zn (by omega))
      replace b4 := b4.kept hg (Zn (by omega))
      replace hl := isT.kept hg (Lw.not (by omega)) hl
      replace tpc := isT.kept hg (Lw.not (by omega)) tpc
      replace tpb := isT.kept hg (Lw.not (by omega)) tpb
      replace hra1 := rangeAt.kept hra1 hg1 hg (Zn (by omega))
      replace hrb1 := rangeAt.kept hrb1 hg1 hg (Zn (by omega))
      replace hg1 := Nat.lt_of_lt_of_le hg1 hg.size
      replace hEz := ext_grow hEz hg (fun q hq => by cases hq; omega)
      replace hE := ext_grow hE hg (fun q hq => by cases hq; omega)
      replace hS := hS.stepNew hg (by omega)
      clear b5 hg
      have b5 := bn
      clear bn
      (try dsimp only); refine hK.out _ _ (fun _ => hS) ?_; clear hK K; (try simp only [Act.put, Zs, Zz, Zc])
      replace qz : r5 < W65.heap.size := b5.lt
      refine wpAnyD_oneL (i := 11) rfl (by kernel_rfl) (fun K hK => ?_)
      rw [if_pos (by rfl)]
      refine wp_store_box 28 _ _ (by rfl) b4 (by rfl) (by rfl) (by exact Try.infoT) (by first | exact RV.one _ | exact TV.one _ rfl | exact TV.one _ (isT.one hl) | exact TV.one _ (isT.one tpc) | exact TV.one _ (isT.one tpb)) (by rfl) (fun W66 hg bn => ?_)
      replace b0 := b0.kept hg (Zn (by omega))
      replace b1 := b1.kept hg (Zn (by omega))
      replace b2 := b2.kept hg (Zn (by omega))
      replace b3 := b3.kept hg (Zn (by omega))
      replace b5 := b5.kept hg (Zn (by omega))
      replace hl := isT.kept hg (Lw.not (by omega)) hl
      replace tpc := isT.kept hg (Lw.not (by omega)) tpc
      replace tpb := isT.kept hg (Lw.not (by omega)) tpb
      replace hra1 := rangeAt.kept hra1 hg1 hg (Zn (by omega))
      replace hrb1 := rangeAt.kept hrb1 hg1 hg (Zn (by omega))
      replace hg1 := Nat.lt_of_lt_of_le hg1 hg.size
      replace hEz := ext_grow hEz hg (fun q hq => by cases hq; omega)
      replace hE := ext_grow hE hg (fun q hq => by cases hq; omega)
      replace hS := hS.stepNew hg (by omega)
      clear b4 hg
      have b4 := bn
      clear bn
      (try dsimp only); refine hK.out _ _ (fun _ => hS) ?_; clear hK K; (try simp only [Act.put, Zs, Zz, Zc])
      replace qz : r5 < W66.heap.size := b5.lt
      refine wpAnyD_done (by kernel_rfl) ?_ _
      clear hS hmX x0 x1 x2 x3
      simp only [Exit.then]; go_step; go_meet
      exact ⟨r5, r4, rfl, rfl, by omega, by omega, by omega, b5, b4, hEz⟩
  obtain ⟨r4, r5, rfl, rfl, q4x, q5x, qne4, b4, b5, hx⟩ := hcut
  obtain ⟨W2, rfl⟩ : ∃ W, W = wc := ⟨_, rfl⟩
  replace b0 := b0.ext hx
  replace b1 := b1.ext hx
  replace b2 := b2.ext hx
  replace b3 := b3.ext hx
  replace hl := isT.ext hx hl
  replace tpc := isT.ext hx tpc
  replace tpb := isT.ext hx tpb
  replace hra1 := rangeAt.ext hra1 hg1 hx
  replace hrb1 := rangeAt.ext hrb1 hg1 hx
  replace hg1 := Nat.lt_of_lt_of_le hg1 hx.below.size
  replace hE := hE.trans hx
  clear hx
  replace qz : r3 < W2.heap.size := b3.lt
  replace qz : r5 < W2.heap.size := b5.lt
  have qz4 : r4 < W2.heap.size := b4.lt
  clear ya1 yb1 yg1 hra1 hrb1 hg1
  go_upto_region 8 with fail
  by_cases c2 : b.ht ≤ c.ht
  · have hR : joinP l x (PT.N b y c) = .N (.N l x b) y c := by unfold joinP; rw [if_neg c1h.out, if_pos c3h.out]; dsimp only; rw [if_pos c2]
    replace hR : Hid _ := hR
    have c2v : pb.h ≤ pc.h := by rw [nb.out, nc.out]; exact c2
    replace c2 : Hid _ := c2
    refine wp_region_lit ?_
    have zc0 := b5.cell 0; have zc1 := b4.cell 0
    iterate 5 (refine wpList_plain rfl (fun K hK => ?_); go_simp; (try dsimp only); refine hK _ _ ?_; clear hK K; (try simp only [Act.put, Zs, Zz, Zc]))
    clear zc0 zc1
    refine wpList_nil ?_
    go_upto_region 9 with fail
    obtain ⟨m, hm, hm2⟩ : ∃ m, r5 < m ∧ m = W2.heap.size := ⟨_, qz, rfl⟩
    have hm3 : m ≤ W2.heap.size := by omega
    have hm_4 : r4 < m := by omega
    clear hm2
    have x0 := b0
    have x1 := b1
    have x2 := b2
    have x3 := b3
    have x4 := b4
    have x5 := b5
    have hS : GrownX W2 [r3] W2 := GrownX.refl _ _
    refine wp_region_S (GrownX W2 [r3]) (by kernel_rfl) ?_
    refine name_wd (fun W301 hW => ?_)
    have hx : Ext W2 W301 := by rw [hW]; exact ext_drew _
    clear hW
    replace hS := hS.ext hx
    replace b0 := b0.ext hx
    replace b1 := b1.ext hx
    replace b2 := b2.ext hx
    replace b3 := b3.ext hx
    replace b4 := b4.ext hx
    replace b5 := b5.ext hx
    replace hl := isT.ext hx hl
    replace tpc := isT.ext hx tpc
    replace tpb := isT.ext hx tpb
    replace hm3 := Nat.le_trans hm3 hx.below.size
    replace hE := hE.trans hx
    clear hx
    replace qz : r5 < W301.heap.size := b5.lt
    replace qz4 : r4 < W301.heap.size := b4.lt
    refine wpAnyD_takeSL (i := 0) rfl (by kernel_rfl) (fun _ _ _ _ h => h) hS ?_
    apply Exists.intro
    refine ⟨Or.inl ⟨by rfl, ?_⟩, ?_⟩
    (focus (intro wz hz; (first | exact exec_ld 28 _ rfl rfl ((GrownX.blk hz x0 (by first | decide | (simp; done) | (simp; omega) | omega)).range) Try.underlying28 rfl (by exact Try.infoT))))
    (try simp only [Act.put, Zs, Zz, Zc])
    refine wpAnyD_takeSL (i := 1) rfl (by kernel_rfl) (fun _ _ _ _ h => h) hS ?_
    apply Exists.intro
    refine ⟨Or.inl ⟨by rfl, ?_⟩, ?_⟩
    (focus (intro wz hz; (first | exact exec_ld 25 _ rfl rfl ((GrownX.blk hz x1 (by first | decide | (simp; done) | (simp; omega) | omega)).range) Try.underlying25 rfl (by exact Try.infoR))))
    (try simp only [Act.put, Zs, Zz, Zc])
    refine wpAnyD_takeSL (i := 2) rfl (by kernel_rfl) (fun _ _ _ _ h => h) hS ?_
    apply Exists.intro
    refine ⟨Or.inl ⟨by rfl, ?_⟩, ?_⟩
    (focus (intro wz hz; (first | exact exec_ld 28 _ rfl rfl ((GrownX.blk hz x4 (by first | decide | (simp; done) | (simp; omega) | omega)).range) Try.underlying28 rfl (by exact Try.infoT))))
    (try simp only [Act.put, Zs, Zz, Zc])
    refine wpAnyD_takeSL (i := 4) rfl (by kernel_rfl) (fun _ _ _ _ h => h) hS ?_
    apply Exists.intro
    refine ⟨Or.inl ⟨by rfl, ?_⟩, ?_⟩
    (focus (intro wz hz; go_simp; (try with_reducible rfl); done))
    (try simp only [Act.put, Zs, Zz, Zc])
    refine wpAnyD_takeSL (i := 5) rfl (by kernel_rfl) (fun _ _ _ _ h => h) hS ?_
    apply Exists.intro
    refine ⟨Or.inl ⟨by rfl, ?_⟩, ?_⟩
    (focus (intro wz hz; (first | exact exec_ld 25 _ rfl rfl (Blk.rgn (GrownX.blk hz x2 (by first | decide | (simp; done) | (simp; omega) | omega))) Try.underlying25 rfl (by exact Try.infoR))))
    (try simp only [Act.put, Zs, Zz, Zc])
    refine wpAnyD_takeSL (i := 6) rfl (by kernel_rfl) (fun _ _ _ _ h => h) hS ?_
    apply Exists.intro
    refine ⟨Or.inl ⟨by rfl, ?_⟩, ?_⟩
    (focus (intro wz hz; (first | exact exec_ld 28 _ rfl rfl ((GrownX.blk hz x5 (by first | decide | (simp; done) | (simp; omega) | omega)).range) Try.underlying28 rfl (by exact Try.infoT))))
    (try simp only [Act.put, Zs, Zz, Zc])
    refine wpAnyD_oneL (i := 3) rfl (by kernel_rfl) (fun K hK => ?_)
    rw [if_pos (by rfl)]
    go_simp
    (go_at_call 55; refine (rnode_P (A := Lo A w.heap.size m) (l) x (b) _ _ _ (Up.lo hA hE hm3) hl.up tpb.up hvx bl (bd_node br).1).mono ?_; intro e W302 hpp; obtain ⟨v1, rfl, t1, hx⟩ := hpp)
    replace hS := hS.ext hx; (try dsimp only); refine hK.out _ _ (fun _ => hS) ?_; clear hK K; (try simp only [Act.put, Zs, Zz, Zc])
    replace b0 := b0.ext hx
    replace b1 := b1.ext hx
    replace b2 := b2.ext hx
    replace b3 := b3.ext hx
    replace b4 := b4.ext hx
    replace b5 := b5.ext hx
    replace hl := isT.ext hx hl
    replace tpc := isT.ext hx tpc
    replace tpb := isT.ext hx tpb
    replace hm3 := Nat.le_trans hm3 hx.below.size
    replace hE := hE.trans hx
    clear hx
    replace qz : r5 < W302.heap.size := b5.lt
    replace qz4 : r4 < W302.heap.size := b4.lt
    refine wpAnyD_oneL (i := 7) rfl (by kernel_rfl) (fun K hK => ?_)
    rw [if_pos (by rfl)]
    go_simp
    (go_at_call 55; refine (rnode_P (A := Lo A w.heap.size m) (PT.N l x b) y (c) _ _ _ (Up.lo hA hE hm3) t1 tpc.up (bd_node br).2.1 (bd_mk bl hvx (bd_node br).1 ⟨by omega, by omega⟩) (bd_node br).2.2).mono ?_; intro e W303 hpp; obtain ⟨v2, rfl, t2, hx⟩ := hpp)
    replace hS := hS.ext hx; (try dsimp only); refine hK.out _ _ (fun _ => hS) ?_; clear hK K; (try simp only [Act.put, Zs, Zz, Zc])
    replace b0 := b0.ext hx
    replace b1 := b1.ext hx
    replace b2 := b2.ext hx
    replace b3 := b3.ext hx
    replace b4 := b4.ext hx
    replace b5 := b5.ext hx
    replace hl := isT.ext hx hl
    replace tpc := isT.ext hx tpc
    replace tpb := isT.ext hx tpb
    replace hm3 := Nat.le_trans hm3 hx.below.size
    replace t1 := isT.ext hx t1
    replace hE := hE.trans hx
    clear hx
    replace qz : r5 < W303.heap.size := b5.lt
    replace qz4 : r4 < W303.heap.size := b4.lt
    refine wpAnyD_oneL (i := 8) rfl (by kernel_rfl) (fun K hK => ?_)
    rw [if_pos (by rfl)]
    refine wp_store_box 28 _ _ (by rfl) b3 (by rfl) (by rfl) (by exact Try.infoT) (by first | exact RV.one _ | exact TV.one _ rfl | exact TV.one _ (isT.one hl) | exact TV.one _ (isT.one tpc) | exact TV.one _ (isT.one tpb) | exact TV.one _ (isT.one t1) | exact TV.one _ (isT.one t2)) (by rfl) (fun W304 hg bn => ?_)
    replace b0 := b0.kept hg (Zn (by omega))
    replace b1 := b1.kept hg (Zn (by omega))
    replace b2 := b2.kept hg (Zn (by omega))
    replace b4 := b4.kept hg (Zn (by omega))
    replace b5 := b5.kept hg (Zn (by omega))
    replace hl := isT.kept hg (Lw.not (by omega)) hl
    replace tpc := isT.kept hg (Lw.not (by omega)) tpc
    replace tpb := isT.kept hg (Lw.not (by omega)) tpb
    replace hm3 := Nat.le_trans hm3 hg.size
    replace t1 := isT.kept hg (Lo.not (by omega) (by omega)) t1
    replace t2 := isT.kept hg (Lo.not (by omega) (by omega)) t2
    replace hE := ext_grow hE hg (fun q hq => by cases hq; omega)
    replace hS := hS.step hg (by first | decide | (simp; done) | (simp; omega) | omega)
    clear b3 hg
    have b3 := bn
    clear bn
    (try dsimp only); refine hK.out _ _ (fun _ => hS) ?_; clear hK K; (try simp only [Act.put, Zs, Zz, Zc])
    replace qz : r5 < W304.heap.size := b5.lt
    replace qz4 : r4 < W304.heap.size := b4.lt
    refine wpAnyD_done (by kernel_rfl) ?_ _
    clear hS x0 x1 x2 x3 x4 x5
    go_wp2_with fail
    exact bodyPost_ret (res_c rfl (GivesC.of b3 rfl Try.underlying28 rfl Try.infoT)) rfl ⟨v2, rfl, by rw [hJ.out, hR.out]; exact t2.hi, hE⟩
  · have c2v : ¬ pb.h ≤ pc.h := by rw [nb.out, nc.out]; exact c2
    replace nb : Hid True := trivial
    replace nc : Hid True := trivial
    cases b with
    | E => exact absurd (PT.ht_nn c) c2
    | N d z u =>
      have hR : joinP l x (PT.N (.N d z u) y c) = .N (.N l x d) z (.N u y c) := by unfold joinP; rw [if_neg c1h.out, if_pos c3h.out]; dsimp only; rw [if_neg c2]
      replace hR : Hid _ := hR
      have hcd : d.ht ≤ 900 ∧ u.ht ≤ 900 := by have h1 := hn.2.1; have := PT.ht_nn d; have := PT.ht_nn u; simp only [PT.ht] at h1; omega
      replace c2 : Hid _ := c2
      obtain ⟨-, -, -, -, xx, -, gb2, og2, cc2, pd, pu, hk2, hc2, hg2, hAg, hra2, hrb2, tpd, tpu⟩ := tpb
      obtain ⟨ah2, af2, al2, ag2, ax2, ak2⟩ := pb
      dsimp only at xx hk2 nb0 c2v
      subst ax2 hk2
      have hcI2 : (2 : Int) ≤ (cc2 : Int) := by omega
      have hgw2 : gb2 < w.heap.size := hAg.2
      clear hAg
      refine wp_region_lit ?_
      have zc0 := b5.cell 0; have zc1 := b4.cell 0
      iterate 5 (refine wpList_plain rfl (fun K hK => ?_); go_simp; (try dsimp only); refine hK _ _ ?_; clear hK K; (try simp only [Act.put, Zs, Zz, Zc]))
      clear zc0 zc1
      refine wpList_nil ?_
      go_upto_region 10 with fail
      obtain ⟨m, hm, hm2⟩ : ∃ m, r5 < m ∧ m = W2.heap.size := ⟨_, qz, rfl⟩
      have hm3 : m ≤ W2.heap.size := by omega
      have hm_4 : r4 < m := by omega
      clear hm2
      have ya2 := hra2
      have yb2 := hrb2
      have yg2 := hg2
      have x0 := b0
      have x1 := b1
      have x2 := b2
      have x3 := b3
      have x4 := b4
      have x5 := b5
      have hS : GrownX W2 [r3] W2 := GrownX.refl _ _
      refine wp_region_S (GrownX W2 [r3]) (by kernel_rfl) ?_
      refine name_wd (fun W401 hW => ?_)
      have hx : Ext W2 W401 := by rw [hW]; exact ext_drew _
      clear hW
      replace hS := hS.ext hx
      replace b0 := b0.ext hx
      replace b1 := b1.ext hx
      replace b2 := b2.ext hx
      replace b3 := b3.ext hx
      replace b4 := b4.ext hx
      replace b5 := b5.ext hx
      replace hl := isT.ext hx hl
      replace tpc := isT.ext hx tpc
      replace tpd := isT.ext hx tpd
      replace tpu := isT.ext hx tpu
      replace hra2 := rangeAt.ext hra2 hg2 hx
      replace hrb2 := rangeAt.ext hrb2 hg2 hx
      replace hg2 := Nat.lt_of_lt_of_le hg2 hx.below.size
      replace hm3 := Nat.le_trans hm3 hx.below.size
      replace hE := hE.trans hx
      clear hx
      replace qz : r5 < W401.heap.size := b5.lt
      replace qz4 : r4 < W401.heap.size := b4.lt
      refine wpAnyD_takeSL (i := 0) rfl (by kernel_rfl) (fun _ _ _ _ h => h) hS ?_
      apply Exists.intro
      refine ⟨Or.inl ⟨by rfl, ?_⟩, ?_⟩
      (focus (intro wz hz; (first | exact exec_ld 28 _ rfl rfl ((GrownX.blk hz x0 (by first | decide | (simp; done) | (simp; omega) | omega)).range) Try.underlying28 rfl (by exact Try.infoT))))
      (try simp only [Act.put, Zs, Zz, Zc])
      refine wpAnyD_takeSL (i := 1) rfl (by kernel_rfl) (fun _ _ _ _ h => h) hS ?_
      apply Exists.intro
      refine ⟨Or.inl ⟨by rfl, ?_⟩, ?_⟩
      (focus (intro wz hz; (first | exact exec_ld 25 _ rfl rfl ((GrownX.blk hz x1 (by first | decide | (simp; done) | (simp; omega) | omega)).range) Try.underlying25 rfl (by exact Try.infoR))))
      (try simp only [Act.put, Zs, Zz, Zc])
      refine wpAnyD_takeSL (i := 2) rfl (by kernel_rfl) (fun _ _ _ _ h => h) hS ?_
      apply Exists.intro
      refine ⟨Or.inl ⟨by rfl, ?_⟩, ?_⟩
      (focus (intro wz hz; go_simp; (try with_reducible rfl); done))
      (try simp only [Act.put, Zs, Zz, Zc])
      refine wpAnyD_takeSL (i := 3) rfl (by kernel_rfl) (fun _ _ _ _ h => h) hS ?_
      apply Exists.intro
      refine ⟨Or.inl ⟨by rfl, ?_⟩, ?_⟩
      (focus (intro wz hz; have zc := (GrownX.blk hz x4 (by first | decide | (simp; done) | (simp; omega) | omega)).cell 10; go_simp; (try with_reducible rfl); done))
      (try simp only [Act.put, Zs, Zz, Zc])
      refine wpAnyD_takeSL (i := 4) rfl (by kernel_rfl) (fun _ _ _ _ h => h) hS ?_
      apply Exists.intro
      refine ⟨Or.inl ⟨by rfl, ?_⟩, ?_⟩
      (focus (intro wz hz; go_simp; (try with_reducible rfl); done))
      (try simp only [Act.put, Zs, Zz, Zc])
      refine wpAnyD_takeSL (i := 5) rfl (by kernel_rfl) (fun _ _ _ _ h => h) hS ?_
      apply Exists.intro
      refine ⟨Or.inl ⟨by rfl, ?_⟩, ?_⟩
      (focus (intro wz hz; (first | exact exec_ld 28 _ rfl rfl (GrownX.range hz (ya2) (yg2) (by first | decide | (simp; done) | (simp; omega) | omega)) Try.underlying28 rfl (by exact Try.infoT) | exact exec_ld 28 _ rfl rfl (GrownX.range hz (yb2) (yg2) (by first | decide | (simp; done) | (simp; omega) | omega)) Try.underlying28 rfl (by exact Try.infoT))))
      (try simp only [Act.put, Zs, Zz, Zc])
      refine wpAnyD_takeSL (i := 7) rfl (by kernel_rfl) (fun _ _ _ _ h => h) hS ?_
      apply Exists.intro
      refine ⟨Or.inl ⟨by rfl, ?_⟩, ?_⟩
      (focus (intro wz hz; go_simp; (try with_reducible rfl); done))
      (try simp only [Act.put, Zs, Zz, Zc])
      refine wpAnyD_takeSL (i := 8) rfl (by kernel_rfl) (fun _ _ _ _ h => h) hS ?_
      apply Exists.intro
      refine ⟨Or.inl ⟨by rfl, ?_⟩, ?_⟩
      (focus (intro wz hz; (first | exact exec_ld 25 _ rfl rfl (Blk.rgn (GrownX.blk hz x4 (by first | decide | (simp; done) | (simp; omega) | omega))) Try.underlying25 rfl (by exact Try.infoR))))
      (try simp only [Act.put, Zs, Zz, Zc])
      refine wpAnyD_takeSL (i := 9) rfl (by kernel_rfl) (fun _ _ _ _ h => h) hS ?_
      apply Exists.intro
      refine ⟨Or.inl ⟨by rfl, ?_⟩, ?_⟩
      (focus (intro wz hz; go_simp; (try with_reducible rfl); done))
      (try simp only [Act.put, Zs, Zz, Zc])
      refine wpAnyD_takeSL (i := 10) rfl (by kernel_rfl) (fun _ _ _ _ h => h) hS ?_
      apply Exists.intro
      refine ⟨Or.inl ⟨by rfl, ?_⟩, ?_⟩
      (focus (intro wz hz; have zc := (GrownX.blk hz x4 (by first | decide | (simp; done) | (simp; omega) | omega)).cell 10; go_simp; (try with_reducible rfl); done))
      (try simp only [Act.put, Zs, Zz, Zc])
      refine wpAnyD_takeSL (i := 11) rfl (by kernel_rfl) (fun _ _ _ _ h => h) hS ?_
      apply Exists.intro
      refine ⟨Or.inl ⟨by rfl, ?_⟩, ?_⟩
      (focus (intro wz hz; go_simp; (try with_reducible rfl); done))
      (try simp only [Act.put, Zs, Zz, Zc])
      refine wpAnyD_takeSL (i := 12) rfl (by kernel_rfl) (fun _ _ _ _ h => h) hS ?_
      apply Exists.intro
      refine ⟨Or.inl ⟨by rfl, ?_⟩, ?_⟩
      (focus (intro wz hz; (first | exact exec_ld 28 _ rfl rfl (GrownX.range hz (ya2) (yg2) (by first | decide | (simp; done) | (simp; omega) | omega)) Try.underlying28 rfl (by exact Try.infoT) | exact exec_ld 28 _ rfl rfl (GrownX.range hz (yb2) (yg2) (by first | decide | (simp; done) | (simp; omega) | omega)) Try.underlying28 rfl (by exact Try.infoT))))
      (try simp only [Act.put, Zs, Zz, Zc])
      refine wpAnyD_takeSL (i := 13) rfl (by kernel_rfl) (fun _ _ _ _ h => h) hS ?_
      apply Exists.intro
      refine ⟨Or.inl ⟨by rfl, ?_⟩, ?_⟩
      (focus (intro wz hz; go_simp; (try with_reducible rfl); done))
      (try simp only [Act.put, Zs, Zz, Zc])
      refine wpAnyD_takeSL (i := 14) rfl (by kernel_rfl) (fun _ _ _ _ h => h) hS ?_
      apply Exists.intro
      refine ⟨Or.inl ⟨by rfl, ?_⟩, ?_⟩
      (focus (intro wz hz; (first | exact exec_ld 25 _ rfl rfl (Blk.rgn (GrownX.blk hz x2 (by first | decide | (simp; done) | (simp; omega) | omega))) Try.underlying25 rfl (by exact Try.infoR))))
      (try simp only [Act.put, Zs, Zz, Zc])
      refine wpAnyD_takeSL (i := 15) rfl (by kernel_rfl) (fun _ _ _ _ h => h) hS ?_
      apply Exists.intro
      refine ⟨Or.inl ⟨by rfl, ?_⟩, ?_⟩
      (focus (intro wz hz; (first | exact exec_ld 28 _ rfl rfl ((GrownX.blk hz x5 (by first | decide | (simp; done) | (simp; omega) | omega)).range) Try.underlying28 rfl (by exact Try.infoT))))
      (try simp only [Act.put, Zs, Zz, Zc])
      -- several: [6, 16]
      refine wpAnyD_oneL (i := 6) rfl (by kernel_rfl) (fun K hK => ?_)
      rw [if_pos (by rfl)]
      go_simp
      (go_at_call 55; refine (rnode_P (A := Lo A w.heap.size m) (l) x (d) _ _ _ (Up.lo hA hE hm3) hl.up tpd.up hvx bl (bd_node (bd_node br).1).1).mono ?_; intro e W402 hpp; obtain ⟨v1, rfl, t1, hx⟩ := hpp)
      replace hS := hS.ext hx; (try dsimp only); refine hK.out _ _ (fun _ => hS) ?_; clear hK K; (try simp only [Act.put, Zs, Zz, Zc])
      replace b0 := b0.ext hx
      replace b1 := b1.ext hx
      replace b2 := b2.ext hx
      replace b3 := b3.ext hx
      replace b4 := b4.ext hx
      replace b5 := b5.ext hx
      replace hl := isT.ext hx hl
      replace tpc := isT.ext hx tpc
      replace tpd := isT.ext hx tpd
      replace tpu := isT.ext hx tpu
      replace hra2 := rangeAt.ext hra2 hg2 hx
      replace hrb2 := rangeAt.ext hrb2 hg2 hx
      replace hg2 := Nat.lt_of_lt_of_le hg2 hx.below.size
      replace hm3 := Nat.le_trans hm3 hx.below.size
      replace hE := hE.trans hx
      clear hx
      replace qz : r5 < W402.heap.size := b5.lt
      replace qz4 : r4 < W402.heap.size := b4.lt
      refine wpAnyD_oneL (i := 16) rfl (by kernel_rfl) (fun K hK => ?_)
      rw [if_pos (by rfl)]
      go_simp
      (go_at_call 55; refine (rnode_P (A := Lo A w.heap.size m) (u) y (c) _ _ _ (Up.lo hA hE hm3) tpu.up tpc.up (bd_node br).2.1 (bd_node (bd_node br).1).2.2 (bd_node br).2.2).mono ?_; intro e W403 hpp; obtain ⟨v2, rfl, t2, hx⟩ := hpp)
      replace hS := hS.ext hx; (try dsimp only); refine hK.out _ _ (fun _ => hS) ?_; clear hK K; (try simp only [Act.put, Zs, Zz, Zc])
      replace b0 := b0.ext hx
      replace b1 := b1.ext hx
      replace b2 := b2.ext hx
      replace b3 := b3.ext hx
      replace b4 := b4.ext hx
      replace b5 := b5.ext hx
      replace hl := isT.ext hx hl
      replace tpc := isT.ext hx tpc
      replace tpd := isT.ext hx tpd
      replace tpu := isT.ext hx tpu
      replace hra2 := rangeAt.ext hra2 hg2 hx
      replace hrb2 := rangeAt.ext hrb2 hg2 hx
      replace hg2 := Nat.lt_of_lt_of_le hg2 hx.below.size
      replace hm3 := Nat.le_trans hm3 hx.below.size
      replace t1 := isT.ext hx t1
      replace hE := hE.trans hx
      clear hx
      replace qz : r5 < W403.heap.size := b5.lt
      replace qz4 : r4 < W403.heap.size := b4.lt
      refine wpAnyD_oneL (i := 17) rfl (by kernel_rfl) (fun K hK => ?_)
      rw [if_pos (by rfl)]
      go_simp
      (go_at_call 55; refine (rnode_P (A := Lo A w.heap.size m) (PT.N l x d) z (PT.N u y c) _ _ _ (Up.lo hA hE hm3) t1 t2 (bd_node (bd_node br).1).2.1 (bd_mk bl hvx (bd_node (bd_node br).1).1 ⟨by omega, by omega⟩) (bd_mk (bd_node (bd_node br).1).2.2 (bd_node br).2.1 (bd_node br).2.2 ⟨by omega, by omega⟩)).mono ?_; intro e W404 hpp; obtain ⟨v3, rfl, t3, hx⟩ := hpp)
      replace hS := hS.ext hx; (try dsimp only); refine hK.out _ _ (fun _ => hS) ?_; clear hK K; (try simp only [Act.put, Zs, Zz, Zc])
      replace b0 := b0.ext hx
      replace b1 := b1.ext hx
      replace b2 := b2.ext hx
      replace b3 := b3.ext hx
      replace b4 := b4.ext hx
      replace b5 := b5.ext hx
      replace hl := isT.ext hx hl
      replace tpc := isT.ext hx tpc
      replace tpd := isT.ext hx tpd
      replace tpu := isT.ext hx tpu
      replace hra2 := rangeAt.ext hra2 hg2 hx
      replace hrb2 := rangeAt.ext hrb2 hg2 hx
      replace hg2 := Nat.lt_of_lt_of_le hg2 hx.below.size
      replace hm3 := Nat.le_trans hm3 hx.below.size
      replace t1 := isT.ext hx t1
      replace t2 := isT.ext hx t2
      replace hE := hE.trans hx
      clear hx
      replace qz : r5 < W404.heap.size := b5.lt
      replace qz4 : r4 < W404.heap.size := b4.lt
      refine wpAnyD_oneL (i := 18) rfl (by kernel_rfl) (fun K hK => ?_)
      rw [if_pos (by rfl)]
      refine wp_store_box 28 _ _ (by rfl) b3 (by rfl) (by rfl) (by exact Try.infoT) (by first | exact RV.one _ | exact TV.one _ rfl | exact TV.one _ (isT.one hl) | exact TV.one _ (isT.one tpc) | exact TV.one _ (isT.one tpd) | exact TV.one _ (isT.one tpu) | exact TV.one _ (isT.one t1) | exact TV.one _ (isT.one t2) | exact TV.one _ (isT.one t3)) (by rfl) (fun W405 hg bn => ?_)
      replace b0 := b0.kept hg (Zn (by omega))
      replace b1 := b1.kept hg (Zn (by omega))
      replace b2 := b2.kept hg (Zn (by omega))
      replace b4 := b4.kept hg (Zn (by omega))
      replace b5 := b5.kept hg (Zn (by omega))
      replace hl := isT.kept hg (Lw.not (by omega)) hl
      replace tpc := isT.kept hg (Lw.not (by omega)) tpc
      replace tpd := isT.kept hg (Lw.not (by omega)) tpd
      replace tpu := isT.kept hg (Lw.not (by omega)) tpu
      replace hra2 := rangeAt.kept hra2 hg2 hg (Zn (by omega))
      replace hrb2 := rangeAt.kept hrb2 hg2 hg (Zn (by omega))
      replace hg2 := Nat.lt_of_lt_of_le hg2 hg.size
      replace hm3 := Nat.le_trans hm3 hg.size
      replace t1 := isT.kept hg (Lo.not (by omega) (by omega)) t1
      replace t2 := isT.kept hg (Lo.not (by omega) (by omega)) t2
      replace t3 := isT.kept hg (Lo.not (by omega) (by omega)) t3
      replace hE := ext_grow hE hg (fun q hq => by cases hq; omega)
      replace hS := hS.step hg (by first | decide | (simp; done) | (simp; omega) | omega)
      clear b3 hg
      have b3 := bn
      clear bn
      (try dsimp only); refine hK.out _ _ (fun _ => hS) ?_; clear hK K; (try simp only [Act.put, Zs, Zz, Zc])
      replace qz : r5 < W405.heap.size := b5.lt
      replace qz4 : r4 < W405.heap.size := b4.lt
      refine wpAnyD_done (by kernel_rfl) ?_ _
      clear hS x0 x1 x2 x3 x4 x5
      go_wp2_with fail
      exact bodyPost_ret (res_c rfl (GivesC.of b3 rfl Try.underlying28 rfl Try.infoT)) rfl ⟨v3, rfl, by rw [hJ.out, hR.out]; exact t3.hi, hE⟩

theorem rbal_P {A : Nat → Prop} (l : PT) (x : RV) (r : PT) (vl vr : TV) (w : World) (hA : Up A w) (hl : isT A w l.bt vl) (hr : isT A w r.bt vr) (hvx : vld x) (bl : bd l) (br : bd r) (h9 : l.ht ≤ 900 ∧ r.ht ≤ 900) :
    Calls Try.prog 56 #[.agg vl.cs.toArray, .agg x.cs.toArray, .agg vr.cs.toArray] w fun e w' => ∃ v, e = .returned (.agg v.cs.toArray) ∧ isT A w' (joinP l x r).bt v ∧ Ext w w' := by
  by_cases c1 : r.ht + 1 < l.ht
  · cases l with
    | E => exact absurd c1 (by have := PT.ht_nn r; simp only [PT.ht]; omega)
    | N a y b => exact rbal_L a y b x r vl vr w hA hl hr hvx bl br h9 c1 _ rfl
  · by_cases c3 : l.ht + 1 < r.ht
    · cases r with
      | E => exact absurd c3 (by have := PT.ht_nn l; simp only [PT.ht]; omega)
      | N b y c => exact rbal_R l x b y c vl vr w hA hl hr hvx bl br h9 c1 c3 _ rfl
    · have e : joinP l x r = .N l x r := by unfold joinP; rw [if_neg c1, if_neg c3]
      rw [e]
      exact rbal_0 l x r vl vr w hA hl hr hvx bl br h9 c1 c3

end Go.Proofs.Ytnbohogkfdeddaa
