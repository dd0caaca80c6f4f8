/- Rangetree: the reference: insert. -/
import Derived.Test.YtnbohogkfdeddaaRva
import Derived.Test.YtnbohogkfdeddaaRtl
set_option linter.unusedSimpArgs false
set_option linter.unusedVariables false
namespace Go.Proofs.Ytnbohogkfdeddaa
open Go.RowKit

def RInsOK (p : PT) : Prop := ∀ (A : Nat → Prop) (r : RV) (v : TV) (w : World), Up A w → isT A w p.bt v → vld r → bd p → p.bal → p.ht ≤ 800 →
    Calls Try.prog 33 #[.agg v.cs.toArray, .agg r.cs.toArray] w fun e w' => ∃ v', e = .returned (.agg v'.cs.toArray) ∧ isT A w' (insP p r).bt v' ∧ Ext w w'

set_option maxRecDepth 100000 in
set_option maxHeartbeats 4000000 in
theorem rins_E : RInsOK .E := by
  intro A r v w hA ht hvr bp hb h8
  have h0 : v.h = 0 := ht.1
  have hv0 : (v.h == 0) = true := by rw [h0]; rfl
  clear h0
  replace ht := isT.lw ht
  go_enter Try.func33, Try.ntmps33
  go_upto_region 1 with fail
  refine name_wX (fun W1 hW => ?_)
  have hE : Ext w W1 := by rw [hW]; repeat' (first | exact Ext.refl _ | apply Ext.al)
  have b0 : Blk W1 (w.heap.size) 28 v.cs := by rw [hW]; exact ((Blk.newAt rfl).alloc _).alloc _
  have b1 : Blk W1 (w.heap.size + 1) 25 r.cs := by rw [hW]; exact (Blk.newAt (by simp)).alloc _
  have b2 : Blk W1 (w.heap.size + 1 + 1) 28 TV.z.cs := by rw [hW]; exact Blk.newAt (by simp)
  clear hW
  obtain ⟨r2, hr2⟩ : ∃ r, r = w.heap.size + 1 + 1 := ⟨_, rfl⟩
  rw [← hr2] at b2
  try rw [← hr2]
  obtain ⟨r1, hr1⟩ : ∃ r, r = w.heap.size + 1 := ⟨_, rfl⟩
  rw [← hr1] at b1
  try rw [← hr1]
  obtain ⟨r0, hr0⟩ : ∃ r, r = w.heap.size := ⟨_, rfl⟩
  rw [← hr0] at b0
  try rw [← hr0]
  have q0 : w.heap.size ≤ r0 := by omega
  have q1 : r0 < r1 := by omega
  have q2 : r1 < r2 := by omega
  clear hr0 hr1 hr2
  have qz : r2 < W1.heap.size := b2.lt
  replace ht := isT.ext hE ht
  go_upto_region 1 with fail
  refine wp_region_lit ?_
  have zc0 := b0.cell 0
  iterate 3 (refine wpList_plain rfl (fun K hK => ?_); go_simp; (try simp only [hv0]); (try dsimp only); refine hK _ _ ?_; clear hK K; (try simp only [Act.put, Zs, Zz, Zc]))
  clear zc0
  refine wpList_nil ?_
  go_upto_region 2 with fail
  obtain ⟨m, hm, hm2⟩ : ∃ m, r2 < m ∧ m = W1.heap.size := ⟨_, qz, rfl⟩
  have hm3 : m ≤ W1.heap.size := by omega
  clear hm2
  have tz : isT (Lo A w.heap.size m) W1 PT.E.bt TV.z := isT_z _ _
  refine wp_region_lit ?_
  refine wpList_plain rfl (fun K hK => ?_); go_simp; (try dsimp only); refine hK _ _ ?_; clear hK K; (try simp only [Act.put, Zs, Zz, Zc])
  refine wpList_plain rfl (fun K hK => ?_); (first | (refine wp_ld 25 _ (b1.range) (by rfl) (by rfl) Try.underlying25 rfl (by exact Try.infoR) ?_)); (try dsimp only); refine hK _ _ ?_; clear hK K; (try simp only [Act.put, Zs, Zz, Zc])
  refine wpList_plain rfl (fun K hK => ?_); go_simp; (try dsimp only); refine hK _ _ ?_; clear hK K; (try simp only [Act.put, Zs, Zz, Zc])
  refine wpList_plain rfl (fun K hK => ?_); go_simp; (go_at_call 55; refine (rnode_P (A := Lo A w.heap.size m) (PT.E) r (PT.E) _ _ _ (Up.lo hA hE hm3) tz tz hvr bp bp).mono ?_; intro e W2 hpp; obtain ⟨v1, rfl, t1, hx⟩ := hpp); (try dsimp only); refine hK _ _ ?_; clear hK K; (try simp only [Act.put, Zs, Zz, Zc])
  replace b0 := b0.ext hx
  replace b1 := b1.ext hx
  replace b2 := b2.ext hx
  replace ht := isT.ext hx ht
  replace hm3 := Nat.le_trans hm3 hx.below.size
  replace tz := isT.ext hx tz
  replace hE := hE.trans hx
  clear hx
  replace qz : r2 < W2.heap.size := b2.lt
  refine wpList_plain rfl (fun K hK => ?_)
  refine wp_store_box 28 _ _ (by rfl) b2 (by rfl) (by rfl) (by exact Try.infoT) (by first | exact RV.one _ | exact TV.one _ rfl | exact TV.one _ (isT.one ht) | exact TV.one _ (isT.one tz) | exact TV.one _ (isT.one t1)) (by rfl) (fun W3 hg bn => ?_)
  replace b0 := b0.kept hg (Zn (by omega))
  replace b1 := b1.kept hg (Zn (by omega))
  replace ht := isT.kept hg (Lw.not (by omega)) ht
  replace hm3 := Nat.le_trans hm3 hg.size
  replace tz := isT.kept hg (Lo.not (by omega) (by omega)) tz
  replace t1 := isT.kept hg (Lo.not (by omega) (by omega)) t1
  replace hE := ext_grow hE hg (fun q hq => by cases hq; omega)
  clear b2 hg
  have b2 := bn
  clear bn
  (try dsimp only); refine hK _ _ ?_; clear hK K; (try simp only [Act.put, Zs, Zz, Zc])
  replace qz : r2 < W3.heap.size := b2.lt
  refine wpList_nil ?_
  go_wp2_with fail
  exact bodyPost_ret (res_c rfl (GivesC.of b2 rfl Try.underlying28 rfl Try.infoT)) rfl ⟨v1, rfl, t1.hi, hE⟩

set_option maxRecDepth 100000 in
set_option maxHeartbeats 4000000 in
theorem rins_al {a b : PT} {y : RV} (iha : RInsOK a) (ihb : RInsOK b) (A : Nat → Prop) (r : RV) (v : TV) (w : World) (hA : Up A w) (ht : isT A w (PT.N a y b).bt v) (hvr : vld r) (bp : bd (.N a y b)) (hb : (PT.N a y b).bal) (h8 : (PT.N a y b).ht ≤ 800) (hc :  r.s < y.s) :
    Calls Try.prog 33 #[.agg v.cs.toArray, .agg r.cs.toArray] w fun e w' => ∃ v', e = .returned (.agg v'.cs.toArray) ∧ isT A w' (joinP (insP a r) y b).bt v' ∧ Ext w w' := by
  have h0 : v.h = (PT.N a y b).ht := ht.1
  have hv0 : (v.h == 0) = false := by have := PT.ht_pos a y b; simp; omega
  clear h0
  obtain ⟨ba, hvy, bb⟩ := bd_node bp
  have hh : a.ht ≤ 799 ∧ b.ht ≤ 799 := by have := PT.ht_nn a; have := PT.ht_nn b; simp only [PT.ht] at h8; omega
  have hba : a.bal := hb.1
  have hbb : b.bal := hb.2.1
  have hi9 := (ins_bal a r hba).2.2
  clear h8 bp hb
  replace ht := isT.lw ht
  obtain ⟨-, -, -, -, xx, -, gb1, og1, cc1, pa, pb, hk1, hc1, hg1, -, hra1, hrb1, tpa, tpb⟩ := ht
  obtain ⟨ah1, af1, al1, ag1, ax1, ak1⟩ := v
  dsimp only at *
  subst ax1 hk1
  have hcI1 : (2 : Int) ≤ (cc1 : Int) := by omega
  have hgw1 := hg1
  have hcb : decide (r.s < y.s) = true := decide_eq_true hc
  go_enter Try.func33, Try.ntmps33
  go_upto_region 1 with fail
  refine name_wX (fun W1 hW => ?_)
  have hE : Ext w W1 := by rw [hW]; repeat' (first | exact Ext.refl _ | apply Ext.al)
  have b0 : Blk W1 (w.heap.size) 28 (TV.cs ⟨ah1, af1, al1, ag1, y, .slice (some ⟨gb1, og1, none⟩) 2 cc1⟩) := by rw [hW]; exact ((Blk.newAt rfl).alloc _).alloc _
  have b1 : Blk W1 (w.heap.size + 1) 25 r.cs := by rw [hW]; exact (Blk.newAt (by simp)).alloc _
  have b2 : Blk W1 (w.heap.size + 1 + 1) 28 TV.z.cs := by rw [hW]; exact Blk.newAt (by simp)
  clear hW
  obtain ⟨r2, hr2⟩ : ∃ r, r = w.heap.size + 1 + 1 := ⟨_, rfl⟩
  rw [← hr2] at b2
  try rw [← hr2]
  obtain ⟨r1, hr1⟩ : ∃ r, r = w.heap.size + 1 := ⟨_, rfl⟩
  rw [← hr1] at b1
  try rw [← hr1]
  obtain ⟨r0, hr0⟩ : ∃ r, r = w.heap.size := ⟨_, rfl⟩
  rw [← hr0] at b0
  try rw [← hr0]
  have q0 : w.heap.size ≤ r0 := by omega
  have q1 : r0 < r1 := by omega
  have q2 : r1 < r2 := by omega
  clear hr0 hr1 hr2
  have qz : r2 < W1.heap.size := b2.lt
  replace tpa := isT.ext hE tpa
  replace tpb := isT.ext hE tpb
  replace hra1 := rangeAt.ext hra1 hg1 hE
  replace hrb1 := rangeAt.ext hrb1 hg1 hE
  replace hg1 := Nat.lt_of_lt_of_le hg1 hE.below.size
  go_upto_region 1 with fail
  refine wp_region_lit ?_
  have zc0 := b0.cell 0
  iterate 3 (refine wpList_plain rfl (fun K hK => ?_); go_simp; (try simp only [hv0]); (try dsimp only); refine hK _ _ ?_; clear hK K; (try simp only [Act.put, Zs, Zz, Zc]))
  clear zc0
  refine wpList_nil ?_
  go_upto_region 3 with fail
  refine wp_region_lit ?_
  have zc0 := b1.cell 0; have zc1 := b0.cell 4
  iterate 6 (refine wpList_plain rfl (fun K hK => ?_); go_simp; (try simp only [hcb]); (try dsimp only); refine hK _ _ ?_; clear hK K; (try simp only [Act.put, Zs, Zz, Zc]))
  clear zc0 zc1
  refine wpList_nil ?_
  go_upto_region 4 with fail
  obtain ⟨m, hm, hm2⟩ : ∃ m, r2 < m ∧ m = W1.heap.size := ⟨_, qz, rfl⟩
  have hm3 : m ≤ W1.heap.size := by omega
  clear hm2
  have ya1 := hra1
  have yb1 := hrb1
  have yg1 := hg1
  have x0 := b0
  have x1 := b1
  have x2 := b2
  have hS : GrownX W1 [r2] W1 := GrownX.refl _ _
  refine wp_region_S (GrownX W1 [r2]) (by kernel_rfl) ?_
  refine name_wd (fun W2 hW => ?_)
  have hx : Ext W1 W2 := by rw [hW]; exact ext_drew _
  clear hW
  replace hS := hS.ext hx
  replace b0 := b0.ext hx
  replace b1 := b1.ext hx
  replace b2 := b2.ext hx
  replace tpa := isT.ext hx tpa
  replace tpb := isT.ext hx tpb
  replace hra1 := rangeAt.ext hra1 hg1 hx
  replace hrb1 := rangeAt.ext hrb1 hg1 hx
  replace hg1 := Nat.lt_of_lt_of_le hg1 hx.below.size
  replace hm3 := Nat.le_trans hm3 hx.below.size
  replace hE := hE.trans hx
  clear hx
  replace qz : r2 < W2.heap.size := b2.lt
  refine wpAnyD_takeSL (i := 0) rfl (by kernel_rfl) (fun _ _ _ _ h => h) hS ?_
  apply Exists.intro
  refine ⟨Or.inl ⟨by rfl, ?_⟩, ?_⟩
  (focus (intro wz hz; go_simp; (try with_reducible rfl); done))
  (try simp only [Act.put, Zs, Zz, Zc])
  refine wpAnyD_takeSL (i := 1) rfl (by kernel_rfl) (fun _ _ _ _ h => h) hS ?_
  apply Exists.intro
  refine ⟨Or.inl ⟨by rfl, ?_⟩, ?_⟩
  (focus (intro wz hz; have zc := (GrownX.blk hz x0 (by first | decide | (simp; done) | (simp; omega) | omega)).cell 10; go_simp; (try with_reducible rfl); done))
  (try simp only [Act.put, Zs, Zz, Zc])
  refine wpAnyD_takeSL (i := 2) rfl (by kernel_rfl) (fun _ _ _ _ h => h) hS ?_
  apply Exists.intro
  refine ⟨Or.inl ⟨by rfl, ?_⟩, ?_⟩
  (focus (intro wz hz; go_simp; (try with_reducible rfl); done))
  (try simp only [Act.put, Zs, Zz, Zc])
  refine wpAnyD_takeSL (i := 3) rfl (by kernel_rfl) (fun _ _ _ _ h => h) hS ?_
  apply Exists.intro
  refine ⟨Or.inl ⟨by rfl, ?_⟩, ?_⟩
  (focus (intro wz hz; (first | exact exec_ld 28 _ rfl rfl (GrownX.range hz (ya1) (yg1) (by first | decide | (simp; done) | (simp; omega) | omega)) Try.underlying28 rfl (by exact Try.infoT) | exact exec_ld 28 _ rfl rfl (GrownX.range hz (yb1) (yg1) (by first | decide | (simp; done) | (simp; omega) | omega)) Try.underlying28 rfl (by exact Try.infoT))))
  (try simp only [Act.put, Zs, Zz, Zc])
  refine wpAnyD_takeSL (i := 4) rfl (by kernel_rfl) (fun _ _ _ _ h => h) hS ?_
  apply Exists.intro
  refine ⟨Or.inl ⟨by rfl, ?_⟩, ?_⟩
  (focus (intro wz hz; (first | exact exec_ld 25 _ rfl rfl ((GrownX.blk hz x1 (by first | decide | (simp; done) | (simp; omega) | omega)).range) Try.underlying25 rfl (by exact Try.infoR))))
  (try simp only [Act.put, Zs, Zz, Zc])
  refine wpAnyD_takeSL (i := 6) rfl (by kernel_rfl) (fun _ _ _ _ h => h) hS ?_
  apply Exists.intro
  refine ⟨Or.inl ⟨by rfl, ?_⟩, ?_⟩
  (focus (intro wz hz; go_simp; (try with_reducible rfl); done))
  (try simp only [Act.put, Zs, Zz, Zc])
  refine wpAnyD_takeSL (i := 7) rfl (by kernel_rfl) (fun _ _ _ _ h => h) hS ?_
  apply Exists.intro
  refine ⟨Or.inl ⟨by rfl, ?_⟩, ?_⟩
  (focus (intro wz hz; (first | exact exec_ld 25 _ rfl rfl (Blk.rgn (GrownX.blk hz x0 (by first | decide | (simp; done) | (simp; omega) | omega))) Try.underlying25 rfl (by exact Try.infoR))))
  (try simp only [Act.put, Zs, Zz, Zc])
  refine wpAnyD_takeSL (i := 8) rfl (by kernel_rfl) (fun _ _ _ _ h => h) hS ?_
  apply Exists.intro
  refine ⟨Or.inl ⟨by rfl, ?_⟩, ?_⟩
  (focus (intro wz hz; go_simp; (try with_reducible rfl); done))
  (try simp only [Act.put, Zs, Zz, Zc])
  refine wpAnyD_takeSL (i := 9) rfl (by kernel_rfl) (fun _ _ _ _ h => h) hS ?_
  apply Exists.intro
  refine ⟨Or.inl ⟨by rfl, ?_⟩, ?_⟩
  (focus (intro wz hz; have zc := (GrownX.blk hz x0 (by first | decide | (simp; done) | (simp; omega) | omega)).cell 10; go_simp; (try with_reducible rfl); done))
  (try simp only [Act.put, Zs, Zz, Zc])
  refine wpAnyD_takeSL (i := 10) rfl (by kernel_rfl) (fun _ _ _ _ h => h) hS ?_
  apply Exists.intro
  refine ⟨Or.inl ⟨by rfl, ?_⟩, ?_⟩
  (focus (intro wz hz; go_simp; (try with_reducible rfl); done))
  (try simp only [Act.put, Zs, Zz, Zc])
  refine wpAnyD_takeSL (i := 11) rfl (by kernel_rfl) (fun _ _ _ _ h => h) hS ?_
  apply Exists.intro
  refine ⟨Or.inl ⟨by rfl, ?_⟩, ?_⟩
  (focus (intro wz hz; (first | exact exec_ld 28 _ rfl rfl (GrownX.range hz (ya1) (yg1) (by first | decide | (simp; done) | (simp; omega) | omega)) Try.underlying28 rfl (by exact Try.infoT) | exact exec_ld 28 _ rfl rfl (GrownX.range hz (yb1) (yg1) (by first | decide | (simp; done) | (simp; omega) | omega)) Try.underlying28 rfl (by exact Try.infoT))))
  (try simp only [Act.put, Zs, Zz, Zc])
  refine wpAnyD_oneL (i := 5) rfl (by kernel_rfl) (fun K hK => ?_)
  rw [if_pos (by rfl)]
  go_simp
  (go_at_call 33; refine (iha (Lo A w.heap.size m) _ _ _ (Up.lo hA hE hm3) tpa.up hvr ba hba (by omega)).mono ?_; intro e W3 hpp; obtain ⟨v1, rfl, t1, hx⟩ := hpp)
  replace hS := hS.ext hx; (try dsimp only); refine hK.out _ _ (fun _ => hS) ?_; clear hK K; (try simp only [Act.put, Zs, Zz, Zc])
  replace b0 := b0.ext hx
  replace b1 := b1.ext hx
  replace b2 := b2.ext hx
  replace tpa := isT.ext hx tpa
  replace tpb := isT.ext hx tpb
  replace hra1 := rangeAt.ext hra1 hg1 hx
  replace hrb1 := rangeAt.ext hrb1 hg1 hx
  replace hg1 := Nat.lt_of_lt_of_le hg1 hx.below.size
  replace hm3 := Nat.le_trans hm3 hx.below.size
  replace hE := hE.trans hx
  clear hx
  replace qz : r2 < W3.heap.size := b2.lt
  refine wpAnyD_oneL (i := 12) rfl (by kernel_rfl) (fun K hK => ?_)
  rw [if_pos (by rfl)]
  go_simp
  (go_at_call 56; refine (rbal_P (A := Lo A w.heap.size m) (insP a r) y (b) _ _ _ (Up.lo hA hE hm3) t1 tpb.up hvy (bd_ins ba hba hvr (by omega)) bb (by omega)).mono ?_; intro e W4 hpp; obtain ⟨v2, rfl, t2, hx⟩ := hpp)
  replace hS := hS.ext hx; (try dsimp only); refine hK.out _ _ (fun _ => hS) ?_; clear hK K; (try simp only [Act.put, Zs, Zz, Zc])
  replace b0 := b0.ext hx
  replace b1 := b1.ext hx
  replace b2 := b2.ext hx
  replace tpa := isT.ext hx tpa
  replace tpb := isT.ext hx tpb
  replace hra1 := rangeAt.ext hra1 hg1 hx
  replace hrb1 := rangeAt.ext hrb1 hg1 hx
  replace hg1 := Nat.lt_of_lt_of_le hg1 hx.below.size
  replace hm3 := Nat.le_trans hm3 hx.below.size
  replace t1 := isT.ext hx t1
  replace hE := hE.trans hx
  clear hx
  replace qz : r2 < W4.heap.size := b2.lt
  refine wpAnyD_oneL (i := 13) rfl (by kernel_rfl) (fun K hK => ?_)
  rw [if_pos (by rfl)]
  refine wp_store_box 28 _ _ (by rfl) b2 (by rfl) (by rfl) (by exact Try.infoT) (by first | exact RV.one _ | exact TV.one _ rfl | exact TV.one _ (isT.one tpa) | exact TV.one _ (isT.one tpb) | exact TV.one _ (isT.one t1) | exact TV.one _ (isT.one t2)) (by rfl) (fun W5 hg bn => ?_)
  replace b0 := b0.kept hg (Zn (by omega))
  replace b1 := b1.kept hg (Zn (by omega))
  replace tpa := isT.kept hg (Lw.not (by omega)) tpa
  replace tpb := isT.kept hg (Lw.not (by omega)) tpb
  replace hra1 := rangeAt.kept hra1 hg1 hg (Zn (by omega))
  replace hrb1 := rangeAt.kept hrb1 hg1 hg (Zn (by omega))
  replace hg1 := Nat.lt_of_lt_of_le hg1 hg.size
  replace hm3 := Nat.le_trans hm3 hg.size
  replace t1 := isT.kept hg (Lo.not (by omega) (by omega)) t1
  replace t2 := isT.kept hg (Lo.not (by omega) (by omega)) t2
  replace hE := ext_grow hE hg (fun q hq => by cases hq; omega)
  replace hS := hS.step hg (by first | decide | (simp; done) | (simp; omega) | omega)
  clear b2 hg
  have b2 := bn
  clear bn
  (try dsimp only); refine hK.out _ _ (fun _ => hS) ?_; clear hK K; (try simp only [Act.put, Zs, Zz, Zc])
  replace qz : r2 < W5.heap.size := b2.lt
  refine wpAnyD_done (by kernel_rfl) ?_ _
  clear hS x0 x1 x2
  go_wp2_with fail
  exact bodyPost_ret (res_c rfl (GivesC.of b2 rfl Try.underlying28 rfl Try.infoT)) rfl ⟨v2, rfl, t2.hi, hE⟩

set_option maxRecDepth 100000 in
set_option maxHeartbeats 4000000 in
theorem rins_br {a b : PT} {y : RV} (iha : RInsOK a) (ihb : RInsOK b) (A : Nat → Prop) (r : RV) (v : TV) (w : World) (hA : Up A w) (ht : isT A w (PT.N a y b).bt v) (hvr : vld r) (bp : bd (.N a y b)) (hb : (PT.N a y b).bal) (h8 : (PT.N a y b).ht ≤ 800) (hc : ¬ r.s < y.s) :
    Calls Try.prog 33 #[.agg v.cs.toArray, .agg r.cs.toArray] w fun e w' => ∃ v', e = .returned (.agg v'.cs.toArray) ∧ isT A w' (joinP a y (insP b r)).bt v' ∧ Ext w w' := by
  have h0 : v.h = (PT.N a y b).ht := ht.1
  have hv0 : (v.h == 0) = false := by have := PT.ht_pos a y b; simp; omega
  clear h0
  obtain ⟨ba, hvy, bb⟩ := bd_node bp
  have hh : a.ht ≤ 799 ∧ b.ht ≤ 799 := by have := PT.ht_nn a; have := PT.ht_nn b; simp only [PT.ht] at h8; omega
  have hba : a.bal := hb.1
  have hbb : b.bal := hb.2.1
  have hi9 := (ins_bal b r hbb).2.2
  clear h8 bp hb
  replace ht := isT.lw ht
  obtain ⟨-, -, -, -, xx, -, gb1, og1, cc1, pa, pb, hk1, hc1, hg1, -, hra1, hrb1, tpa, tpb⟩ := ht
  obtain ⟨ah1, af1, al1, ag1, ax1, ak1⟩ := v
  dsimp only at *
  subst ax1 hk1
  have hcI1 : (2 : Int) ≤ (cc1 : Int) := by omega
  have hgw1 := hg1
  have hcb : decide (r.s < y.s) = false := decide_eq_false hc
  go_enter Try.func33, Try.ntmps33
  go_upto_region 1 with fail
  refine name_wX (fun W1 hW => ?_)
  have hE : Ext w W1 := by rw [hW]; repeat' (first | exact Ext.refl _ | apply Ext.al)
  have b0 : Blk W1 (w.heap.size) 28 (TV.cs ⟨ah1, af1, al1, ag1, y, .slice (some ⟨gb1, og1, none⟩) 2 cc1⟩) := by rw [hW]; exact ((Blk.newAt rfl).alloc _).alloc _
  have b1 : Blk W1 (w.heap.size + 1) 25 r.cs := by rw [hW]; exact (Blk.newAt (by simp)).alloc _
  have b2 : Blk W1 (w.heap.size + 1 + 1) 28 TV.z.cs := by rw [hW]; exact Blk.newAt (by simp)
  clear hW
  obtain ⟨r2, hr2⟩ : ∃ r, r = w.heap.size + 1 + 1 := ⟨_, rfl⟩
  rw [← hr2] at b2
  try rw [← hr2]
  obtain ⟨r1, hr1⟩ : ∃ r, r = w.heap.size + 1 := ⟨_, rfl⟩
  rw [← hr1] at b1
  try rw [← hr1]
  obtain ⟨r0, hr0⟩ : ∃ r, r = w.heap.size := ⟨_, rfl⟩
  rw [← hr0] at b0
  try rw [← hr0]
  have q0 : w.heap.size ≤ r0 := by omega
  have q1 : r0 < r1 := by omega
  have q2 : r1 < r2 := by omega
  clear hr0 hr1 hr2
  have qz : r2 < W1.heap.size := b2.lt
  replace tpa := isT.ext hE tpa
  replace tpb := isT.ext hE tpb
  replace hra1 := rangeAt.ext hra1 hg1 hE
  replace hrb1 := rangeAt.ext hrb1 hg1 hE
  replace hg1 := Nat.lt_of_lt_of_le hg1 hE.below.size
  go_upto_region 1 with fail
  refine wp_region_lit ?_
  have zc0 := b0.cell 0
  iterate 3 (refine wpList_plain rfl (fun K hK => ?_); go_simp; (try simp only [hv0]); (try dsimp only); refine hK _ _ ?_; clear hK K; (try simp only [Act.put, Zs, Zz, Zc]))
  clear zc0
  refine wpList_nil ?_
  go_upto_region 3 with fail
  refine wp_region_lit ?_
  have zc0 := b1.cell 0; have zc1 := b0.cell 4
  iterate 6 (refine wpList_plain rfl (fun K hK => ?_); go_simp; (try simp only [hcb]); (try dsimp only); refine hK _ _ ?_; clear hK K; (try simp only [Act.put, Zs, Zz, Zc]))
  clear zc0 zc1
  refine wpList_nil ?_
  go_upto_region 5 with fail
  obtain ⟨m, hm, hm2⟩ : ∃ m, r2 < m ∧ m = W1.heap.size := ⟨_, qz, rfl⟩
  have hm3 : m ≤ W1.heap.size := by omega
  clear hm2
  have ya1 := hra1
  have yb1 := hrb1
  have yg1 := hg1
  have x0 := b0
  have x1 := b1
  have x2 := b2
  have hS : GrownX W1 [r2] W1 := GrownX.refl _ _
  refine wp_region_S (GrownX W1 [r2]) (by kernel_rfl) ?_
  refine name_wd (fun W2 hW => ?_)
  have hx : Ext W1 W2 := by rw [hW]; exact ext_drew _
  clear hW
  replace hS := hS.ext hx
  replace b0 := b0.ext hx
  replace b1 := b1.ext hx
  replace b2 := b2.ext hx
  replace tpa := isT.ext hx tpa
  replace tpb := isT.ext hx tpb
  replace hra1 := rangeAt.ext hra1 hg1 hx
  replace hrb1 := rangeAt.ext hrb1 hg1 hx
  replace hg1 := Nat.lt_of_lt_of_le hg1 hx.below.size
  replace hm3 := Nat.le_trans hm3 hx.below.size
  replace hE := hE.trans hx
  clear hx
  replace qz : r2 < W2.heap.size := b2.lt
  refine wpAnyD_takeSL (i := 0) rfl (by kernel_rfl) (fun _ _ _ _ h => h) hS ?_
  apply Exists.intro
  refine ⟨Or.inl ⟨by rfl, ?_⟩, ?_⟩
  (focus (intro wz hz; go_simp; (try with_reducible rfl); done))
  (try simp only [Act.put, Zs, Zz, Zc])
  refine wpAnyD_takeSL (i := 1) rfl (by kernel_rfl) (fun _ _ _ _ h => h) hS ?_
  apply Exists.intro
  refine ⟨Or.inl ⟨by rfl, ?_⟩, ?_⟩
  (focus (intro wz hz; have zc := (GrownX.blk hz x0 (by first | decide | (simp; done) | (simp; omega) | omega)).cell 10; go_simp; (try with_reducible rfl); done))
  (try simp only [Act.put, Zs, Zz, Zc])
  refine wpAnyD_takeSL (i := 2) rfl (by kernel_rfl) (fun _ _ _ _ h => h) hS ?_
  apply Exists.intro
  refine ⟨Or.inl ⟨by rfl, ?_⟩, ?_⟩
  (focus (intro wz hz; go_simp; (try with_reducible rfl); done))
  (try simp only [Act.put, Zs, Zz, Zc])
  refine wpAnyD_takeSL (i := 3) rfl (by kernel_rfl) (fun _ _ _ _ h => h) hS ?_
  apply Exists.intro
  refine ⟨Or.inl ⟨by rfl, ?_⟩, ?_⟩
  (focus (intro wz hz; (first | exact exec_ld 28 _ rfl rfl (GrownX.range hz (ya1) (yg1) (by first | decide | (simp; done) | (simp; omega) | omega)) Try.underlying28 rfl (by exact Try.infoT) | exact exec_ld 28 _ rfl rfl (GrownX.range hz (yb1) (yg1) (by first | decide | (simp; done) | (simp; omega) | omega)) Try.underlying28 rfl (by exact Try.infoT))))
  (try simp only [Act.put, Zs, Zz, Zc])
  refine wpAnyD_takeSL (i := 4) rfl (by kernel_rfl) (fun _ _ _ _ h => h) hS ?_
  apply Exists.intro
  refine ⟨Or.inl ⟨by rfl, ?_⟩, ?_⟩
  (focus (intro wz hz; go_simp; (try with_reducible rfl); done))
  (try simp only [Act.put, Zs, Zz, Zc])
  refine wpAnyD_takeSL (i := 5) rfl (by kernel_rfl) (fun _ _ _ _ h => h) hS ?_
  apply Exists.intro
  refine ⟨Or.inl ⟨by rfl, ?_⟩, ?_⟩
  (focus (intro wz hz; (first | exact exec_ld 25 _ rfl rfl (Blk.rgn (GrownX.blk hz x0 (by first | decide | (simp; done) | (simp; omega) | omega))) Try.underlying25 rfl (by exact Try.infoR))))
  (try simp only [Act.put, Zs, Zz, Zc])
  refine wpAnyD_takeSL (i := 6) rfl (by kernel_rfl) (fun _ _ _ _ h => h) hS ?_
  apply Exists.intro
  refine ⟨Or.inl ⟨by rfl, ?_⟩, ?_⟩
  (focus (intro wz hz; go_simp; (try with_reducible rfl); done))
  (try simp only [Act.put, Zs, Zz, Zc])
  refine wpAnyD_takeSL (i := 7) rfl (by kernel_rfl) (fun _ _ _ _ h => h) hS ?_
  apply Exists.intro
  refine ⟨Or.inl ⟨by rfl, ?_⟩, ?_⟩
  (focus (intro wz hz; have zc := (GrownX.blk hz x0 (by first | decide | (simp; done) | (simp; omega) | omega)).cell 10; go_simp; (try with_reducible rfl); done))
  (try simp only [Act.put, Zs, Zz, Zc])
  refine wpAnyD_takeSL (i := 8) rfl (by kernel_rfl) (fun _ _ _ _ h => h) hS ?_
  apply Exists.intro
  refine ⟨Or.inl ⟨by rfl, ?_⟩, ?_⟩
  (focus (intro wz hz; go_simp; (try with_reducible rfl); done))
  (try simp only [Act.put, Zs, Zz, Zc])
  refine wpAnyD_takeSL (i := 9) rfl (by kernel_rfl) (fun _ _ _ _ h => h) hS ?_
  apply Exists.intro
  refine ⟨Or.inl ⟨by rfl, ?_⟩, ?_⟩
  (focus (intro wz hz; (first | exact exec_ld 28 _ rfl rfl (GrownX.range hz (ya1) (yg1) (by first | decide | (simp; done) | (simp; omega) | omega)) Try.underlying28 rfl (by exact Try.infoT) | exact exec_ld 28 _ rfl rfl (GrownX.range hz (yb1) (yg1) (by first | decide | (simp; done) | (simp; omega) | omega)) Try.underlying28 rfl (by exact Try.infoT))))
  (try simp only [Act.put, Zs, Zz, Zc])
  refine wpAnyD_takeSL (i := 10) rfl (by kernel_rfl) (fun _ _ _ _ h => h) hS ?_
  apply Exists.intro
  refine ⟨Or.inl ⟨by rfl, ?_⟩, ?_⟩
  (focus (intro wz hz; (first | exact exec_ld 25 _ rfl rfl ((GrownX.blk hz x1 (by first | decide | (simp; done) | (simp; omega) | omega)).range) Try.underlying25 rfl (by exact Try.infoR))))
  (try simp only [Act.put, Zs, Zz, Zc])
  refine wpAnyD_oneL (i := 11) rfl (by kernel_rfl) (fun K hK => ?_)
  rw [if_pos (by rfl)]
  go_simp
  (go_at_call 33; refine (ihb (Lo A w.heap.size m) _ _ _ (Up.lo hA hE hm3) tpb.up hvr bb hbb (by omega)).mono ?_; intro e W3 hpp; obtain ⟨v1, rfl, t1, hx⟩ := hpp)
  replace hS := hS.ext hx; (try dsimp only); refine hK.out _ _ (fun _ => hS) ?_; clear hK K; (try simp only [Act.put, Zs, Zz, Zc])
  replace b0 := b0.ext hx
  replace b1 := b1.ext hx
  replace b2 := b2.ext hx
  replace tpa := isT.ext hx tpa
  replace tpb := isT.ext hx tpb
  replace hra1 := rangeAt.ext hra1 hg1 hx
  replace hrb1 := rangeAt.ext hrb1 hg1 hx
  replace hg1 := Nat.lt_of_lt_of_le hg1 hx.below.size
  replace hm3 := Nat.le_trans hm3 hx.below.size
  replace hE := hE.trans hx
  clear hx
  replace qz : r2 < W3.heap.size := b2.lt
  refine wpAnyD_oneL (i := 12) rfl (by kernel_rfl) (fun K hK => ?_)
  rw [if_pos (by rfl)]
  go_simp
  (go_at_call 56; refine (rbal_P (A := Lo A w.heap.size m) (a) y (insP b r) _ _ _ (Up.lo hA hE hm3) tpa.up t1 hvy ba (bd_ins bb hbb hvr (by omega)) (by omega)).mono ?_; intro e W4 hpp; obtain ⟨v2, rfl, t2, hx⟩ := hpp)
  replace hS := hS.ext hx; (try dsimp only); refine hK.out _ _ (fun _ => hS) ?_; clear hK K; (try simp only [Act.put, Zs, Zz, Zc])
  replace b0 := b0.ext hx
  replace b1 := b1.ext hx
  replace b2 := b2.ext hx
  replace tpa := isT.ext hx tpa
  replace tpb := isT.ext hx tpb
  replace hra1 := rangeAt.ext hra1 hg1 hx
  replace hrb1 := rangeAt.ext hrb1 hg1 hx
  replace hg1 := Nat.lt_of_lt_of_le hg1 hx.below.size
  replace hm3 := Nat.le_trans hm3 hx.below.size
  replace t1 := isT.ext hx t1
  replace hE := hE.trans hx
  clear hx
  replace qz : r2 < W4.heap.size := b2.lt
  refine wpAnyD_oneL (i := 13) rfl (by kernel_rfl) (fun K hK => ?_)
  rw [if_pos (by rfl)]
  refine wp_store_box 28 _ _ (by rfl) b2 (by rfl) (by rfl) (by exact Try.infoT) (by first | exact RV.one _ | exact TV.one _ rfl | exact TV.one _ (isT.one tpa) | exact TV.one _ (isT.one tpb) | exact TV.one _ (isT.one t1) | exact TV.one _ (isT.one t2)) (by rfl) (fun W5 hg bn => ?_)
  replace b0 := b0.kept hg (Zn (by omega))
  replace b1 := b1.kept hg (Zn (by omega))
  replace tpa := isT.kept hg (Lw.not (by omega)) tpa
  replace tpb := isT.kept hg (Lw.not (by omega)) tpb
  replace hra1 := rangeAt.kept hra1 hg1 hg (Zn (by omega))
  replace hrb1 := rangeAt.kept hrb1 hg1 hg (Zn (by omega))
  replace hg1 := Nat.lt_of_lt_of_le hg1 hg.size
  replace hm3 := Nat.le_trans hm3 hg.size
  replace t1 := isT.kept hg (Lo.not (by omega) (by omega)) t1
  replace t2 := isT.kept hg (Lo.not (by omega) (by omega)) t2
  replace hE := ext_grow hE hg (fun q hq => by cases hq; omega)
  replace hS := hS.step hg (by first | decide | (simp; done) | (simp; omega) | omega)
  clear b2 hg
  have b2 := bn
  clear bn
  (try dsimp only); refine hK.out _ _ (fun _ => hS) ?_; clear hK K; (try simp only [Act.put, Zs, Zz, Zc])
  replace qz : r2 < W5.heap.size := b2.lt
  refine wpAnyD_done (by kernel_rfl) ?_ _
  clear hS x0 x1 x2
  go_wp2_with fail
  exact bodyPost_ret (res_c rfl (GivesC.of b2 rfl Try.underlying28 rfl Try.infoT)) rfl ⟨v2, rfl, t2.hi, hE⟩

theorem rins_P : ∀ p : PT, RInsOK p
  | .E => rins_E
  | .N a y b => by
    intro A r v w hA ht hvr bp hb h8
    unfold insP
    by_cases hc : r.s < y.s
    · rw [if_pos hc]
      exact rins_al (rins_P a) (rins_P b) A r v w hA ht hvr bp hb h8 hc
    · rw [if_neg hc]
      exact rins_br (rins_P a) (rins_P b) A r v w hA ht hvr bp hb h8 hc

end Go.Proofs.Ytnbohogkfdeddaa
