/- Rangetree: remove. -/
import Derived.Test.YtnbohogkfdeddaaRtk
import Derived.Test.YtnbohogkfdeddaaWk2
set_option linter.unusedSimpArgs false
set_option linter.unusedVariables false
namespace Go.Proofs.Ytnbohogkfdeddaa
open Go.RowKit

theorem min_mem : ∀ (b : PT) (d : RV), 0 < b.ht → minP b d ∈ b.flat := fun b d h => by
  obtain ⟨B, hB⟩ := min_flat b d h
  rw [hB]; simp
theorem rem_mem {t : PT} {s : Int} (h : ord t.flat) {y : RV} (hy : y ∈ (remP t s).flat) : y ∈ t.flat := by
  rw [rem_flat t s h] at hy
  exact (List.mem_filter.1 hy).1
theorem bd_rem {t : PT} {s : Int} (h : bd t) (ho : ord t.flat) (hb : t.bal) : bd (remP t s) :=
  ⟨fun y hy => h.v y (rem_mem ho hy), by have := (rem_bal t s hb).2.2; have := h.h; omega⟩
def RemOK (p : PT) : Prop := ∀ (A : Nat → Prop) (s : Int) (v : TV) (w : World), Up A w → isT A w p.bt v → bd p → p.bal → ord p.flat → p.ht ≤ 800 → (∃ y ∈ p.flat, y.s = s) →
    Calls Try.prog 41 #[.agg v.cs.toArray, .int .i64 s] w fun e w' => ∃ v', e = .returned (.agg v'.cs.toArray) ∧ isT A w' (remP p s).bt v' ∧ Ext w w'

set_option maxRecDepth 100000 in
set_option maxHeartbeats 4000000 in
theorem rem_a {a b : PT} {y : RV} (iha : RemOK a) (ihb : RemOK b) (A : Nat → Prop) (s : Int) (v : TV) (w : World) (hA : Up A w) (ht : isT A w (PT.N a y b).bt v) (bp : bd (.N a y b)) (hb : (PT.N a y b).bal) (ho : ord (PT.N a y b).flat) (h8 : (PT.N a y b).ht ≤ 800) (hs : ∃ z ∈ (PT.N a y b).flat, z.s = s) (c1 : s < y.s) :
    Calls Try.prog 41 #[.agg v.cs.toArray, .int .i64 s] w fun e w' => ∃ v', e = .returned (.agg v'.cs.toArray) ∧ isT A w' (joinP (remP a s) y b).bt v' ∧ Ext w w' := by
  obtain ⟨ba, hvy, bb⟩ := bd_node bp
  obtain ⟨oa, _, ob, l1, l2⟩ := ord_node ho
  have hh : a.ht ≤ 799 ∧ b.ht ≤ 799 := by have := PT.ht_nn a; have := PT.ht_nn b; simp only [PT.ht] at h8; omega
  have hba : a.bal := hb.1
  have hbb : b.bal := hb.2.1
  have hsa : ∃ z ∈ a.flat, z.s = s := by
    obtain ⟨z, hz, hzs⟩ := hs
    rcases List.mem_append.1 (show z ∈ a.flat ++ y :: b.flat from hz) with h | h
    · exact ⟨z, h, hzs⟩
    · rcases List.mem_cons.1 h with h | h
      · rw [h] at hzs; omega
      · have := apart_lt (l2 z h) hvy; omega
  have hi9 := (rem_bal a s hba).2.2
  clear h8 bp hb ho hs l1 l2
  go_enter Try.func41, Try.ntmps41
  go_upto_region 1 with fail
  refine name_wX (fun W1 hW => ?_)
  have hE : Ext w W1 := by rw [hW]; repeat' (first | exact Ext.refl _ | apply Ext.al)
  have b0 : Blk W1 (w.heap.size) 28 v.cs := by rw [hW]; exact (Blk.newAt rfl).alloc _
  have b1 : Blk W1 (w.heap.size + 1) 28 TV.z.cs := by rw [hW]; exact Blk.newAt (by simp)
  clear hW
  obtain ⟨r1, hr1⟩ : ∃ r, r = w.heap.size + 1 := ⟨_, rfl⟩
  rw [← hr1] at b1
  try rw [← hr1]
  obtain ⟨r0, hr0⟩ : ∃ r, r = w.heap.size := ⟨_, rfl⟩
  rw [← hr0] at b0
  try rw [← hr0]
  have q0 : w.heap.size ≤ r0 := by omega
  have q1 : r0 < r1 := by omega
  clear hr0 hr1
  have qz : r1 < W1.heap.size := b1.lt
  have tv := isT.ext hE (isT.lw ht)
  clear ht
  refine wp_region_lit ?_
  refine wpList_plain rfl (fun K hK => ?_); (first | (refine wp_ld 28 _ (b0.range) (by rfl) (by rfl) Try.underlying28 rfl (by exact Try.infoT) ?_)); (try dsimp only); refine hK _ _ ?_; clear hK K; (try simp only [Act.put, Zs, Zz, Zc])
  refine wpList_plain rfl (fun K hK => ?_); go_simp; (go_at_call 52; refine (parts_P (A := Lw A w.heap.size) _ _ _ _ _ tv).mono ?_; intro e W2 hpp; obtain ⟨va, vb, rfl, ta, tb, hx⟩ := hpp); (try dsimp only); refine hK _ _ ?_; clear hK K; (try simp only [Act.put, Zs, Zz, Zc])
  replace b0 := b0.ext hx
  replace b1 := b1.ext hx
  replace tv := isT.ext hx tv
  replace ta := isT.ext hx ta
  replace tb := isT.ext hx tb
  replace hE := hE.trans hx
  clear hx
  replace qz : r1 < W2.heap.size := b1.lt
  iterate 5 (refine wpList_plain rfl (fun K hK => ?_); go_simp; (try dsimp only); refine hK _ _ ?_; clear hK K; (try simp only [Act.put, Zs, Zz, Zc]))
  refine name_wl (fun W3 hW => ?_)
  have hx : Ext W2 W3 := by rw [hW]; exact ext_alloc _ _
  have b2 : Blk W3 W2.heap.size 28 TV.z.cs := by rw [hW]; exact Blk.newAt rfl
  clear hW
  replace b0 := b0.ext hx
  replace b1 := b1.ext hx
  replace tv := isT.ext hx tv
  replace ta := isT.ext hx ta
  replace tb := isT.ext hx tb
  replace hE := hE.trans hx
  clear hx
  obtain ⟨r2, hr⟩ : ∃ r, r = W2.heap.size := ⟨_, rfl⟩
  rw [← hr] at b2
  try rw [← hr]
  have q2 : r1 < r2 := by omega
  clear hr
  replace qz : r2 < W3.heap.size := b2.lt
  refine wpList_plain rfl (fun K hK => ?_); go_simp; (try dsimp only); refine hK _ _ ?_; clear hK K; (try simp only [Act.put, Zs, Zz, Zc])
  refine name_wl (fun W4 hW => ?_)
  have hx : Ext W3 W4 := by rw [hW]; exact ext_alloc _ _
  have b3 : Blk W4 W3.heap.size 25 RV.z.cs := by rw [hW]; exact Blk.newAt rfl
  clear hW
  replace b0 := b0.ext hx
  replace b1 := b1.ext hx
  replace b2 := b2.ext hx
  replace tv := isT.ext hx tv
  replace ta := isT.ext hx ta
  replace tb := isT.ext hx tb
  replace hE := hE.trans hx
  clear hx
  obtain ⟨r3, hr⟩ : ∃ r, r = W3.heap.size := ⟨_, rfl⟩
  rw [← hr] at b3
  try rw [← hr]
  have q3 : r2 < r3 := by omega
  clear hr
  replace qz : r3 < W4.heap.size := b3.lt
  refine wpList_plain rfl (fun K hK => ?_); go_simp; (try dsimp only); refine hK _ _ ?_; clear hK K; (try simp only [Act.put, Zs, Zz, Zc])
  refine name_wl (fun W5 hW => ?_)
  have hx : Ext W4 W5 := by rw [hW]; exact ext_alloc _ _
  have b4 : Blk W5 W4.heap.size 28 TV.z.cs := by rw [hW]; exact Blk.newAt rfl
  clear hW
  replace b0 := b0.ext hx
  replace b1 := b1.ext hx
  replace b2 := b2.ext hx
  replace b3 := b3.ext hx
  replace tv := isT.ext hx tv
  replace ta := isT.ext hx ta
  replace tb := isT.ext hx tb
  replace hE := hE.trans hx
  clear hx
  obtain ⟨r4, hr⟩ : ∃ r, r = W4.heap.size := ⟨_, rfl⟩
  rw [← hr] at b4
  try rw [← hr]
  have q4 : r3 < r4 := by omega
  clear hr
  replace qz : r4 < W5.heap.size := b4.lt
  refine wpList_plain rfl (fun K hK => ?_)
  refine wp_store_box 28 _ _ (by rfl) b2 (by rfl) (by rfl) (by exact Try.infoT) (by first | exact RV.one _ | exact TV.one _ rfl | exact TV.one _ (isT.one tv) | exact TV.one _ (isT.one ta) | exact TV.one _ (isT.one tb)) (by rfl) (fun W6 hg bn => ?_)
  replace b0 := b0.kept hg (Zn (by omega))
  replace b1 := b1.kept hg (Zn (by omega))
  replace b3 := b3.kept hg (Zn (by omega))
  replace b4 := b4.kept hg (Zn (by omega))
  replace tv := isT.kept hg (Lw.not (by omega)) tv
  replace ta := isT.kept hg (Lw.not (by omega)) ta
  replace tb := isT.kept hg (Lw.not (by omega)) tb
  replace hE := ext_grow hE hg (fun q hq => by cases hq; omega)
  clear b2 hg
  have b2 := bn
  clear bn
  (try dsimp only); refine hK _ _ ?_; clear hK K; (try simp only [Act.put, Zs, Zz, Zc])
  replace qz : r4 < W6.heap.size := b4.lt
  refine wpList_plain rfl (fun K hK => ?_)
  refine wp_store_box 25 _ _ (by rfl) b3 (by rfl) (by rfl) (by exact Try.infoR) (by first | exact RV.one _ | exact TV.one _ rfl | exact TV.one _ (isT.one tv) | exact TV.one _ (isT.one ta) | exact TV.one _ (isT.one tb)) (by rfl) (fun W7 hg bn => ?_)
  replace b0 := b0.kept hg (Zn (by omega))
  replace b1 := b1.kept hg (Zn (by omega))
  replace b2 := b2.kept hg (Zn (by omega))
  replace b4 := b4.kept hg (Zn (by omega))
  replace tv := isT.kept hg (Lw.not (by omega)) tv
  replace ta := isT.kept hg (Lw.not (by omega)) ta
  replace tb := isT.kept hg (Lw.not (by omega)) tb
  replace hE := ext_grow hE hg (fun q hq => by cases hq; omega)
  clear b3 hg
  have b3 := bn
  clear bn
  (try dsimp only); refine hK _ _ ?_; clear hK K; (try simp only [Act.put, Zs, Zz, Zc])
  replace qz : r4 < W7.heap.size := b4.lt
  refine wpList_plain rfl (fun K hK => ?_)
  refine wp_store_box 28 _ _ (by rfl) b4 (by rfl) (by rfl) (by exact Try.infoT) (by first | exact RV.one _ | exact TV.one _ rfl | exact TV.one _ (isT.one tv) | exact TV.one _ (isT.one ta) | exact TV.one _ (isT.one tb)) (by rfl) (fun W8 hg bn => ?_)
  replace b0 := b0.kept hg (Zn (by omega))
  replace b1 := b1.kept hg (Zn (by omega))
  replace b2 := b2.kept hg (Zn (by omega))
  replace b3 := b3.kept hg (Zn (by omega))
  replace tv := isT.kept hg (Lw.not (by omega)) tv
  replace ta := isT.kept hg (Lw.not (by omega)) ta
  replace tb := isT.kept hg (Lw.not (by omega)) tb
  replace hE := ext_grow hE hg (fun q hq => by cases hq; omega)
  clear b4 hg
  have b4 := bn
  clear bn
  (try dsimp only); refine hK _ _ ?_; clear hK K; (try simp only [Act.put, Zs, Zz, Zc])
  replace qz : r4 < W8.heap.size := b4.lt
  refine wpList_nil ?_
  go_upto_region 2 with fail
  refine wp_region_lit ?_
  iterate 2 (refine wpList_plain rfl (fun K hK => ?_); go_simp; (try dsimp only); refine hK _ _ ?_; clear hK K; (try simp only [Act.put, Zs, Zz, Zc]))
  refine wpList_plain rfl (fun K hK => ?_); have zc := b3.cell 0; go_simp; clear zc; (try dsimp only); refine hK _ _ ?_; clear hK K; (try simp only [Act.put, Zs, Zz, Zc])
  refine wpList_plain rfl (fun K hK => ?_); go_simp; (try simp (disch := omega) only [Yq, Yr]); (try dsimp only); refine hK _ _ ?_; clear hK K; (try simp only [Act.put, Zs, Zz, Zc])
  refine wpList_plain rfl (fun K hK => ?_); go_simp; (try dsimp only); refine hK _ _ ?_; clear hK K; (try simp only [Act.put, Zs, Zz, Zc])
  refine wpList_nil ?_
  go_upto_region 3 with fail
  obtain ⟨m, hm, hm2⟩ : ∃ m, r4 < m ∧ m = W8.heap.size := ⟨_, qz, rfl⟩
  have hm3 : m ≤ W8.heap.size := by omega
  clear hm2
  have x0 := b0
  have x1 := b1
  have x2 := b2
  have x3 := b3
  have x4 := b4
  have hS : GrownX W8 [r1] W8 := GrownX.refl _ _
  refine wp_region_S (GrownX W8 [r1]) (by kernel_rfl) ?_
  refine name_wd (fun W9 hW => ?_)
  have hx : Ext W8 W9 := by rw [hW]; exact ext_drew _
  clear hW
  replace hS := hS.ext hx
  replace b0 := b0.ext hx
  replace b1 := b1.ext hx
  replace b2 := b2.ext hx
  replace b3 := b3.ext hx
  replace b4 := b4.ext hx
  replace tv := isT.ext hx tv
  replace ta := isT.ext hx ta
  replace tb := isT.ext hx tb
  replace hm3 := Nat.le_trans hm3 hx.below.size
  replace hE := hE.trans hx
  clear hx
  replace qz : r4 < W9.heap.size := b4.lt
  refine wpAnyD_takeSL (i := 0) rfl (by kernel_rfl) (fun _ _ _ _ h => h) hS ?_
  apply Exists.intro
  refine ⟨Or.inl ⟨by rfl, ?_⟩, ?_⟩
  (focus (intro wz hz; (first | exact exec_ld 28 _ rfl rfl ((GrownX.blk hz x2 (by first | decide | (simp; done) | (simp; omega) | omega)).range) Try.underlying28 rfl (by exact Try.infoT))))
  (try simp only [Act.put, Zs, Zz, Zc])
  refine wpAnyD_takeSL (i := 1) rfl (by kernel_rfl) (fun _ _ _ _ h => h) hS ?_
  apply Exists.intro
  refine ⟨Or.inl ⟨by rfl, ?_⟩, ?_⟩
  (focus (intro wz hz; go_simp; (try with_reducible rfl); done))
  (try simp only [Act.put, Zs, Zz, Zc])
  refine wpAnyD_takeSL (i := 3) rfl (by kernel_rfl) (fun _ _ _ _ h => h) hS ?_
  apply Exists.intro
  refine ⟨Or.inl ⟨by rfl, ?_⟩, ?_⟩
  (focus (intro wz hz; (first | exact exec_ld 25 _ rfl rfl ((GrownX.blk hz x3 (by first | decide | (simp; done) | (simp; omega) | omega)).range) Try.underlying25 rfl (by exact Try.infoR))))
  (try simp only [Act.put, Zs, Zz, Zc])
  refine wpAnyD_takeSL (i := 4) rfl (by kernel_rfl) (fun _ _ _ _ h => h) hS ?_
  apply Exists.intro
  refine ⟨Or.inl ⟨by rfl, ?_⟩, ?_⟩
  (focus (intro wz hz; (first | exact exec_ld 28 _ rfl rfl ((GrownX.blk hz x4 (by first | decide | (simp; done) | (simp; omega) | omega)).range) Try.underlying28 rfl (by exact Try.infoT))))
  (try simp only [Act.put, Zs, Zz, Zc])
  refine wpAnyD_oneL (i := 2) rfl (by kernel_rfl) (fun K hK => ?_)
  rw [if_pos (by rfl)]
  go_simp
  (go_at_call 41; refine (iha (Lo A w.heap.size m) s _ _ (Up.lo hA hE hm3) ta.up ba hba oa (by omega) hsa).mono ?_; intro e W10 hpp; obtain ⟨v1, rfl, t1, hx⟩ := hpp)
  replace hS := hS.ext hx; (try dsimp only); refine hK.out _ _ (fun _ => hS) ?_; clear hK K; (try simp only [Act.put, Zs, Zz, Zc])
  replace b0 := b0.ext hx
  replace b1 := b1.ext hx
  replace b2 := b2.ext hx
  replace b3 := b3.ext hx
  replace b4 := b4.ext hx
  replace tv := isT.ext hx tv
  replace ta := isT.ext hx ta
  replace tb := isT.ext hx tb
  replace hm3 := Nat.le_trans hm3 hx.below.size
  replace hE := hE.trans hx
  clear hx
  replace qz : r4 < W10.heap.size := b4.lt
  refine wpAnyD_oneL (i := 5) rfl (by kernel_rfl) (fun K hK => ?_)
  rw [if_pos (by rfl)]
  go_simp
  (go_at_call 53; refine (join_P (A := Lo A w.heap.size m) (remP a s) y (b) _ _ _ (Up.lo hA hE hm3) t1 tb.up hvy (bd_rem ba oa hba) bb (by omega)).mono ?_; intro e W11 hpp; obtain ⟨v2, rfl, t2, hx⟩ := hpp)
  replace hS := hS.ext hx; (try dsimp only); refine hK.out _ _ (fun _ => hS) ?_; clear hK K; (try simp only [Act.put, Zs, Zz, Zc])
  replace b0 := b0.ext hx
  replace b1 := b1.ext hx
  replace b2 := b2.ext hx
  replace b3 := b3.ext hx
  replace b4 := b4.ext hx
  replace tv := isT.ext hx tv
  replace ta := isT.ext hx ta
  replace tb := isT.ext hx tb
  replace hm3 := Nat.le_trans hm3 hx.below.size
  replace t1 := isT.ext hx t1
  replace hE := hE.trans hx
  clear hx
  replace qz : r4 < W11.heap.size := b4.lt
  refine wpAnyD_oneL (i := 6) rfl (by kernel_rfl) (fun K hK => ?_)
  rw [if_pos (by rfl)]
  refine wp_store_box 28 _ _ (by rfl) b1 (by rfl) (by rfl) (by exact Try.infoT) (by first | exact RV.one _ | exact TV.one _ rfl | exact TV.one _ (isT.one tv) | exact TV.one _ (isT.one ta) | exact TV.one _ (isT.one tb) | exact TV.one _ (isT.one t1) | exact TV.one _ (isT.one t2)) (by rfl) (fun W12 hg bn => ?_)
  replace b0 := b0.kept hg (Zn (by omega))
  replace b2 := b2.kept hg (Zn (by omega))
  replace b3 := b3.kept hg (Zn (by omega))
  replace b4 := b4.kept hg (Zn (by omega))
  replace tv := isT.kept hg (Lw.not (by omega)) tv
  replace ta := isT.kept hg (Lw.not (by omega)) ta
  replace tb := isT.kept hg (Lw.not (by omega)) tb
  replace hm3 := Nat.le_trans hm3 hg.size
  replace t1 := isT.kept hg (Lo.not (by omega) (by omega)) t1
  replace t2 := isT.kept hg (Lo.not (by omega) (by omega)) t2
  replace hE := ext_grow hE hg (fun q hq => by cases hq; omega)
  replace hS := hS.step hg (by first | decide | (simp; done) | (simp; omega) | omega)
  clear b1 hg
  have b1 := bn
  clear bn
  (try dsimp only); refine hK.out _ _ (fun _ => hS) ?_; clear hK K; (try simp only [Act.put, Zs, Zz, Zc])
  replace qz : r4 < W12.heap.size := b4.lt
  refine wpAnyD_done (by kernel_rfl) ?_ _
  clear hS x0 x1 x2 x3 x4
  go_wp2_with fail
  exact bodyPost_ret (res_c rfl (GivesC.of b1 rfl Try.underlying28 rfl Try.infoT)) rfl ⟨v2, rfl, t2.hi, hE⟩

set_option maxRecDepth 100000 in
set_option maxHeartbeats 4000000 in
theorem rem_b {a b : PT} {y : RV} (iha : RemOK a) (ihb : RemOK b) (A : Nat → Prop) (s : Int) (v : TV) (w : World) (hA : Up A w) (ht : isT A w (PT.N a y b).bt v) (bp : bd (.N a y b)) (hb : (PT.N a y b).bal) (ho : ord (PT.N a y b).flat) (h8 : (PT.N a y b).ht ≤ 800) (hs : ∃ z ∈ (PT.N a y b).flat, z.s = s) (c1 : ¬ s < y.s) (c2 : y.s < s) :
    Calls Try.prog 41 #[.agg v.cs.toArray, .int .i64 s] w fun e w' => ∃ v', e = .returned (.agg v'.cs.toArray) ∧ isT A w' (joinP a y (remP b s)).bt v' ∧ Ext w w' := by
  obtain ⟨ba, hvy, bb⟩ := bd_node bp
  obtain ⟨oa, _, ob, l1, l2⟩ := ord_node ho
  have hh : a.ht ≤ 799 ∧ b.ht ≤ 799 := by have := PT.ht_nn a; have := PT.ht_nn b; simp only [PT.ht] at h8; omega
  have hba : a.bal := hb.1
  have hbb : b.bal := hb.2.1
  have hsb : ∃ z ∈ b.flat, z.s = s := by
    obtain ⟨z, hz, hzs⟩ := hs
    rcases List.mem_append.1 (show z ∈ a.flat ++ y :: b.flat from hz) with h | h
    · have := apart_lt (l1 z h) (oa.v z h); omega
    · rcases List.mem_cons.1 h with h | h
      · rw [h] at hzs; omega
      · exact ⟨z, h, hzs⟩
  have hi9 := (rem_bal b s hbb).2.2
  clear h8 bp hb ho hs l1 l2
  go_enter Try.func41, Try.ntmps41
  go_upto_region 1 with fail
  refine name_wX (fun W1 hW => ?_)
  have hE : Ext w W1 := by rw [hW]; repeat' (first | exact Ext.refl _ | apply Ext.al)
  have b0 : Blk W1 (w.heap.size) 28 v.cs := by rw [hW]; exact (Blk.newAt rfl).alloc _
  have b1 : Blk W1 (w.heap.size + 1) 28 TV.z.cs := by rw [hW]; exact Blk.newAt (by simp)
  clear hW
  obtain ⟨r1, hr1⟩ : ∃ r, r = w.heap.size + 1 := ⟨_, rfl⟩
  rw [← hr1] at b1
  try rw [← hr1]
  obtain ⟨r0, hr0⟩ : ∃ r, r = w.heap.size := ⟨_, rfl⟩
  rw [← hr0] at b0
  try rw [← hr0]
  have q0 : w.heap.size ≤ r0 := by omega
  have q1 : r0 < r1 := by omega
  clear hr0 hr1
  have qz : r1 < W1.heap.size := b1.lt
  have tv := isT.ext hE (isT.lw ht)
  clear ht
  refine wp_region_lit ?_
  refine wpList_plain rfl (fun K hK => ?_); (first | (refine wp_ld 28 _ (b0.range) (by rfl) (by rfl) Try.underlying28 rfl (by exact Try.infoT) ?_)); (try dsimp only); refine hK _ _ ?_; clear hK K; (try simp only [Act.put, Zs, Zz, Zc])
  refine wpList_plain rfl (fun K hK => ?_); go_simp; (go_at_call 52; refine (parts_P (A := Lw A w.heap.size) _ _ _ _ _ tv).mono ?_; intro e W2 hpp; obtain ⟨va, vb, rfl, ta, tb, hx⟩ := hpp); (try dsimp only); refine hK _ _ ?_; clear hK K; (try simp only [Act.put, Zs, Zz, Zc])
  replace b0 := b0.ext hx
  replace b1 := b1.ext hx
  replace tv := isT.ext hx tv
  replace ta := isT.ext hx ta
  replace tb := isT.ext hx tb
  replace hE := hE.trans hx
  clear hx
  replace qz : r1 < W2.heap.size := b1.lt
  iterate 5 (refine wpList_plain rfl (fun K hK => ?_); go_simp; (try dsimp only); refine hK _ _ ?_; clear hK K; (try simp only [Act.put, Zs, Zz, Zc]))
  refine name_wl (fun W3 hW => ?_)
  have hx : Ext W2 W3 := by rw [hW]; exact ext_alloc _ _
  have b2 : Blk W3 W2.heap.size 28 TV.z.cs := by rw [hW]; exact Blk.newAt rfl
  clear hW
  replace b0 := b0.ext hx
  replace b1 := b1.ext hx
  replace tv := isT.ext hx tv
  replace ta := isT.ext hx ta
  replace tb := isT.ext hx tb
  replace hE := hE.trans hx
  clear hx
  obtain ⟨r2, hr⟩ : ∃ r, r = W2.heap.size := ⟨_, rfl⟩
  rw [← hr] at b2
  try rw [← hr]
  have q2 : r1 < r2 := by omega
  clear hr
  replace qz : r2 < W3.heap.size := b2.lt
  refine wpList_plain rfl (fun K hK => ?_); go_simp; (try dsimp only); refine hK _ _ ?_; clear hK K; (try simp only [Act.put, Zs, Zz, Zc])
  refine name_wl (fun W4 hW => ?_)
  have hx : Ext W3 W4 := by rw [hW]; exact ext_alloc _ _
  have b3 : Blk W4 W3.heap.size 25 RV.z.cs := by rw [hW]; exact Blk.newAt rfl
  clear hW
  replace b0 := b0.ext hx
  replace b1 := b1.ext hx
  replace b2 := b2.ext hx
  replace tv := isT.ext hx tv
  replace ta := isT.ext hx ta
  replace tb := isT.ext hx tb
  replace hE := hE.trans hx
  clear hx
  obtain ⟨r3, hr⟩ : ∃ r, r = W3.heap.size := ⟨_, rfl⟩
  rw [← hr] at b3
  try rw [← hr]
  have q3 : r2 < r3 := by omega
  clear hr
  replace qz : r3 < W4.heap.size := b3.lt
  refine wpList_plain rfl (fun K hK => ?_); go_simp; (try dsimp only); refine hK _ _ ?_; clear hK K; (try simp only [Act.put, Zs, Zz, Zc])
  refine name_wl (fun W5 hW => ?_)
  have hx : Ext W4 W5 := by rw [hW]; exact ext_alloc _ _
  have b4 : Blk W5 W4.heap.size 28 TV.z.cs := by rw [hW]; exact Blk.newAt rfl
  clear hW
  replace b0 := b0.ext hx
  replace b1 := b1.ext hx
  replace b2 := b2.ext hx
  replace b3 := b3.ext hx
  replace tv := isT.ext hx tv
  replace ta := isT.ext hx ta
  replace tb := isT.ext hx tb
  replace hE := hE.trans hx
  clear hx
  obtain ⟨r4, hr⟩ : ∃ r, r = W4.heap.size := ⟨_, rfl⟩
  rw [← hr] at b4
  try rw [← hr]
  have q4 : r3 < r4 := by omega
  clear hr
  replace qz : r4 < W5.heap.size := b4.lt
  refine wpList_plain rfl (fun K hK => ?_)
  refine wp_store_box 28 _ _ (by rfl) b2 (by rfl) (by rfl) (by exact Try.infoT) (by first | exact RV.one _ | exact TV.one _ rfl | exact TV.one _ (isT.one tv) | exact TV.one _ (isT.one ta) | exact TV.one _ (isT.one tb)) (by rfl) (fun W6 hg bn => ?_)
  replace b0 := b0.kept hg (Zn (by omega))
  replace b1 := b1.kept hg (Zn (by omega))
  replace b3 := b3.kept hg (Zn (by omega))
  replace b4 := b4.kept hg (Zn (by omega))
  replace tv := isT.kept hg (Lw.not (by omega)) tv
  replace ta := isT.kept hg (Lw.not (by omega)) ta
  replace tb := isT.kept hg (Lw.not (by omega)) tb
  replace hE := ext_grow hE hg (fun q hq => by cases hq; omega)
  clear b2 hg
  have b2 := bn
  clear bn
  (try dsimp only); refine hK _ _ ?_; clear hK K; (try simp only [Act.put, Zs, Zz, Zc])
  replace qz : r4 < W6.heap.size := b4.lt
  refine wpList_plain rfl (fun K hK => ?_)
  refine wp_store_box 25 _ _ (by rfl) b3 (by rfl) (by rfl) (by exact Try.infoR) (by first | exact RV.one _ | exact TV.one _ rfl | exact TV.one _ (isT.one tv) | exact TV.one _ (isT.one ta) | exact TV.one _ (isT.one tb)) (by rfl) (fun W7 hg bn => ?_)
  replace b0 := b0.kept hg (Zn (by omega))
  replace b1 := b1.kept hg (Zn (by omega))
  replace b2 := b2.kept hg (Zn (by omega))
  replace b4 := b4.kept hg (Zn (by omega))
  replace tv := isT.kept hg (Lw.not (by omega)) tv
  replace ta := isT.kept hg (Lw.not (by omega)) ta
  replace tb := isT.kept hg (Lw.not (by omega)) tb
  replace hE := ext_grow hE hg (fun q hq => by cases hq; omega)
  clear b3 hg
  have b3 := bn
  clear bn
  (try dsimp only); refine hK _ _ ?_; clear hK K; (try simp only [Act.put, Zs, Zz, Zc])
  replace qz : r4 < W7.heap.size := b4.lt
  refine wpList_plain rfl (fun K hK => ?_)
  refine wp_store_box 28 _ _ (by rfl) b4 (by rfl) (by rfl) (by exact Try.infoT) (by first | exact RV.one _ | exact TV.one _ rfl | exact TV.one _ (isT.one tv) | exact TV.one _ (isT.one ta) | exact TV.one _ (isT.one tb)) (by rfl) (fun W8 hg bn => ?_)
  replace b0 := b0.kept hg (Zn (by omega))
  replace b1 := b1.kept hg (Zn (by omega))
  replace b2 := b2.kept hg (Zn (by omega))
  replace b3 := b3.kept hg (Zn (by omega))
  replace tv := isT.kept hg (Lw.not (by omega)) tv
  replace ta := isT.kept hg (Lw.not (by omega)) ta
  replace tb := isT.kept hg (Lw.not (by omega)) tb
  replace hE := ext_grow hE hg (fun q hq => by cases hq; omega)
  clear b4 hg
  have b4 := bn
  clear bn
  (try dsimp only); refine hK _ _ ?_; clear hK K; (try simp only [Act.put, Zs, Zz, Zc])
  replace qz : r4 < W8.heap.size := b4.lt
  refine wpList_nil ?_
  go_upto_region 2 with fail
  refine wp_region_lit ?_
  iterate 2 (refine wpList_plain rfl (fun K hK => ?_); go_simp; (try dsimp only); refine hK _ _ ?_; clear hK K; (try simp only [Act.put, Zs, Zz, Zc]))
  refine wpList_plain rfl (fun K hK => ?_); have zc := b3.cell 0; go_simp; clear zc; (try dsimp only); refine hK _ _ ?_; clear hK K; (try simp only [Act.put, Zs, Zz, Zc])
  refine wpList_plain rfl (fun K hK => ?_); go_simp; (try simp (disch := omega) only [Yq, Yr]); (try dsimp only); refine hK _ _ ?_; clear hK K; (try simp only [Act.put, Zs, Zz, Zc])
  refine wpList_plain rfl (fun K hK => ?_); go_simp; (try dsimp only); refine hK _ _ ?_; clear hK K; (try simp only [Act.put, Zs, Zz, Zc])
  refine wpList_nil ?_
  go_upto_region 4 with fail
  refine wp_region_lit ?_
  iterate 2 (refine wpList_plain rfl (fun K hK => ?_); go_simp; (try dsimp only); refine hK _ _ ?_; clear hK K; (try simp only [Act.put, Zs, Zz, Zc]))
  refine wpList_plain rfl (fun K hK => ?_); have zc := b3.cell 0; go_simp; clear zc; (try dsimp only); refine hK _ _ ?_; clear hK K; (try simp only [Act.put, Zs, Zz, Zc])
  refine wpList_plain rfl (fun K hK => ?_); go_simp; (try simp (disch := omega) only [Yq, Yr]); (try dsimp only); refine hK _ _ ?_; clear hK K; (try simp only [Act.put, Zs, Zz, Zc])
  refine wpList_plain rfl (fun K hK => ?_); go_simp; (try dsimp only); refine hK _ _ ?_; clear hK K; (try simp only [Act.put, Zs, Zz, Zc])
  refine wpList_nil ?_
  go_upto_region 5 with fail
  obtain ⟨m, hm, hm2⟩ : ∃ m, r4 < m ∧ m = W8.heap.size := ⟨_, qz, rfl⟩
  have hm3 : m ≤ W8.heap.size := by omega
  clear hm2
  have x0 := b0
  have x1 := b1
  have x2 := b2
  have x3 := b3
  have x4 := b4
  have hS : GrownX W8 [r1] W8 := GrownX.refl _ _
  refine wp_region_S (GrownX W8 [r1]) (by kernel_rfl) ?_
  refine name_wd (fun W9 hW => ?_)
  have hx : Ext W8 W9 := by rw [hW]; exact ext_drew _
  clear hW
  replace hS := hS.ext hx
  replace b0 := b0.ext hx
  replace b1 := b1.ext hx
  replace b2 := b2.ext hx
  replace b3 := b3.ext hx
  replace b4 := b4.ext hx
  replace tv := isT.ext hx tv
  replace ta := isT.ext hx ta
  replace tb := isT.ext hx tb
  replace hm3 := Nat.le_trans hm3 hx.below.size
  replace hE := hE.trans hx
  clear hx
  replace qz : r4 < W9.heap.size := b4.lt
  refine wpAnyD_takeSL (i := 0) rfl (by kernel_rfl) (fun _ _ _ _ h => h) hS ?_
  apply Exists.intro
  refine ⟨Or.inl ⟨by rfl, ?_⟩, ?_⟩
  (focus (intro wz hz; (first | exact exec_ld 28 _ rfl rfl ((GrownX.blk hz x2 (by first | decide | (simp; done) | (simp; omega) | omega)).range) Try.underlying28 rfl (by exact Try.infoT))))
  (try simp only [Act.put, Zs, Zz, Zc])
  refine wpAnyD_takeSL (i := 1) rfl (by kernel_rfl) (fun _ _ _ _ h => h) hS ?_
  apply Exists.intro
  refine ⟨Or.inl ⟨by rfl, ?_⟩, ?_⟩
  (focus (intro wz hz; (first | exact exec_ld 25 _ rfl rfl ((GrownX.blk hz x3 (by first | decide | (simp; done) | (simp; omega) | omega)).range) Try.underlying25 rfl (by exact Try.infoR))))
  (try simp only [Act.put, Zs, Zz, Zc])
  refine wpAnyD_takeSL (i := 2) rfl (by kernel_rfl) (fun _ _ _ _ h => h) hS ?_
  apply Exists.intro
  refine ⟨Or.inl ⟨by rfl, ?_⟩, ?_⟩
  (focus (intro wz hz; (first | exact exec_ld 28 _ rfl rfl ((GrownX.blk hz x4 (by first | decide | (simp; done) | (simp; omega) | omega)).range) Try.underlying28 rfl (by exact Try.infoT))))
  (try simp only [Act.put, Zs, Zz, Zc])
  refine wpAnyD_takeSL (i := 3) rfl (by kernel_rfl) (fun _ _ _ _ h => h) hS ?_
  apply Exists.intro
  refine ⟨Or.inl ⟨by rfl, ?_⟩, ?_⟩
  (focus (intro wz hz; go_simp; (try with_reducible rfl); done))
  (try simp only [Act.put, Zs, Zz, Zc])
  refine wpAnyD_oneL (i := 4) rfl (by kernel_rfl) (fun K hK => ?_)
  rw [if_pos (by rfl)]
  go_simp
  (go_at_call 41; refine (ihb (Lo A w.heap.size m) s _ _ (Up.lo hA hE hm3) tb.up bb hbb ob (by omega) hsb).mono ?_; intro e W10 hpp; obtain ⟨v1, rfl, t1, hx⟩ := hpp)
  replace hS := hS.ext hx; (try dsimp only); refine hK.out _ _ (fun _ => hS) ?_; clear hK K; (try simp only [Act.put, Zs, Zz, Zc])
  replace b0 := b0.ext hx
  replace b1 := b1.ext hx
  replace b2 := b2.ext hx
  replace b3 := b3.ext hx
  replace b4 := b4.ext hx
  replace tv := isT.ext hx tv
  replace ta := isT.ext hx ta
  replace tb := isT.ext hx tb
  replace hm3 := Nat.le_trans hm3 hx.below.size
  replace hE := hE.trans hx
  clear hx
  replace qz : r4 < W10.heap.size := b4.lt
  refine wpAnyD_oneL (i := 5) rfl (by kernel_rfl) (fun K hK => ?_)
  rw [if_pos (by rfl)]
  go_simp
  (go_at_call 53; refine (join_P (A := Lo A w.heap.size m) (a) y (remP b s) _ _ _ (Up.lo hA hE hm3) ta.up t1 hvy ba (bd_rem bb ob hbb) (by omega)).mono ?_; intro e W11 hpp; obtain ⟨v2, rfl, t2, hx⟩ := hpp)
  replace hS := hS.ext hx; (try dsimp only); refine hK.out _ _ (fun _ => hS) ?_; clear hK K; (try simp only [Act.put, Zs, Zz, Zc])
  replace b0 := b0.ext hx
  replace b1 := b1.ext hx
  replace b2 := b2.ext hx
  replace b3 := b3.ext hx
  replace b4 := b4.ext hx
  replace tv := isT.ext hx tv
  replace ta := isT.ext hx ta
  replace tb := isT.ext hx tb
  replace hm3 := Nat.le_trans hm3 hx.below.size
  replace t1 := isT.ext hx t1
  replace hE := hE.trans hx
  clear hx
  replace qz : r4 < W11.heap.size := b4.lt
  refine wpAnyD_oneL (i := 6) rfl (by kernel_rfl) (fun K hK => ?_)
  rw [if_pos (by rfl)]
  refine wp_store_box 28 _ _ (by rfl) b1 (by rfl) (by rfl) (by exact Try.infoT) (by first | exact RV.one _ | exact TV.one _ rfl | exact TV.one _ (isT.one tv) | exact TV.one _ (isT.one ta) | exact TV.one _ (isT.one tb) | exact TV.one _ (isT.one t1) | exact TV.one _ (isT.one t2)) (by rfl) (fun W12 hg bn => ?_)
  replace b0 := b0.kept hg (Zn (by omega))
  replace b2 := b2.kept hg (Zn (by omega))
  replace b3 := b3.kept hg (Zn (by omega))
  replace b4 := b4.kept hg (Zn (by omega))
  replace tv := isT.kept hg (Lw.not (by omega)) tv
  replace ta := isT.kept hg (Lw.not (by omega)) ta
  replace tb := isT.kept hg (Lw.not (by omega)) tb
  replace hm3 := Nat.le_trans hm3 hg.size
  replace t1 := isT.kept hg (Lo.not (by omega) (by omega)) t1
  replace t2 := isT.kept hg (Lo.not (by omega) (by omega)) t2
  replace hE := ext_grow hE hg (fun q hq => by cases hq; omega)
  replace hS := hS.step hg (by first | decide | (simp; done) | (simp; omega) | omega)
  clear b1 hg
  have b1 := bn
  clear bn
  (try dsimp only); refine hK.out _ _ (fun _ => hS) ?_; clear hK K; (try simp only [Act.put, Zs, Zz, Zc])
  replace qz : r4 < W12.heap.size := b4.lt
  refine wpAnyD_done (by kernel_rfl) ?_ _
  clear hS x0 x1 x2 x3 x4
  go_wp2_with fail
  exact bodyPost_ret (res_c rfl (GivesC.of b1 rfl Try.underlying28 rfl Try.infoT)) rfl ⟨v2, rfl, t2.hi, hE⟩

set_option maxRecDepth 100000 in
set_option maxHeartbeats 4000000 in
theorem rem_0 {a b : PT} {y : RV} (iha : RemOK a) (ihb : RemOK b) (A : Nat → Prop) (s : Int) (v : TV) (w : World) (hA : Up A w) (ht : isT A w (PT.N a y b).bt v) (bp : bd (.N a y b)) (hb : (PT.N a y b).bal) (ho : ord (PT.N a y b).flat) (h8 : (PT.N a y b).ht ≤ 800) (hs : ∃ z ∈ (PT.N a y b).flat, z.s = s) (c1 : ¬ s < y.s) (c2 : ¬ y.s < s) (c3 : a.ht = 0) :
    Calls Try.prog 41 #[.agg v.cs.toArray, .int .i64 s] w fun e w' => ∃ v', e = .returned (.agg v'.cs.toArray) ∧ isT A w' (b).bt v' ∧ Ext w w' := by
  obtain ⟨ba, hvy, bb⟩ := bd_node bp
  obtain ⟨oa, _, ob, l1, l2⟩ := ord_node ho
  have hh : a.ht ≤ 799 ∧ b.ht ≤ 799 := by have := PT.ht_nn a; have := PT.ht_nn b; simp only [PT.ht] at h8; omega
  have hba : a.bal := hb.1
  have hbb : b.bal := hb.2.1
  clear h8 bp hb ho hs l1 l2
  go_enter Try.func41, Try.ntmps41
  go_upto_region 1 with fail
  refine name_wX (fun W1 hW => ?_)
  have hE : Ext w W1 := by rw [hW]; repeat' (first | exact Ext.refl _ | apply Ext.al)
  have b0 : Blk W1 (w.heap.size) 28 v.cs := by rw [hW]; exact (Blk.newAt rfl).alloc _
  have b1 : Blk W1 (w.heap.size + 1) 28 TV.z.cs := by rw [hW]; exact Blk.newAt (by simp)
  clear hW
  obtain ⟨r1, hr1⟩ : ∃ r, r = w.heap.size + 1 := ⟨_, rfl⟩
  rw [← hr1] at b1
  try rw [← hr1]
  obtain ⟨r0, hr0⟩ : ∃ r, r = w.heap.size := ⟨_, rfl⟩
  rw [← hr0] at b0
  try rw [← hr0]
  have q0 : w.heap.size ≤ r0 := by omega
  have q1 : r0 < r1 := by omega
  clear hr0 hr1
  have qz : r1 < W1.heap.size := b1.lt
  have tv := isT.ext hE (isT.lw ht)
  clear ht
  refine wp_region_lit ?_
  refine wpList_plain rfl (fun K hK => ?_); (first | (refine wp_ld 28 _ (b0.range) (by rfl) (by rfl) Try.underlying28 rfl (by exact Try.infoT) ?_)); (try dsimp only); refine hK _ _ ?_; clear hK K; (try simp only [Act.put, Zs, Zz, Zc])
  refine wpList_plain rfl (fun K hK => ?_); go_simp; (go_at_call 52; refine (parts_P (A := Lw A w.heap.size) _ _ _ _ _ tv).mono ?_; intro e W2 hpp; obtain ⟨va, vb, rfl, ta, tb, hx⟩ := hpp); (try dsimp only); refine hK _ _ ?_; clear hK K; (try simp only [Act.put, Zs, Zz, Zc])
  replace b0 := b0.ext hx
  replace b1 := b1.ext hx
  replace tv := isT.ext hx tv
  replace ta := isT.ext hx ta
  replace tb := isT.ext hx tb
  replace hE := hE.trans hx
  clear hx
  replace qz : r1 < W2.heap.size := b1.lt
  iterate 5 (refine wpList_plain rfl (fun K hK => ?_); go_simp; (try dsimp only); refine hK _ _ ?_; clear hK K; (try simp only [Act.put, Zs, Zz, Zc]))
  refine name_wl (fun W3 hW => ?_)
  have hx : Ext W2 W3 := by rw [hW]; exact ext_alloc _ _
  have b2 : Blk W3 W2.heap.size 28 TV.z.cs := by rw [hW]; exact Blk.newAt rfl
  clear hW
  replace b0 := b0.ext hx
  replace b1 := b1.ext hx
  replace tv := isT.ext hx tv
  replace ta := isT.ext hx ta
  replace tb := isT.ext hx tb
  replace hE := hE.trans hx
  clear hx
  obtain ⟨r2, hr⟩ : ∃ r, r = W2.heap.size := ⟨_, rfl⟩
  rw [← hr] at b2
  try rw [← hr]
  have q2 : r1 < r2 := by omega
  clear hr
  replace qz : r2 < W3.heap.size := b2.lt
  refine wpList_plain rfl (fun K hK => ?_); go_simp; (try dsimp only); refine hK _ _ ?_; clear hK K; (try simp only [Act.put, Zs, Zz, Zc])
  refine name_wl (fun W4 hW => ?_)
  have hx : Ext W3 W4 := by rw [hW]; exact ext_alloc _ _
  have b3 : Blk W4 W3.heap.size 25 RV.z.cs := by rw [hW]; exact Blk.newAt rfl
  clear hW
  replace b0 := b0.ext hx
  replace b1 := b1.ext hx
  replace b2 := b2.ext hx
  replace tv := isT.ext hx tv
  replace ta := isT.ext hx ta
  replace tb := isT.ext hx tb
  replace hE := hE.trans hx
  clear hx
  obtain ⟨r3, hr⟩ : ∃ r, r = W3.heap.size := ⟨_, rfl⟩
  rw [← hr] at b3
  try rw [← hr]
  have q3 : r2 < r3 := by omega
  clear hr
  replace qz : r3 < W4.heap.size := b3.lt
  refine wpList_plain rfl (fun K hK => ?_); go_simp; (try dsimp only); refine hK _ _ ?_; clear hK K; (try simp only [Act.put, Zs, Zz, Zc])
  refine name_wl (fun W5 hW => ?_)
  have hx : Ext W4 W5 := by rw [hW]; exact ext_alloc _ _
  have b4 : Blk W5 W4.heap.size 28 TV.z.cs := by rw [hW]; exact Blk.newAt rfl
  clear hW
  replace b0 := b0.ext hx
  replace b1 := b1.ext hx
  replace b2 := b2.ext hx
  replace b3 := b3.ext hx
  replace tv := isT.ext hx tv
  replace ta := isT.ext hx ta
  replace tb := isT.ext hx tb
  replace hE := hE.trans hx
  clear hx
  obtain ⟨r4, hr⟩ : ∃ r, r = W4.heap.size := ⟨_, rfl⟩
  rw [← hr] at b4
  try rw [← hr]
  have q4 : r3 < r4 := by omega
  clear hr
  replace qz : r4 < W5.heap.size := b4.lt
  refine wpList_plain rfl (fun K hK => ?_)
  refine wp_store_box 28 _ _ (by rfl) b2 (by rfl) (by rfl) (by exact Try.infoT) (by first | exact RV.one _ | exact TV.one _ rfl | exact TV.one _ (isT.one tv) | exact TV.one _ (isT.one ta) | exact TV.one _ (isT.one tb)) (by rfl) (fun W6 hg bn => ?_)
  replace b0 := b0.kept hg (Zn (by omega))
  replace b1 := b1.kept hg (Zn (by omega))
  replace b3 := b3.kept hg (Zn (by omega))
  replace b4 := b4.kept hg (Zn (by omega))
  replace tv := isT.kept hg (Lw.not (by omega)) tv
  replace ta := isT.kept hg (Lw.not (by omega)) ta
  replace tb := isT.kept hg (Lw.not (by omega)) tb
  replace hE := ext_grow hE hg (fun q hq => by cases hq; omega)
  clear b2 hg
  have b2 := bn
  clear bn
  (try dsimp only); refine hK _ _ ?_; clear hK K; (try simp only [Act.put, Zs, Zz, Zc])
  replace qz : r4 < W6.heap.size := b4.lt
  refine wpList_plain rfl (fun K hK => ?_)
  refine wp_store_box 25 _ _ (by rfl) b3 (by rfl) (by rfl) (by exact Try.infoR) (by first | exact RV.one _ | exact TV.one _ rfl | exact TV.one _ (isT.one tv) | exact TV.one _ (isT.one ta) | exact TV.one _ (isT.one tb)) (by rfl) (fun W7 hg bn => ?_)
  replace b0 := b0.kept hg (Zn (by omega))
  replace b1 := b1.kept hg (Zn (by omega))
  replace b2 := b2.kept hg (Zn (by omega))
  replace b4 := b4.kept hg (Zn (by omega))
  replace tv := isT.kept hg (Lw.not (by omega)) tv
  replace ta := isT.kept hg (Lw.not (by omega)) ta
  replace tb := isT.kept hg (Lw.not (by omega)) tb
  replace hE := ext_grow hE hg (fun q hq => by cases hq; omega)
  clear b3 hg
  have b3 := bn
  clear bn
  (try dsimp only); refine hK _ _ ?_; clear hK K; (try simp only [Act.put, Zs, Zz, Zc])
  replace qz : r4 < W7.heap.size := b4.lt
  refine wpList_plain rfl (fun K hK => ?_)
  refine wp_store_box 28 _ _ (by rfl) b4 (by rfl) (by rfl) (by exact Try.infoT) (by first | exact RV.one _ | exact TV.one _ rfl | exact TV.one _ (isT.one tv) | exact TV.one _ (isT.one ta) | exact TV.one _ (isT.one tb)) (by rfl) (fun W8 hg bn => ?_)
  replace b0 := b0.kept hg (Zn (by omega))
  replace b1 := b1.kept hg (Zn (by omega))
  replace b2 := b2.kept hg (Zn (by omega))
  replace b3 := b3.kept hg (Zn (by omega))
  replace tv := isT.kept hg (Lw.not (by omega)) tv
  replace ta := isT.kept hg (Lw.not (by omega)) ta
  replace tb := isT.kept hg (Lw.not (by omega)) tb
  replace hE := ext_grow hE hg (fun q hq => by cases hq; omega)
  clear b4 hg
  have b4 := bn
  clear bn
  (try dsimp only); refine hK _ _ ?_; clear hK K; (try simp only [Act.put, Zs, Zz, Zc])
  replace qz : r4 < W8.heap.size := b4.lt
  refine wpList_nil ?_
  go_upto_region 2 with fail
  refine wp_region_lit ?_
  iterate 2 (refine wpList_plain rfl (fun K hK => ?_); go_simp; (try dsimp only); refine hK _ _ ?_; clear hK K; (try simp only [Act.put, Zs, Zz, Zc]))
  refine wpList_plain rfl (fun K hK => ?_); have zc := b3.cell 0; go_simp; clear zc; (try dsimp only); refine hK _ _ ?_; clear hK K; (try simp only [Act.put, Zs, Zz, Zc])
  refine wpList_plain rfl (fun K hK => ?_); go_simp; (try simp (disch := omega) only [Yq, Yr]); (try dsimp only); refine hK _ _ ?_; clear hK K; (try simp only [Act.put, Zs, Zz, Zc])
  refine wpList_plain rfl (fun K hK => ?_); go_simp; (try dsimp only); refine hK _ _ ?_; clear hK K; (try simp only [Act.put, Zs, Zz, Zc])
  refine wpList_nil ?_
  go_upto_region 4 with fail
  refine wp_region_lit ?_
  iterate 2 (refine wpList_plain rfl (fun K hK => ?_); go_simp; (try dsimp only); refine hK _ _ ?_; clear hK K; (try simp only [Act.put, Zs, Zz, Zc]))
  refine wpList_plain rfl (fun K hK => ?_); have zc := b3.cell 0; go_simp; clear zc; (try dsimp only); refine hK _ _ ?_; clear hK K; (try simp only [Act.put, Zs, Zz, Zc])
  refine wpList_plain rfl (fun K hK => ?_); go_simp; (try simp (disch := omega) only [Yq, Yr]); (try dsimp only); refine hK _ _ ?_; clear hK K; (try simp only [Act.put, Zs, Zz, Zc])
  refine wpList_plain rfl (fun K hK => ?_); go_simp; (try dsimp only); refine hK _ _ ?_; clear hK K; (try simp only [Act.put, Zs, Zz, Zc])
  refine wpList_nil ?_
  go_upto_region 6 with fail
  have hz : (va.h == 0) = true := by have := (isP_num ta).1; simp; omega
  refine wp_region_lit ?_
  refine wpList_plain rfl (fun K hK => ?_); go_simp; (try dsimp only); refine hK _ _ ?_; clear hK K; (try simp only [Act.put, Zs, Zz, Zc])
  refine wpList_plain rfl (fun K hK => ?_); have zc := b2.cell 0; go_simp; clear zc; (try dsimp only); refine hK _ _ ?_; clear hK K; (try simp only [Act.put, Zs, Zz, Zc])
  refine wpList_plain rfl (fun K hK => ?_); go_simp; (try simp (disch := omega) only [Yq, Yr]); (try dsimp only); refine hK _ _ ?_; clear hK K; (try simp only [Act.put, Zs, Zz, Zc])
  refine wpList_plain rfl (fun K hK => ?_); go_simp; (try dsimp only); refine hK _ _ ?_; clear hK K; (try simp only [Act.put, Zs, Zz, Zc])
  refine wpList_nil ?_
  go_upto_region 7 with fail
  refine wp_region_lit ?_
  refine wpList_plain rfl (fun K hK => ?_); (first | (refine wp_ld 28 _ (b4.range) (by rfl) (by rfl) Try.underlying28 rfl (by exact Try.infoT) ?_)); (try dsimp only); refine hK _ _ ?_; clear hK K; (try simp only [Act.put, Zs, Zz, Zc])
  refine wpList_plain rfl (fun K hK => ?_)
  refine wp_store_box 28 _ _ (by rfl) b1 (by rfl) (by rfl) (by exact Try.infoT) (by first | exact RV.one _ | exact TV.one _ rfl | exact TV.one _ (isT.one tv) | exact TV.one _ (isT.one ta) | exact TV.one _ (isT.one tb)) (by rfl) (fun W9 hg bn => ?_)
  replace b0 := b0.kept hg (Zn (by omega))
  replace b2 := b2.kept hg (Zn (by omega))
  replace b3 := b3.kept hg (Zn (by omega))
  replace b4 := b4.kept hg (Zn (by omega))
  replace tv := isT.kept hg (Lw.not (by omega)) tv
  replace ta := isT.kept hg (Lw.not (by omega)) ta
  replace tb := isT.kept hg (Lw.not (by omega)) tb
  replace hE := ext_grow hE hg (fun q hq => by cases hq; omega)
  clear b1 hg
  have b1 := bn
  clear bn
  (try dsimp only); refine hK _ _ ?_; clear hK K; (try simp only [Act.put, Zs, Zz, Zc])
  replace qz : r4 < W9.heap.size := b4.lt
  refine wpList_nil ?_
  go_wp2_with fail
  exact bodyPost_ret (res_c rfl (GivesC.of b1 rfl Try.underlying28 rfl Try.infoT)) rfl ⟨vb, rfl, tb.low, hE⟩

set_option maxRecDepth 100000 in
set_option maxHeartbeats 4000000 in
theorem rem_1 {a b : PT} {y : RV} (iha : RemOK a) (ihb : RemOK b) (A : Nat → Prop) (s : Int) (v : TV) (w : World) (hA : Up A w) (ht : isT A w (PT.N a y b).bt v) (bp : bd (.N a y b)) (hb : (PT.N a y b).bal) (ho : ord (PT.N a y b).flat) (h8 : (PT.N a y b).ht ≤ 800) (hs : ∃ z ∈ (PT.N a y b).flat, z.s = s) (c1 : ¬ s < y.s) (c2 : ¬ y.s < s) (c3 : ¬ a.ht = 0) (c4 : b.ht = 0) :
    Calls Try.prog 41 #[.agg v.cs.toArray, .int .i64 s] w fun e w' => ∃ v', e = .returned (.agg v'.cs.toArray) ∧ isT A w' (a).bt v' ∧ Ext w w' := by
  obtain ⟨ba, hvy, bb⟩ := bd_node bp
  obtain ⟨oa, _, ob, l1, l2⟩ := ord_node ho
  have hh : a.ht ≤ 799 ∧ b.ht ≤ 799 := by have := PT.ht_nn a; have := PT.ht_nn b; simp only [PT.ht] at h8; omega
  have hba : a.bal := hb.1
  have hbb : b.bal := hb.2.1
  clear h8 bp hb ho hs l1 l2
  go_enter Try.func41, Try.ntmps41
  go_upto_region 1 with fail
  refine name_wX (fun W1 hW => ?_)
  have hE : Ext w W1 := by rw [hW]; repeat' (first | exact Ext.refl _ | apply Ext.al)
  have b0 : Blk W1 (w.heap.size) 28 v.cs := by rw [hW]; exact (Blk.newAt rfl).alloc _
  have b1 : Blk W1 (w.heap.size + 1) 28 TV.z.cs := by rw [hW]; exact Blk.newAt (by simp)
  clear hW
  obtain ⟨r1, hr1⟩ : ∃ r, r = w.heap.size + 1 := ⟨_, rfl⟩
  rw [← hr1] at b1
  try rw [← hr1]
  obtain ⟨r0, hr0⟩ : ∃ r, r = w.heap.size := ⟨_, rfl⟩
  rw [← hr0] at b0
  try rw [← hr0]
  have q0 : w.heap.size ≤ r0 := by omega
  have q1 : r0 < r1 := by omega
  clear hr0 hr1
  have qz : r1 < W1.heap.size := b1.lt
  have tv := isT.ext hE (isT.lw ht)
  clear ht
  refine wp_region_lit ?_
  refine wpList_plain rfl (fun K hK => ?_); (first | (refine wp_ld 28 _ (b0.range) (by rfl) (by rfl) Try.underlying28 rfl (by exact Try.infoT) ?_)); (try dsimp only); refine hK _ _ ?_; clear hK K; (try simp only [Act.put, Zs, Zz, Zc])
  refine wpList_plain rfl (fun K hK => ?_); go_simp; (go_at_call 52; refine (parts_P (A := Lw A w.heap.size) _ _ _ _ _ tv).mono ?_; intro e W2 hpp; obtain ⟨va, vb, rfl, ta, tb, hx⟩ := hpp); (try dsimp only); refine hK _ _ ?_; clear hK K; (try simp only [Act.put, Zs, Zz, Zc])
  replace b0 := b0.ext hx
  replace b1 := b1.ext hx
  replace tv := isT.ext hx tv
  replace ta := isT.ext hx ta
  replace tb := isT.ext hx tb
  replace hE := hE.trans hx
  clear hx
  replace qz : r1 < W2.heap.size := b1.lt
  iterate 5 (refine wpList_plain rfl (fun K hK => ?_); go_simp; (try dsimp only); refine hK _ _ ?_; clear hK K; (try simp only [Act.put, Zs, Zz, Zc]))
  refine name_wl (fun W3 hW => ?_)
  have hx : Ext W2 W3 := by rw [hW]; exact ext_alloc _ _
  have b2 : Blk W3 W2.heap.size 28 TV.z.cs := by rw [hW]; exact Blk.newAt rfl
  clear hW
  replace b0 := b0.ext hx
  replace b1 := b1.ext hx
  replace tv := isT.ext hx tv
  replace ta := isT.ext hx ta
  replace tb := isT.ext hx tb
  replace hE := hE.trans hx
  clear hx
  obtain ⟨r2, hr⟩ : ∃ r, r = W2.heap.size := ⟨_, rfl⟩
  rw [← hr] at b2
  try rw [← hr]
  have q2 : r1 < r2 := by omega
  clear hr
  replace qz : r2 < W3.heap.size := b2.lt
  refine wpList_plain rfl (fun K hK => ?_); go_simp; (try dsimp only); refine hK _ _ ?_; clear hK K; (try simp only [Act.put, Zs, Zz, Zc])
  refine name_wl (fun W4 hW => ?_)
  have hx : Ext W3 W4 := by rw [hW]; exact ext_alloc _ _
  have b3 : Blk W4 W3.heap.size 25 RV.z.cs := by rw [hW]; exact Blk.newAt rfl
  clear hW
  replace b0 := b0.ext hx
  replace b1 := b1.ext hx
  replace b2 := b2.ext hx
  replace tv := isT.ext hx tv
  replace ta := isT.ext hx ta
  replace tb := isT.ext hx tb
  replace hE := hE.trans hx
  clear hx
  obtain ⟨r3, hr⟩ : ∃ r, r = W3.heap.size := ⟨_, rfl⟩
  rw [← hr] at b3
  try rw [← hr]
  have q3 : r2 < r3 := by omega
  clear hr
  replace qz : r3 < W4.heap.size := b3.lt
  refine wpList_plain rfl (fun K hK => ?_); go_simp; (try dsimp only); refine hK _ _ ?_; clear hK K; (try simp only [Act.put, Zs, Zz, Zc])
  refine name_wl (fun W5 hW => ?_)
  have hx : Ext W4 W5 := by rw [hW]; exact ext_alloc _ _
  have b4 : Blk W5 W4.heap.size 28 TV.z.cs := by rw [hW]; exact Blk.newAt rfl
  clear hW
  replace b0 := b0.ext hx
  replace b1 := b1.ext hx
  replace b2 := b2.ext hx
  replace b3 := b3.ext hx
  replace tv := isT.ext hx tv
  replace ta := isT.ext hx ta
  replace tb := isT.ext hx tb
  replace hE := hE.trans hx
  clear hx
  obtain ⟨r4, hr⟩ : ∃ r, r = W4.heap.size := ⟨_, rfl⟩
  rw [← hr] at b4
  try rw [← hr]
  have q4 : r3 < r4 := by omega
  clear hr
  replace qz : r4 < W5.heap.size := b4.lt
  refine wpList_plain rfl (fun K hK => ?_)
  refine wp_store_box 28 _ _ (by rfl) b2 (by rfl) (by rfl) (by exact Try.infoT) (by first | exact RV.one _ | exact TV.one _ rfl | exact TV.one _ (isT.one tv) | exact TV.one _ (isT.one ta) | exact TV.one _ (isT.one tb)) (by rfl) (fun W6 hg bn => ?_)
  replace b0 := b0.kept hg (Zn (by omega))
  replace b1 := b1.kept hg (Zn (by omega))
  replace b3 := b3.kept hg (Zn (by omega))
  replace b4 := b4.kept hg (Zn (by omega))
  replace tv := isT.kept hg (Lw.not (by omega)) tv
  replace ta := isT.kept hg (Lw.not (by omega)) ta
  replace tb := isT.kept hg (Lw.not (by omega)) tb
  replace hE := ext_grow hE hg (fun q hq => by cases hq; omega)
  clear b2 hg
  have b2 := bn
  clear bn
  (try dsimp only); refine hK _ _ ?_; clear hK K; (try simp only [Act.put, Zs, Zz, Zc])
  replace qz : r4 < W6.heap.size := b4.lt
  refine wpList_plain rfl (fun K hK => ?_)
  refine wp_store_box 25 _ _ (by rfl) b3 (by rfl) (by rfl) (by exact Try.infoR) (by first | exact RV.one _ | exact TV.one _ rfl | exact TV.one _ (isT.one tv) | exact TV.one _ (isT.one ta) | exact TV.one _ (isT.one tb)) (by rfl) (fun W7 hg bn => ?_)
  replace b0 := b0.kept hg (Zn (by omega))
  replace b1 := b1.kept hg (Zn (by omega))
  replace b2 := b2.kept hg (Zn (by omega))
  replace b4 := b4.kept hg (Zn (by omega))
  replace tv := isT.kept hg (Lw.not (by omega)) tv
  replace ta := isT.kept hg (Lw.not (by omega)) ta
  replace tb := isT.kept hg (Lw.not (by omega)) tb
  replace hE := ext_grow hE hg (fun q hq => by cases hq; omega)
  clear b3 hg
  have b3 := bn
  clear bn
  (try dsimp only); refine hK _ _ ?_; clear hK K; (try simp only [Act.put, Zs, Zz, Zc])
  replace qz : r4 < W7.heap.size := b4.lt
  refine wpList_plain rfl (fun K hK => ?_)
  refine wp_store_box 28 _ _ (by rfl) b4 (by rfl) (by rfl) (by exact Try.infoT) (by first | exact RV.one _ | exact TV.one _ rfl | exact TV.one _ (isT.one tv) | exact TV.one _ (isT.one ta) | exact TV.one _ (isT.one tb)) (by rfl) (fun W8 hg bn => ?_)
  replace b0 := b0.kept hg (Zn (by omega))
  replace b1 := b1.kept hg (Zn (by omega))
  replace b2 := b2.kept hg (Zn (by omega))
  replace b3 := b3.kept hg (Zn (by omega))
  replace tv := isT.kept hg (Lw.not (by omega)) tv
  replace ta := isT.kept hg (Lw.not (by omega)) ta
  replace tb := isT.kept hg (Lw.not (by omega)) tb
  replace hE := ext_grow hE hg (fun q hq => by cases hq; omega)
  clear b4 hg
  have b4 := bn
  clear bn
  (try dsimp only); refine hK _ _ ?_; clear hK K; (try simp only [Act.put, Zs, Zz, Zc])
  replace qz : r4 < W8.heap.size := b4.lt
  refine wpList_nil ?_
  go_upto_region 2 with fail
  refine wp_region_lit ?_
  iterate 2 (refine wpList_plain rfl (fun K hK => ?_); go_simp; (try dsimp only); refine hK _ _ ?_; clear hK K; (try simp only [Act.put, Zs, Zz, Zc]))
  refine wpList_plain rfl (fun K hK => ?_); have zc := b3.cell 0; go_simp; clear zc; (try dsimp only); refine hK _ _ ?_; clear hK K; (try simp only [Act.put, Zs, Zz, Zc])
  refine wpList_plain rfl (fun K hK => ?_); go_simp; (try simp (disch := omega) only [Yq, Yr]); (try dsimp only); refine hK _ _ ?_; clear hK K; (try simp only [Act.put, Zs, Zz, Zc])
  refine wpList_plain rfl (fun K hK => ?_); go_simp; (try dsimp only); refine hK _ _ ?_; clear hK K; (try simp only [Act.put, Zs, Zz, Zc])
  refine wpList_nil ?_
  go_upto_region 4 with fail
  refine wp_region_lit ?_
  iterate 2 (refine wpList_plain rfl (fun K hK => ?_); go_simp; (try dsimp only); refine hK _ _ ?_; clear hK K; (try simp only [Act.put, Zs, Zz, Zc]))
  refine wpList_plain rfl (fun K hK => ?_); have zc := b3.cell 0; go_simp; clear zc; (try dsimp only); refine hK _ _ ?_; clear hK K; (try simp only [Act.put, Zs, Zz, Zc])
  refine wpList_plain rfl (fun K hK => ?_); go_simp; (try simp (disch := omega) only [Yq, Yr]); (try dsimp only); refine hK _ _ ?_; clear hK K; (try simp only [Act.put, Zs, Zz, Zc])
  refine wpList_plain rfl (fun K hK => ?_); go_simp; (try dsimp only); refine hK _ _ ?_; clear hK K; (try simp only [Act.put, Zs, Zz, Zc])
  refine wpList_nil ?_
  go_upto_region 6 with fail
  have hz : (va.h == 0) = false := by have := (isP_num ta).1; simp; omega
  have hz2 : (vb.h == 0) = true := by have := (isP_num tb).1; simp; omega
  refine wp_region_lit ?_
  refine wpList_plain rfl (fun K hK => ?_); go_simp; (try dsimp only); refine hK _ _ ?_; clear hK K; (try simp only [Act.put, Zs, Zz, Zc])
  refine wpList_plain rfl (fun K hK => ?_); have zc := b2.cell 0; go_simp; clear zc; (try dsimp only); refine hK _ _ ?_; clear hK K; (try simp only [Act.put, Zs, Zz, Zc])
  refine wpList_plain rfl (fun K hK => ?_); go_simp; (try simp (disch := omega) only [Yq, Yr]); (try dsimp only); refine hK _ _ ?_; clear hK K; (try simp only [Act.put, Zs, Zz, Zc])
  refine wpList_plain rfl (fun K hK => ?_); go_simp; (try dsimp only); refine hK _ _ ?_; clear hK K; (try simp only [Act.put, Zs, Zz, Zc])
  refine wpList_nil ?_
  go_upto_region 8 with fail
  refine wp_region_lit ?_
  refine wpList_plain rfl (fun K hK => ?_); go_simp; (try dsimp only); refine hK _ _ ?_; clear hK K; (try simp only [Act.put, Zs, Zz, Zc])
  refine wpList_plain rfl (fun K hK => ?_); have zc := b4.cell 0; go_simp; clear zc; (try dsimp only); refine hK _ _ ?_; clear hK K; (try simp only [Act.put, Zs, Zz, Zc])
  refine wpList_plain rfl (fun K hK => ?_); go_simp; (try simp (disch := omega) only [Yq, Yr]); (try dsimp only); refine hK _ _ ?_; clear hK K; (try simp only [Act.put, Zs, Zz, Zc])
  refine wpList_plain rfl (fun K hK => ?_); go_simp; (try dsimp only); refine hK _ _ ?_; clear hK K; (try simp only [Act.put, Zs, Zz, Zc])
  refine wpList_nil ?_
  go_upto_region 9 with fail
  refine wp_region_lit ?_
  refine wpList_plain rfl (fun K hK => ?_); (first | (refine wp_ld 28 _ (b2.range) (by rfl) (by rfl) Try.underlying28 rfl (by exact Try.infoT) ?_)); (try dsimp only); refine hK _ _ ?_; clear hK K; (try simp only [Act.put, Zs, Zz, Zc])
  refine wpList_plain rfl (fun K hK => ?_)
  refine wp_store_box 28 _ _ (by rfl) b1 (by rfl) (by rfl) (by exact Try.infoT) (by first | exact RV.one _ | exact TV.one _ rfl | exact TV.one _ (isT.one tv) | exact TV.one _ (isT.one ta) | exact TV.one _ (isT.one tb)) (by rfl) (fun W9 hg bn => ?_)
  replace b0 := b0.kept hg (Zn (by omega))
  replace b2 := b2.kept hg (Zn (by omega))
  replace b3 := b3.kept hg (Zn (by omega))
  replace b4 := b4.kept hg (Zn (by omega))
  replace tv := isT.kept hg (Lw.not (by omega)) tv
  replace ta := isT.kept hg (Lw.not (by omega)) ta
  replace tb := isT.kept hg (Lw.not (by omega)) tb
  replace hE := ext_grow hE hg (fun q hq => by cases hq; omega)
  clear b1 hg
  have b1 := bn
  clear bn
  (try dsimp only); refine hK _ _ ?_; clear hK K; (try simp only [Act.put, Zs, Zz, Zc])
  replace qz : r4 < W9.heap.size := b4.lt
  refine wpList_nil ?_
  go_wp2_with fail
  exact bodyPost_ret (res_c rfl (GivesC.of b1 rfl Try.underlying28 rfl Try.infoT)) rfl ⟨va, rfl, ta.low, hE⟩


end Go.Proofs.Ytnbohogkfdeddaa
