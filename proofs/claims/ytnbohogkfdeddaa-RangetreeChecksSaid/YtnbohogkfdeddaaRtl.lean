/- Rangetree: insert. -/
import Derived.Test.YtnbohogkfdeddaaRtk
set_option linter.unusedSimpArgs false
set_option linter.unusedVariables false
namespace Go.Proofs.Ytnbohogkfdeddaa
open Go.RowKit

theorem ins_mem : ∀ (t : PT) (r y : RV), y ∈ (insP t r).flat → y = r ∨ y ∈ t.flat
  | .E, r, y, h => by
    have h' : y ∈ [r] := h
    exact .inl (List.mem_singleton.1 h')
  | .N a x b, r, y, h => by
    unfold insP at h
    split at h
    · rw [join_flat] at h
      rcases List.mem_append.1 h with h | h
      · rcases ins_mem a r y h with h | h
        · exact .inl h
        · exact .inr (List.mem_append_left _ h)
      · exact .inr (List.mem_append_right _ h)
    · rw [join_flat] at h
      rcases List.mem_append.1 h with h | h
      · exact .inr (List.mem_append_left _ h)
      · rcases List.mem_cons.1 h with h | h
        · exact .inr (List.mem_append_right _ (by rw [h]; simp))
        · rcases ins_mem b r y h with h | h
          · exact .inl h
          · exact .inr (List.mem_append_right _ (List.mem_cons_of_mem _ h))
theorem bd_ins {t : PT} {r : RV} (h : bd t) (hb : t.bal) (hr : vld r) (h8 : t.ht ≤ 900) : bd (insP t r) :=
  ⟨fun y hy => by
    rcases ins_mem t r y hy with h1 | h1
    · rw [h1]; exact hr
    · exact h.v y h1, by have := (ins_bal t r hb).2.2; omega⟩
def InsOK (p : PT) : Prop := ∀ (A : Nat → Prop) (r : RV) (v : TV) (w : World), Up A w → isT A w p.bt v → vld r → bd p → p.bal → p.ht ≤ 800 →
    Calls Try.prog 31 #[.agg v.cs.toArray, .agg r.cs.toArray] w fun e w' => ∃ v', e = .returned (.agg v'.cs.toArray) ∧ isT A w' (insP p r).bt v' ∧ Ext w w'

set_option maxRecDepth 100000 in
set_option maxHeartbeats 4000000 in
theorem ins_E : InsOK .E := by
  intro A r v w hA ht hvr bp hb h8
  have h0 : v.h = 0 := ht.1
  have hv0 : (v.h == 0) = true := by rw [h0]; rfl
  clear h0
  go_enter Try.func31, Try.ntmps31
  go_upto_region 1 with fail
  refine name_wX (fun W1 hW => ?_)
  have hE : Ext w W1 := by rw [hW]; repeat' (first | exact Ext.refl _ | apply Ext.al)
  have b0 : Blk W1 (w.heap.size) 28 v.cs := by rw [hW]; exact ((Blk.newAt rfl).alloc _).alloc _
  have b1 : Blk W1 (w.heap.size + 1) 25 r.cs := by rw [hW]; exact (Blk.newAt (by simp)).alloc _
  have b2 : Blk W1 (w.heap.size + 1 + 1) 28 TV.z.cs := by rw [hW]; exact Blk.newAt (by simp)
  clear hW
  obtain ⟨r2, hr2⟩ : ∃ r, r = w.heap.size + 1 + 1 := ⟨_, rfl⟩
  rw [← hr2] at b2
  try rw [← hr2]
  obtain ⟨r1, hr1⟩ : ∃ r, r = w.heap.size + 1 := ⟨_, rfl⟩
  rw [← hr1] at b1
  try rw [← hr1]
  obtain ⟨r0, hr0⟩ : ∃ r, r = w.heap.size := ⟨_, rfl⟩
  rw [← hr0] at b0
  try rw [← hr0]
  have q0 : w.heap.size ≤ r0 := by omega
  have q1 : r0 < r1 := by omega
  have q2 : r1 < r2 := by omega
  clear hr0 hr1 hr2
  have qz : r2 < W1.heap.size := b2.lt
  have tv := isT.ext hE (isT.lw ht)
  clear ht
  go_upto_region 1 with fail
  refine wp_region_lit ?_
  refine wpList_plain rfl (fun K hK => ?_); go_simp; (try dsimp only); refine hK _ _ ?_; clear hK K; (try simp only [Act.put, Zs, Zz, Zc])
  refine wpList_plain rfl (fun K hK => ?_); have zc := b0.cell 0; go_simp; clear zc; (try dsimp only); refine hK _ _ ?_; clear hK K; (try simp only [Act.put, Zs, Zz, Zc])
  refine wpList_plain rfl (fun K hK => ?_); go_simp; (try simp (disch := omega) only [Yq, Yr]); (try dsimp only); refine hK _ _ ?_; clear hK K; (try simp only [Act.put, Zs, Zz, Zc])
  refine wpList_nil ?_
  go_upto_region 2 with fail
  obtain ⟨m, hm, hm2⟩ : ∃ m, r2 < m ∧ m = W1.heap.size := ⟨_, qz, rfl⟩
  have hm3 : m ≤ W1.heap.size := by omega
  clear hm2
  have tz : isT (Lo A w.heap.size m) W1 PT.E.bt TV.z := isT_z _ _
  refine wp_region_lit ?_
  refine wpList_plain rfl (fun K hK => ?_); go_simp; (try dsimp only); refine hK _ _ ?_; clear hK K; (try simp only [Act.put, Zs, Zz, Zc])
  refine wpList_plain rfl (fun K hK => ?_); (first | (refine wp_ld 25 _ (b1.range) (by rfl) (by rfl) Try.underlying25 rfl (by exact Try.infoR) ?_)); (try dsimp only); refine hK _ _ ?_; clear hK K; (try simp only [Act.put, Zs, Zz, Zc])
  refine wpList_plain rfl (fun K hK => ?_); go_simp; (try dsimp only); refine hK _ _ ?_; clear hK K; (try simp only [Act.put, Zs, Zz, Zc])
  refine wpList_plain rfl (fun K hK => ?_); go_simp; (go_at_call 51; refine (node_P (A := Lo A w.heap.size m) (PT.E) r (PT.E) _ _ _ (Up.lo hA hE hm3) tz tz hvr bp bp).mono ?_; intro e W2 hpp; obtain ⟨v1, rfl, t1, hx⟩ := hpp); (try dsimp only); refine hK _ _ ?_; clear hK K; (try simp only [Act.put, Zs, Zz, Zc])
  replace b0 := b0.ext hx
  replace b1 := b1.ext hx
  replace b2 := b2.ext hx
  replace tv := isT.ext hx tv
  replace hm3 := Nat.le_trans hm3 hx.below.size
  replace tz := isT.ext hx tz
  replace hE := hE.trans hx
  clear hx
  replace qz : r2 < W2.heap.size := b2.lt
  refine wpList_plain rfl (fun K hK => ?_)
  refine wp_store_box 28 _ _ (by rfl) b2 (by rfl) (by rfl) (by exact Try.infoT) (by first | exact RV.one _ | exact TV.one _ rfl | exact TV.one _ (isT.one tv) | exact TV.one _ (isT.one tz) | exact TV.one _ (isT.one t1)) (by rfl) (fun W3 hg bn => ?_)
  replace b0 := b0.kept hg (Zn (by omega))
  replace b1 := b1.kept hg (Zn (by omega))
  replace tv := isT.kept hg (Lw.not (by omega)) tv
  replace hm3 := Nat.le_trans hm3 hg.size
  replace tz := isT.kept hg (Lo.not (by omega) (by omega)) tz
  replace t1 := isT.kept hg (Lo.not (by omega) (by omega)) t1
  replace hE := ext_grow hE hg (fun q hq => by cases hq; omega)
  clear b2 hg
  have b2 := bn
  clear bn
  (try dsimp only); refine hK _ _ ?_; clear hK K; (try simp only [Act.put, Zs, Zz, Zc])
  replace qz : r2 < W3.heap.size := b2.lt
  refine wpList_nil ?_
  go_wp2_with fail
  exact bodyPost_ret (res_c rfl (GivesC.of b2 rfl Try.underlying28 rfl Try.infoT)) rfl ⟨v1, rfl, t1.hi, hE⟩

set_option maxRecDepth 100000 in
set_option maxHeartbeats 4000000 in
theorem ins_al {a b : PT} {y : RV} (iha : InsOK a) (ihb : InsOK b) (A : Nat → Prop) (r : RV) (v : TV) (w : World) (hA : Up A w) (ht : isT A w (PT.N a y b).bt v) (hvr : vld r) (bp : bd (.N a y b)) (hb : (PT.N a y b).bal) (h8 : (PT.N a y b).ht ≤ 800) (hc :  r.s < y.s) :
    Calls Try.prog 31 #[.agg v.cs.toArray, .agg r.cs.toArray] w fun e w' => ∃ v', e = .returned (.agg v'.cs.toArray) ∧ isT A w' (joinP (insP a r) y b).bt v' ∧ Ext w w' := by
  have h0 : v.h = (PT.N a y b).ht := ht.1
  have hv0 : (v.h == 0) = false := by have := PT.ht_pos a y b; simp; omega
  clear h0
  obtain ⟨ba, hvy, bb⟩ := bd_node bp
  have hh : a.ht ≤ 799 ∧ b.ht ≤ 799 := by have := PT.ht_nn a; have := PT.ht_nn b; simp only [PT.ht] at h8; omega
  have hba : a.bal := hb.1
  have hbb : b.bal := hb.2.1
  have hi9 := (ins_bal a r hba).2.2
  clear h8 bp hb
  go_enter Try.func31, Try.ntmps31
  go_upto_region 1 with fail
  refine name_wX (fun W1 hW => ?_)
  have hE : Ext w W1 := by rw [hW]; repeat' (first | exact Ext.refl _ | apply Ext.al)
  have b0 : Blk W1 (w.heap.size) 28 v.cs := by rw [hW]; exact ((Blk.newAt rfl).alloc _).alloc _
  have b1 : Blk W1 (w.heap.size + 1) 25 r.cs := by rw [hW]; exact (Blk.newAt (by simp)).alloc _
  have b2 : Blk W1 (w.heap.size + 1 + 1) 28 TV.z.cs := by rw [hW]; exact Blk.newAt (by simp)
  clear hW
  obtain ⟨r2, hr2⟩ : ∃ r, r = w.heap.size + 1 + 1 := ⟨_, rfl⟩
  rw [← hr2] at b2
  try rw [← hr2]
  obtain ⟨r1, hr1⟩ : ∃ r, r = w.heap.size + 1 := ⟨_, rfl⟩
  rw [← hr1] at b1
  try rw [← hr1]
  obtain ⟨r0, hr0⟩ : ∃ r, r = w.heap.size := ⟨_, rfl⟩
  rw [← hr0] at b0
  try rw [← hr0]
  have q0 : w.heap.size ≤ r0 := by omega
  have q1 : r0 < r1 := by omega
  have q2 : r1 < r2 := by omega
  clear hr0 hr1 hr2
  have qz : r2 < W1.heap.size := b2.lt
  have tv := isT.ext hE (isT.lw ht)
  clear ht
  go_upto_region 1 with fail
  refine wp_region_lit ?_
  refine wpList_plain rfl (fun K hK => ?_); go_simp; (try dsimp only); refine hK _ _ ?_; clear hK K; (try simp only [Act.put, Zs, Zz, Zc])
  refine wpList_plain rfl (fun K hK => ?_); have zc := b0.cell 0; go_simp; clear zc; (try dsimp only); refine hK _ _ ?_; clear hK K; (try simp only [Act.put, Zs, Zz, Zc])
  refine wpList_plain rfl (fun K hK => ?_); go_simp; (try simp (disch := omega) only [Yq, Yr]); (try dsimp only); refine hK _ _ ?_; clear hK K; (try simp only [Act.put, Zs, Zz, Zc])
  refine wpList_nil ?_
  go_upto_region 3 with fail
  refine wp_region_lit ?_
  refine wpList_plain rfl (fun K hK => ?_); (first | (refine wp_ld 28 _ (b0.range) (by rfl) (by rfl) Try.underlying28 rfl (by exact Try.infoT) ?_)); (try dsimp only); refine hK _ _ ?_; clear hK K; (try simp only [Act.put, Zs, Zz, Zc])
  refine wpList_plain rfl (fun K hK => ?_); go_simp; (go_at_call 52; refine (parts_P (A := Lw A w.heap.size) _ _ _ _ _ tv).mono ?_; intro e W2 hpp; obtain ⟨va, vb, rfl, ta, tb, hx⟩ := hpp); (try dsimp only); refine hK _ _ ?_; clear hK K; (try simp only [Act.put, Zs, Zz, Zc])
  replace b0 := b0.ext hx
  replace b1 := b1.ext hx
  replace b2 := b2.ext hx
  replace tv := isT.ext hx tv
  replace ta := isT.ext hx ta
  replace tb := isT.ext hx tb
  replace hE := hE.trans hx
  clear hx
  replace qz : r2 < W2.heap.size := b2.lt
  iterate 5 (refine wpList_plain rfl (fun K hK => ?_); go_simp; (try dsimp only); refine hK _ _ ?_; clear hK K; (try simp only [Act.put, Zs, Zz, Zc]))
  refine name_wl (fun W3 hW => ?_)
  have hx : Ext W2 W3 := by rw [hW]; exact ext_alloc _ _
  have b3 : Blk W3 W2.heap.size 28 TV.z.cs := by rw [hW]; exact Blk.newAt rfl
  clear hW
  replace b0 := b0.ext hx
  replace b1 := b1.ext hx
  replace b2 := b2.ext hx
  replace tv := isT.ext hx tv
  replace ta := isT.ext hx ta
  replace tb := isT.ext hx tb
  replace hE := hE.trans hx
  clear hx
  obtain ⟨r3, hr⟩ : ∃ r, r = W2.heap.size := ⟨_, rfl⟩
  rw [← hr] at b3
  try rw [← hr]
  have q3 : r2 < r3 := by omega
  clear hr
  replace qz : r3 < W3.heap.size := b3.lt
  refine wpList_plain rfl (fun K hK => ?_); go_simp; (try dsimp only); refine hK _ _ ?_; clear hK K; (try simp only [Act.put, Zs, Zz, Zc])
  refine name_wl (fun W4 hW => ?_)
  have hx : Ext W3 W4 := by rw [hW]; exact ext_alloc _ _
  have b4 : Blk W4 W3.heap.size 25 RV.z.cs := by rw [hW]; exact Blk.newAt rfl
  clear hW
  replace b0 := b0.ext hx
  replace b1 := b1.ext hx
  replace b2 := b2.ext hx
  replace b3 := b3.ext hx
  replace tv := isT.ext hx tv
  replace ta := isT.ext hx ta
  replace tb := isT.ext hx tb
  replace hE := hE.trans hx
  clear hx
  obtain ⟨r4, hr⟩ : ∃ r, r = W3.heap.size := ⟨_, rfl⟩
  rw [← hr] at b4
  try rw [← hr]
  have q4 : r3 < r4 := by omega
  clear hr
  replace qz : r4 < W4.heap.size := b4.lt
  refine wpList_plain rfl (fun K hK => ?_); go_simp; (try dsimp only); refine hK _ _ ?_; clear hK K; (try simp only [Act.put, Zs, Zz, Zc])
  refine name_wl (fun W5 hW => ?_)
  have hx : Ext W4 W5 := by rw [hW]; exact ext_alloc _ _
  have b5 : Blk W5 W4.heap.size 28 TV.z.cs := by rw [hW]; exact Blk.newAt rfl
  clear hW
  replace b0 := b0.ext hx
  replace b1 := b1.ext hx
  replace b2 := b2.ext hx
  replace b3 := b3.ext hx
  replace b4 := b4.ext hx
  replace tv := isT.ext hx tv
  replace ta := isT.ext hx ta
  replace tb := isT.ext hx tb
  replace hE := hE.trans hx
  clear hx
  obtain ⟨r5, hr⟩ : ∃ r, r = W4.heap.size := ⟨_, rfl⟩
  rw [← hr] at b5
  try rw [← hr]
  have q5 : r4 < r5 := by omega
  clear hr
  replace qz : r5 < W5.heap.size := b5.lt
  refine wpList_plain rfl (fun K hK => ?_)
  refine wp_store_box 28 _ _ (by rfl) b3 (by rfl) (by rfl) (by exact Try.infoT) (by first | exact RV.one _ | exact TV.one _ rfl | exact TV.one _ (isT.one tv) | exact TV.one _ (isT.one ta) | exact TV.one _ (isT.one tb)) (by rfl) (fun W6 hg bn => ?_)
  replace b0 := b0.kept hg (Zn (by omega))
  replace b1 := b1.kept hg (Zn (by omega))
  replace b2 := b2.kept hg (Zn (by omega))
  replace b4 := b4.kept hg (Zn (by omega))
  replace b5 := b5.kept hg (Zn (by omega))
  replace tv := isT.kept hg (Lw.not (by omega)) tv
  replace ta := isT.kept hg (Lw.not (by omega)) ta
  replace tb := isT.kept hg (Lw.not (by omega)) tb
  replace hE := ext_grow hE hg (fun q hq => by cases hq; omega)
  clear b3 hg
  have b3 := bn
  clear bn
  (try dsimp only); refine hK _ _ ?_; clear hK K; (try simp only [Act.put, Zs, Zz, Zc])
  replace qz : r5 < W6.heap.size := b5.lt
  refine wpList_plain rfl (fun K hK => ?_)
  refine wp_store_box 25 _ _ (by rfl) b4 (by rfl) (by rfl) (by exact Try.infoR) (by first | exact RV.one _ | exact TV.one _ rfl | exact TV.one _ (isT.one tv) | exact TV.one _ (isT.one ta) | exact TV.one _ (isT.one tb)) (by rfl) (fun W7 hg bn => ?_)
  replace b0 := b0.kept hg (Zn (by omega))
  replace b1 := b1.kept hg (Zn (by omega))
  replace b2 := b2.kept hg (Zn (by omega))
  replace b3 := b3.kept hg (Zn (by omega))
  replace b5 := b5.kept hg (Zn (by omega))
  replace tv := isT.kept hg (Lw.not (by omega)) tv
  replace ta := isT.kept hg (Lw.not (by omega)) ta
  replace tb := isT.kept hg (Lw.not (by omega)) tb
  replace hE := ext_grow hE hg (fun q hq => by cases hq; omega)
  clear b4 hg
  have b4 := bn
  clear bn
  (try dsimp only); refine hK _ _ ?_; clear hK K; (try simp only [Act.put, Zs, Zz, Zc])
  replace qz : r5 < W7.heap.size := b5.lt
  refine wpList_plain rfl (fun K hK => ?_)
  refine wp_store_box 28 _ _ (by rfl) b5 (by rfl) (by rfl) (by exact Try.infoT) (by first | exact RV.one _ | exact TV.one _ rfl | exact TV.one _ (isT.one tv) | exact TV.one _ (isT.one ta) | exact TV.one _ (isT.one tb)) (by rfl) (fun W8 hg bn => ?_)
  replace b0 := b0.kept hg (Zn (by omega))
  replace b1 := b1.kept hg (Zn (by omega))
  replace b2 := b2.kept hg (Zn (by omega))
  replace b3 := b3.kept hg (Zn (by omega))
  replace b4 := b4.kept hg (Zn (by omega))
  replace tv := isT.kept hg (Lw.not (by omega)) tv
  replace ta := isT.kept hg (Lw.not (by omega)) ta
  replace tb := isT.kept hg (Lw.not (by omega)) tb
  replace hE := ext_grow hE hg (fun q hq => by cases hq; omega)
  clear b5 hg
  have b5 := bn
  clear bn
  (try dsimp only); refine hK _ _ ?_; clear hK K; (try simp only [Act.put, Zs, Zz, Zc])
  replace qz : r5 < W8.heap.size := b5.lt
  refine wpList_nil ?_
  go_upto_region 4 with fail
  refine wp_region_lit ?_
  refine wpList_plain rfl (fun K hK => ?_); go_simp; (try dsimp only); refine hK _ _ ?_; clear hK K; (try simp only [Act.put, Zs, Zz, Zc])
  refine wpList_plain rfl (fun K hK => ?_); have zc := b1.cell 0; go_simp; clear zc; (try dsimp only); refine hK _ _ ?_; clear hK K; (try simp only [Act.put, Zs, Zz, Zc])
  refine wpList_plain rfl (fun K hK => ?_); go_simp; (try dsimp only); refine hK _ _ ?_; clear hK K; (try simp only [Act.put, Zs, Zz, Zc])
  refine wpList_plain rfl (fun K hK => ?_); have zc := b4.cell 0; go_simp; clear zc; (try dsimp only); refine hK _ _ ?_; clear hK K; (try simp only [Act.put, Zs, Zz, Zc])
  refine wpList_plain rfl (fun K hK => ?_); go_simp; (try simp (disch := omega) only [Yq, Yr]); (try dsimp only); refine hK _ _ ?_; clear hK K; (try simp only [Act.put, Zs, Zz, Zc])
  refine wpList_nil ?_
  go_upto_region 5 with fail
  obtain ⟨m, hm, hm2⟩ : ∃ m, r5 < m ∧ m = W8.heap.size := ⟨_, qz, rfl⟩
  have hm3 : m ≤ W8.heap.size := by omega
  clear hm2
  have x0 := b0
  have x1 := b1
  have x2 := b2
  have x3 := b3
  have x4 := b4
  have x5 := b5
  have hS : GrownX W8 [r2] W8 := GrownX.refl _ _
  refine wp_region_S (GrownX W8 [r2]) (by kernel_rfl) ?_
  refine name_wd (fun W9 hW => ?_)
  have hx : Ext W8 W9 := by rw [hW]; exact ext_drew _
  clear hW
  replace hS := hS.ext hx
  replace b0 := b0.ext hx
  replace b1 := b1.ext hx
  replace b2 := b2.ext hx
  replace b3 := b3.ext hx
  replace b4 := b4.ext hx
  replace b5 := b5.ext hx
  replace tv := isT.ext hx tv
  replace ta := isT.ext hx ta
  replace tb := isT.ext hx tb
  replace hm3 := Nat.le_trans hm3 hx.below.size
  replace hE := hE.trans hx
  clear hx
  replace qz : r5 < W9.heap.size := b5.lt
  refine wpAnyD_takeSL (i := 0) rfl (by kernel_rfl) (fun _ _ _ _ h => h) hS ?_
  apply Exists.intro
  refine ⟨Or.inl ⟨by rfl, ?_⟩, ?_⟩
  (focus (intro wz hz; (first | exact exec_ld 28 _ rfl rfl ((GrownX.blk hz x3 (by first | decide | (simp; done) | (simp; omega) | omega)).range) Try.underlying28 rfl (by exact Try.infoT))))
  (try simp only [Act.put, Zs, Zz, Zc])
  refine wpAnyD_takeSL (i := 1) rfl (by kernel_rfl) (fun _ _ _ _ h => h) hS ?_
  apply Exists.intro
  refine ⟨Or.inl ⟨by rfl, ?_⟩, ?_⟩
  (focus (intro wz hz; (first | exact exec_ld 25 _ rfl rfl ((GrownX.blk hz x1 (by first | decide | (simp; done) | (simp; omega) | omega)).range) Try.underlying25 rfl (by exact Try.infoR))))
  (try simp only [Act.put, Zs, Zz, Zc])
  refine wpAnyD_takeSL (i := 3) rfl (by kernel_rfl) (fun _ _ _ _ h => h) hS ?_
  apply Exists.intro
  refine ⟨Or.inl ⟨by rfl, ?_⟩, ?_⟩
  (focus (intro wz hz; (first | exact exec_ld 25 _ rfl rfl ((GrownX.blk hz x4 (by first | decide | (simp; done) | (simp; omega) | omega)).range) Try.underlying25 rfl (by exact Try.infoR))))
  (try simp only [Act.put, Zs, Zz, Zc])
  refine wpAnyD_takeSL (i := 4) rfl (by kernel_rfl) (fun _ _ _ _ h => h) hS ?_
  apply Exists.intro
  refine ⟨Or.inl ⟨by rfl, ?_⟩, ?_⟩
  (focus (intro wz hz; (first | exact exec_ld 28 _ rfl rfl ((GrownX.blk hz x5 (by first | decide | (simp; done) | (simp; omega) | omega)).range) Try.underlying28 rfl (by exact Try.infoT))))
  (try simp only [Act.put, Zs, Zz, Zc])
  refine wpAnyD_oneL (i := 2) rfl (by kernel_rfl) (fun K hK => ?_)
  rw [if_pos (by rfl)]
  go_simp
  (go_at_call 31; refine (iha (Lo A w.heap.size m) _ _ _ (Up.lo hA hE hm3) ta.up hvr ba hba (by omega)).mono ?_; intro e W10 hpp; obtain ⟨v1, rfl, t1, hx⟩ := hpp)
  replace hS := hS.ext hx; (try dsimp only); refine hK.out _ _ (fun _ => hS) ?_; clear hK K; (try simp only [Act.put, Zs, Zz, Zc])
  replace b0 := b0.ext hx
  replace b1 := b1.ext hx
  replace b2 := b2.ext hx
  replace b3 := b3.ext hx
  replace b4 := b4.ext hx
  replace b5 := b5.ext hx
  replace tv := isT.ext hx tv
  replace ta := isT.ext hx ta
  replace tb := isT.ext hx tb
  replace hm3 := Nat.le_trans hm3 hx.below.size
  replace hE := hE.trans hx
  clear hx
  replace qz : r5 < W10.heap.size := b5.lt
  refine wpAnyD_oneL (i := 5) rfl (by kernel_rfl) (fun K hK => ?_)
  rw [if_pos (by rfl)]
  go_simp
  (go_at_call 53; refine (join_P (A := Lo A w.heap.size m) (insP a r) y (b) _ _ _ (Up.lo hA hE hm3) t1 tb.up hvy (bd_ins ba hba hvr (by omega)) bb (by omega)).mono ?_; intro e W11 hpp; obtain ⟨v2, rfl, t2, hx⟩ := hpp)
  replace hS := hS.ext hx; (try dsimp only); refine hK.out _ _ (fun _ => hS) ?_; clear hK K; (try simp only [Act.put, Zs, Zz, Zc])
  replace b0 := b0.ext hx
  replace b1 := b1.ext hx
  replace b2 := b2.ext hx
  replace b3 := b3.ext hx
  replace b4 := b4.ext hx
  replace b5 := b5.ext hx
  replace tv := isT.ext hx tv
  replace ta := isT.ext hx ta
  replace tb := isT.ext hx tb
  replace hm3 := Nat.le_trans hm3 hx.below.size
  replace t1 := isT.ext hx t1
  replace hE := hE.trans hx
  clear hx
  replace qz : r5 < W11.heap.size := b5.lt
  refine wpAnyD_oneL (i := 6) rfl (by kernel_rfl) (fun K hK => ?_)
  rw [if_pos (by rfl)]
  refine wp_store_box 28 _ _ (by rfl) b2 (by rfl) (by rfl) (by exact Try.infoT) (by first | exact RV.one _ | exact TV.one _ rfl | exact TV.one _ (isT.one tv) | exact TV.one _ (isT.one ta) | exact TV.one _ (isT.one tb) | exact TV.one _ (isT.one t1) | exact TV.one _ (isT.one t2)) (by rfl) (fun W12 hg bn => ?_)
  replace b0 := b0.kept hg (Zn (by omega))
  replace b1 := b1.kept hg (Zn (by omega))
  replace b3 := b3.kept hg (Zn (by omega))
  replace b4 := b4.kept hg (Zn (by omega))
  replace b5 := b5.kept hg (Zn (by omega))
  replace tv := isT.kept hg (Lw.not (by omega)) tv
  replace ta := isT.kept hg (Lw.not (by omega)) ta
  replace tb := isT.kept hg (Lw.not (by omega)) tb
  replace hm3 := Nat.le_trans hm3 hg.size
  replace t1 := isT.kept hg (Lo.not (by omega) (by omega)) t1
  replace t2 := isT.kept hg (Lo.not (by omega) (by omega)) t2
  replace hE := ext_grow hE hg (fun q hq => by cases hq; omega)
  replace hS := hS.step hg (by first | decide | (simp; done) | (simp; omega) | omega)
  clear b2 hg
  have b2 := bn
  clear bn
  (try dsimp only); refine hK.out _ _ (fun _ => hS) ?_; clear hK K; (try simp only [Act.put, Zs, Zz, Zc])
  replace qz : r5 < W12.heap.size := b5.lt
  refine wpAnyD_done (by kernel_rfl) ?_ _
  clear hS x0 x1 x2 x3 x4 x5
  go_wp2_with fail
  exact bodyPost_ret (res_c rfl (GivesC.of b2 rfl Try.underlying28 rfl Try.infoT)) rfl ⟨v2, rfl, t2.hi, hE⟩

set_option maxRecDepth 100000 in
set_option maxHeartbeats 4000000 in
theorem ins_br {a b : PT} {y : RV} (iha : InsOK a) (ihb : InsOK b) (A : Nat → Prop) (r : RV) (v : TV) (w : World) (hA : Up A w) (ht : isT A w (PT.N a y b).bt v) (hvr : vld r) (bp : bd (.N a y b)) (hb : (PT.N a y b).bal) (h8 : (PT.N a y b).ht ≤ 800) (hc : ¬ r.s < y.s) :
    Calls Try.prog 31 #[.agg v.cs.toArray, .agg r.cs.toArray] w fun e w' => ∃ v', e = .returned (.agg v'.cs.toArray) ∧ isT A w' (joinP a y (insP b r)).bt v' ∧ Ext w w' := by
  have h0 : v.h = (PT.N a y b).ht := ht.1
  have hv0 : (v.h == 0) = false := by have := PT.ht_pos a y b; simp; omega
  clear h0
  obtain ⟨ba, hvy, bb⟩ := bd_node bp
  have hh : a.ht ≤ 799 ∧ b.ht ≤ 799 := by have := PT.ht_nn a; have := PT.ht_nn b; simp only [PT.ht] at h8; omega
  have hba : a.bal := hb.1
  have hbb : b.bal := hb.2.1
  have hi9 := (ins_bal b r hbb).2.2
  clear h8 bp hb
  go_enter Try.func31, Try.ntmps31
  go_upto_region 1 with fail
  refine name_wX (fun W1 hW => ?_)
  have hE : Ext w W1 := by rw [hW]; repeat' (first | exact Ext.refl _ | apply Ext.al)
  have b0 : Blk W1 (w.heap.size) 28 v.cs := by rw [hW]; exact ((Blk.newAt rfl).alloc _).alloc _
  have b1 : Blk W1 (w.heap.size + 1) 25 r.cs := by rw [hW]; exact (Blk.newAt (by simp)).alloc _
  have b2 : Blk W1 (w.heap.size + 1 + 1) 28 TV.z.cs := by rw [hW]; exact Blk.newAt (by simp)
  clear hW
  obtain ⟨r2, hr2⟩ : ∃ r, r = w.heap.size + 1 + 1 := ⟨_, rfl⟩
  rw [← hr2] at b2
  try rw [← hr2]
  obtain ⟨r1, hr1⟩ : ∃ r, r = w.heap.size + 1 := ⟨_, rfl⟩
  rw [← hr1] at b1
  try rw [← hr1]
  obtain ⟨r0, hr0⟩ : ∃ r, r = w.heap.size := ⟨_, rfl⟩
  rw [← hr0] at b0
  try rw [← hr0]
  have q0 : w.heap.size ≤ r0 := by omega
  have q1 : r0 < r1 := by omega
  have q2 : r1 < r2 := by omega
  clear hr0 hr1 hr2
  have qz : r2 < W1.heap.size := b2.lt
  have tv := isT.ext hE (isT.lw ht)
  clear ht
  go_upto_region 1 with fail
  refine wp_region_lit ?_
  refine wpList_plain rfl (fun K hK => ?_); go_simp; (try dsimp only); refine hK _ _ ?_; clear hK K; (try simp only [Act.put, Zs, Zz, Zc])
  refine wpList_plain rfl (fun K hK => ?_); have zc := b0.cell 0; go_simp; clear zc; (try dsimp only); refine hK _ _ ?_; clear hK K; (try simp only [Act.put, Zs, Zz, Zc])
  refine wpList_plain rfl (fun K hK => ?_); go_simp; (try simp (disch := omega) only [Yq, Yr]); (try dsimp only); refine hK _ _ ?_; clear hK K; (try simp only [Act.put, Zs, Zz, Zc])
  refine wpList_nil ?_
  go_upto_region 3 with fail
  refine wp_region_lit ?_
  refine wpList_plain rfl (fun K hK => ?_); (first | (refine wp_ld 28 _ (b0.range) (by rfl) (by rfl) Try.underlying28 rfl (by exact Try.infoT) ?_)); (try dsimp only); refine hK _ _ ?_; clear hK K; (try simp only [Act.put, Zs, Zz, Zc])
  refine wpList_plain rfl (fun K hK => ?_); go_simp; (go_at_call 52; refine (parts_P (A := Lw A w.heap.size) _ _ _ _ _ tv).mono ?_; intro e W2 hpp; obtain ⟨va, vb, rfl, ta, tb, hx⟩ := hpp); (try dsimp only); refine hK _ _ ?_; clear hK K; (try simp only [Act.put, Zs, Zz, Zc])
  replace b0 := b0.ext hx
  replace b1 := b1.ext hx
  replace b2 := b2.ext hx
  replace tv := isT.ext hx tv
  replace ta := isT.ext hx ta
  replace tb := isT.ext hx tb
  replace hE := hE.trans hx
  clear hx
  replace qz : r2 < W2.heap.size := b2.lt
  iterate 5 (refine wpList_plain rfl (fun K hK => ?_); go_simp; (try dsimp only); refine hK _ _ ?_; clear hK K; (try simp only [Act.put, Zs, Zz, Zc]))
  refine name_wl (fun W3 hW => ?_)
  have hx : Ext W2 W3 := by rw [hW]; exact ext_alloc _ _
  have b3 : Blk W3 W2.heap.size 28 TV.z.cs := by rw [hW]; exact Blk.newAt rfl
  clear hW
  replace b0 := b0.ext hx
  replace b1 := b1.ext hx
  replace b2 := b2.ext hx
  replace tv := isT.ext hx tv
  replace ta := isT.ext hx ta
  replace tb := isT.ext hx tb
  replace hE := hE.trans hx
  clear hx
  obtain ⟨r3, hr⟩ : ∃ r, r = W2.heap.size := ⟨_, rfl⟩
  rw [← hr] at b3
  try rw [← hr]
  have q3 : r2 < r3 := by omega
  clear hr
  replace qz : r3 < W3.heap.size := b3.lt
  refine wpList_plain rfl (fun K hK => ?_); go_simp; (try dsimp only); refine hK _ _ ?_; clear hK K; (try simp only [Act.put, Zs, Zz, Zc])
  refine name_wl (fun W4 hW => ?_)
  have hx : Ext W3 W4 := by rw [hW]; exact ext_alloc _ _
  have b4 : Blk W4 W3.heap.size 25 RV.z.cs := by rw [hW]; exact Blk.newAt rfl
  clear hW
  replace b0 := b0.ext hx
  replace b1 := b1.ext hx
  replace b2 := b2.ext hx
  replace b3 := b3.ext hx
  replace tv := isT.ext hx tv
  replace ta := isT.ext hx ta
  replace tb := isT.ext hx tb
  replace hE := hE.trans hx
  clear hx
  obtain ⟨r4, hr⟩ : ∃ r, r = W3.heap.size := ⟨_, rfl⟩
  rw [← hr] at b4
  try rw [← hr]
  have q4 : r3 < r4 := by omega
  clear hr
  replace qz : r4 < W4.heap.size := b4.lt
  refine wpList_plain rfl (fun K hK => ?_); go_simp; (try dsimp only); refine hK _ _ ?_; clear hK K; (try simp only [Act.put, Zs, Zz, Zc])
  refine name_wl (fun W5 hW => ?_)
  have hx : Ext W4 W5 := by rw [hW]; exact ext_alloc _ _
  have b5 : Blk W5 W4.heap.size 28 TV.z.cs := by rw [hW]; exact Blk.newAt rfl
  clear hW
  replace b0 := b0.ext hx
  replace b1 := b1.ext hx
  replace b2 := b2.ext hx
  replace b3 := b3.ext hx
  replace b4 := b4.ext hx
  replace tv := isT.ext hx tv
  replace ta := isT.ext hx ta
  replace tb := isT.ext hx tb
  replace hE := hE.trans hx
  clear hx
  obtain ⟨r5, hr⟩ : ∃ r, r = W4.heap.size := ⟨_, rfl⟩
  rw [← hr] at b5
  try rw [← hr]
  have q5 : r4 < r5 := by omega
  clear hr
  replace qz : r5 < W5.heap.size := b5.lt
  refine wpList_plain rfl (fun K hK => ?_)
  refine wp_store_box 28 _ _ (by rfl) b3 (by rfl) (by rfl) (by exact Try.infoT) (by first | exact RV.one _ | exact TV.one _ rfl | exact TV.one _ (isT.one tv) | exact TV.one _ (isT.one ta) | exact TV.one _ (isT.one tb)) (by rfl) (fun W6 hg bn => ?_)
  replace b0 := b0.kept hg (Zn (by omega))
  replace b1 := b1.kept hg (Zn (by omega))
  replace b2 := b2.kept hg (Zn (by omega))
  replace b4 := b4.kept hg (Zn (by omega))
  replace b5 := b5.kept hg (Zn (by omega))
  replace tv := isT.kept hg (Lw.not (by omega)) tv
  replace ta := isT.kept hg (Lw.not (by omega)) ta
  replace tb := isT.kept hg (Lw.not (by omega)) tb
  replace hE := ext_grow hE hg (fun q hq => by cases hq; omega)
  clear b3 hg
  have b3 := bn
  clear bn
  (try dsimp only); refine hK _ _ ?_; clear hK K; (try simp only [Act.put, Zs, Zz, Zc])
  replace qz : r5 < W6.heap.size := b5.lt
  refine wpList_plain rfl (fun K hK => ?_)
  refine wp_store_box 25 _ _ (by rfl) b4 (by rfl) (by rfl) (by exact Try.infoR) (by first | exact RV.one _ | exact TV.one _ rfl | exact TV.one _ (isT.one tv) | exact TV.one _ (isT.one ta) | exact TV.one _ (isT.one tb)) (by rfl) (fun W7 hg bn => ?_)
  replace b0 := b0.kept hg (Zn (by omega))
  replace b1 := b1.kept hg (Zn (by omega))
  replace b2 := b2.kept hg (Zn (by omega))
  replace b3 := b3.kept hg (Zn (by omega))
  replace b5 := b5.kept hg (Zn (by omega))
  replace tv := isT.kept hg (Lw.not (by omega)) tv
  replace ta := isT.kept hg (Lw.not (by omega)) ta
  replace tb := isT.kept hg (Lw.not (by omega)) tb
  replace hE := ext_grow hE hg (fun q hq => by cases hq; omega)
  clear b4 hg
  have b4 := bn
  clear bn
  (try dsimp only); refine hK _ _ ?_; clear hK K; (try simp only [Act.put, Zs, Zz, Zc])
  replace qz : r5 < W7.heap.size := b5.lt
  refine wpList_plain rfl (fun K hK => ?_)
  refine wp_store_box 28 _ _ (by rfl) b5 (by rfl) (by rfl) (by exact Try.infoT) (by first | exact RV.one _ | exact TV.one _ rfl | exact TV.one _ (isT.one tv) | exact TV.one _ (isT.one ta) | exact TV.one _ (isT.one tb)) (by rfl) (fun W8 hg bn => ?_)
  replace b0 := b0.kept hg (Zn (by omega))
  replace b1 := b1.kept hg (Zn (by omega))
  replace b2 := b2.kept hg (Zn (by omega))
  replace b3 := b3.kept hg (Zn (by omega))
  replace b4 := b4.kept hg (Zn (by omega))
  replace tv := isT.kept hg (Lw.not (by omega)) tv
  replace ta := isT.kept hg (Lw.not (by omega)) ta
  replace tb := isT.kept hg (Lw.not (by omega)) tb
  replace hE := ext_grow hE hg (fun q hq => by cases hq; omega)
  clear b5 hg
  have b5 := bn
  clear bn
  (try dsimp only); refine hK _ _ ?_; clear hK K; (try simp only [Act.put, Zs, Zz, Zc])
  replace qz : r5 < W8.heap.size := b5.lt
  refine wpList_nil ?_
  go_upto_region 4 with fail
  refine wp_region_lit ?_
  refine wpList_plain rfl (fun K hK => ?_); go_simp; (try dsimp only); refine hK _ _ ?_; clear hK K; (try simp only [Act.put, Zs, Zz, Zc])
  refine wpList_plain rfl (fun K hK => ?_); have zc := b1.cell 0; go_simp; clear zc; (try dsimp only); refine hK _ _ ?_; clear hK K; (try simp only [Act.put, Zs, Zz, Zc])
  refine wpList_plain rfl (fun K hK => ?_); go_simp; (try dsimp only); refine hK _ _ ?_; clear hK K; (try simp only [Act.put, Zs, Zz, Zc])
  refine wpList_plain rfl (fun K hK => ?_); have zc := b4.cell 0; go_simp; clear zc; (try dsimp only); refine hK _ _ ?_; clear hK K; (try simp only [Act.put, Zs, Zz, Zc])
  refine wpList_plain rfl (fun K hK => ?_); go_simp; (try simp (disch := omega) only [Yq, Yr]); (try dsimp only); refine hK _ _ ?_; clear hK K; (try simp only [Act.put, Zs, Zz, Zc])
  refine wpList_nil ?_
  go_upto_region 6 with fail
  obtain ⟨m, hm, hm2⟩ : ∃ m, r5 < m ∧ m = W8.heap.size := ⟨_, qz, rfl⟩
  have hm3 : m ≤ W8.heap.size := by omega
  clear hm2
  have x0 := b0
  have x1 := b1
  have x2 := b2
  have x3 := b3
  have x4 := b4
  have x5 := b5
  have hS : GrownX W8 [r2] W8 := GrownX.refl _ _
  refine wp_region_S (GrownX W8 [r2]) (by kernel_rfl) ?_
  refine name_wd (fun W9 hW => ?_)
  have hx : Ext W8 W9 := by rw [hW]; exact ext_drew _
  clear hW
  replace hS := hS.ext hx
  replace b0 := b0.ext hx
  replace b1 := b1.ext hx
  replace b2 := b2.ext hx
  replace b3 := b3.ext hx
  replace b4 := b4.ext hx
  replace b5 := b5.ext hx
  replace tv := isT.ext hx tv
  replace ta := isT.ext hx ta
  replace tb := isT.ext hx tb
  replace hm3 := Nat.le_trans hm3 hx.below.size
  replace hE := hE.trans hx
  clear hx
  replace qz : r5 < W9.heap.size := b5.lt
  refine wpAnyD_takeSL (i := 0) rfl (by kernel_rfl) (fun _ _ _ _ h => h) hS ?_
  apply Exists.intro
  refine ⟨Or.inl ⟨by rfl, ?_⟩, ?_⟩
  (focus (intro wz hz; (first | exact exec_ld 28 _ rfl rfl ((GrownX.blk hz x3 (by first | decide | (simp; done) | (simp; omega) | omega)).range) Try.underlying28 rfl (by exact Try.infoT))))
  (try simp only [Act.put, Zs, Zz, Zc])
  refine wpAnyD_takeSL (i := 1) rfl (by kernel_rfl) (fun _ _ _ _ h => h) hS ?_
  apply Exists.intro
  refine ⟨Or.inl ⟨by rfl, ?_⟩, ?_⟩
  (focus (intro wz hz; (first | exact exec_ld 25 _ rfl rfl ((GrownX.blk hz x4 (by first | decide | (simp; done) | (simp; omega) | omega)).range) Try.underlying25 rfl (by exact Try.infoR))))
  (try simp only [Act.put, Zs, Zz, Zc])
  refine wpAnyD_takeSL (i := 2) rfl (by kernel_rfl) (fun _ _ _ _ h => h) hS ?_
  apply Exists.intro
  refine ⟨Or.inl ⟨by rfl, ?_⟩, ?_⟩
  (focus (intro wz hz; (first | exact exec_ld 28 _ rfl rfl ((GrownX.blk hz x5 (by first | decide | (simp; done) | (simp; omega) | omega)).range) Try.underlying28 rfl (by exact Try.infoT))))
  (try simp only [Act.put, Zs, Zz, Zc])
  refine wpAnyD_takeSL (i := 3) rfl (by kernel_rfl) (fun _ _ _ _ h => h) hS ?_
  apply Exists.intro
  refine ⟨Or.inl ⟨by rfl, ?_⟩, ?_⟩
  (focus (intro wz hz; (first | exact exec_ld 25 _ rfl rfl ((GrownX.blk hz x1 (by first | decide | (simp; done) | (simp; omega) | omega)).range) Try.underlying25 rfl (by exact Try.infoR))))
  (try simp only [Act.put, Zs, Zz, Zc])
  refine wpAnyD_oneL (i := 4) rfl (by kernel_rfl) (fun K hK => ?_)
  rw [if_pos (by rfl)]
  go_simp
  (go_at_call 31; refine (ihb (Lo A w.heap.size m) _ _ _ (Up.lo hA hE hm3) tb.up hvr bb hbb (by omega)).mono ?_; intro e W10 hpp; obtain ⟨v1, rfl, t1, hx⟩ := hpp)
  replace hS := hS.ext hx; (try dsimp only); refine hK.out _ _ (fun _ => hS) ?_; clear hK K; (try simp only [Act.put, Zs, Zz, Zc])
  replace b0 := b0.ext hx
  replace b1 := b1.ext hx
  replace b2 := b2.ext hx
  replace b3 := b3.ext hx
  replace b4 := b4.ext hx
  replace b5 := b5.ext hx
  replace tv := isT.ext hx tv
  replace ta := isT.ext hx ta
  replace tb := isT.ext hx tb
  replace hm3 := Nat.le_trans hm3 hx.below.size
  replace hE := hE.trans hx
  clear hx
  replace qz : r5 < W10.heap.size := b5.lt
  refine wpAnyD_oneL (i := 5) rfl (by kernel_rfl) (fun K hK => ?_)
  rw [if_pos (by rfl)]
  go_simp
  (go_at_call 53; refine (join_P (A := Lo A w.heap.size m) (a) y (insP b r) _ _ _ (Up.lo hA hE hm3) ta.up t1 hvy ba (bd_ins bb hbb hvr (by omega)) (by omega)).mono ?_; intro e W11 hpp; obtain ⟨v2, rfl, t2, hx⟩ := hpp)
  replace hS := hS.ext hx; (try dsimp only); refine hK.out _ _ (fun _ => hS) ?_; clear hK K; (try simp only [Act.put, Zs, Zz, Zc])
  replace b0 := b0.ext hx
  replace b1 := b1.ext hx
  replace b2 := b2.ext hx
  replace b3 := b3.ext hx
  replace b4 := b4.ext hx
  replace b5 := b5.ext hx
  replace tv := isT.ext hx tv
  replace ta := isT.ext hx ta
  replace tb := isT.ext hx tb
  replace hm3 := Nat.le_trans hm3 hx.below.size
  replace t1 := isT.ext hx t1
  replace hE := hE.trans hx
  clear hx
  replace qz : r5 < W11.heap.size := b5.lt
  refine wpAnyD_oneL (i := 6) rfl (by kernel_rfl) (fun K hK => ?_)
  rw [if_pos (by rfl)]
  refine wp_store_box 28 _ _ (by rfl) b2 (by rfl) (by rfl) (by exact Try.infoT) (by first | exact RV.one _ | exact TV.one _ rfl | exact TV.one _ (isT.one tv) | exact TV.one _ (isT.one ta) | exact TV.one _ (isT.one tb) | exact TV.one _ (isT.one t1) | exact TV.one _ (isT.one t2)) (by rfl) (fun W12 hg bn => ?_)
  replace b0 := b0.kept hg (Zn (by omega))
  replace b1 := b1.kept hg (Zn (by omega))
  replace b3 := b3.kept hg (Zn (by omega))
  replace b4 := b4.kept hg (Zn (by omega))
  replace b5 := b5.kept hg (Zn (by omega))
  replace tv := isT.kept hg (Lw.not (by omega)) tv
  replace ta := isT.kept hg (Lw.not (by omega)) ta
  replace tb := isT.kept hg (Lw.not (by omega)) tb
  replace hm3 := Nat.le_trans hm3 hg.size
  replace t1 := isT.kept hg (Lo.not (by omega) (by omega)) t1
  replace t2 := isT.kept hg (Lo.not (by omega) (by omega)) t2
  replace hE := ext_grow hE hg (fun q hq => by cases hq; omega)
  replace hS := hS.step hg (by first | decide | (simp; done) | (simp; omega) | omega)
  clear b2 hg
  have b2 := bn
  clear bn
  (try dsimp only); refine hK.out _ _ (fun _ => hS) ?_; clear hK K; (try simp only [Act.put, Zs, Zz, Zc])
  replace qz : r5 < W12.heap.size := b5.lt
  refine wpAnyD_done (by kernel_rfl) ?_ _
  clear hS x0 x1 x2 x3 x4 x5
  go_wp2_with fail
  exact bodyPost_ret (res_c rfl (GivesC.of b2 rfl Try.underlying28 rfl Try.infoT)) rfl ⟨v2, rfl, t2.hi, hE⟩

theorem ins_P : ∀ p : PT, InsOK p
  | .E => ins_E
  | .N a y b => by
    intro A r v w hA ht hvr bp hb h8
    unfold insP
    by_cases hc : r.s < y.s
    · rw [if_pos hc]
      exact ins_al (ins_P a) (ins_P b) A r v w hA ht hvr bp hb h8 hc
    · rw [if_neg hc]
      exact ins_br (ins_P a) (ins_P b) A r v w hA ht hvr bp hb h8 hc

end Go.Proofs.Ytnbohogkfdeddaa
