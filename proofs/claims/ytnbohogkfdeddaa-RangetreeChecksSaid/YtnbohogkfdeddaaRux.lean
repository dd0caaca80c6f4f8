/- Rangetree: the reference: Same of trees. -/
import Derived.Test.YtnbohogkfdeddaaRuf
import Derived.Test.YtnbohogkfdeddaaRtf
set_option linter.unusedSimpArgs false
set_option linter.unusedVariables false
namespace Go.Proofs.Ytnbohogkfdeddaa
open Go.RowKit

def SameOK (p : PT) : Prop := ∀ (A B : Nat → Prop) (va vb : TV) (w : World), isT A w p.bt va → isT B w p.bt vb →
    Calls Try.prog 14 #[.agg va.cs.toArray, .agg vb.cs.toArray] w fun e w' => e = .returned (.bool true) ∧ Ext w w'

set_option maxRecDepth 100000 in
set_option maxHeartbeats 4000000 in
theorem rsame_E : SameOK .E := by
  intro A B va vb w ha hb
  obtain ⟨n1, n2, n3, n4⟩ := isP_num ha
  obtain ⟨m1, m2, m3, m4⟩ := isP_num hb
  have e1 : (va.h != vb.h) = false := by rw [n1, m1]; simp
  have e2 : (va.f != vb.f) = false := by rw [n2, m2]; simp
  have e3 : (va.l != vb.l) = false := by rw [n3, m3]; simp
  have e4 : (va.g != vb.g) = false := by rw [n4, m4]; simp
  clear n1 n2 n3 n4 m1 m2 m3 m4
  have hx : va.x = vb.x := by rw [ha.2.2.2.2.1, hb.2.2.2.2.1]
  have e5 : (!(eqR va.x vb.x)) = false := by rw [hx, (eqR_iff _ _).2 rfl]; rfl
  obtain ⟨ka, ca, hka⟩ : ∃ a c, va.k = .slice a 0 c := ha.2.2.2.2.2
  obtain ⟨kb, cb, hkb⟩ : ∃ a c, vb.k = .slice a 0 c := hb.2.2.2.2.2
  clear ha hb hx
  obtain ⟨ah, af, al, ag, ax, ak⟩ := va
  obtain ⟨bh, bf, bl, bg, bx, bk⟩ := vb
  dsimp only at *
  subst hka hkb
  go_enter Try.func14, Try.ntmps14
  go_upto_region 1 with fail
  refine name_wX (fun W1 hW => ?_)
  have hE : Ext w W1 := by rw [hW]; repeat' (first | exact Ext.refl _ | apply Ext.al)
  have b0 : Blk W1 (w.heap.size) 28 (TV.cs ⟨ah, af, al, ag, ax, .slice ka 0 ca⟩) := by rw [hW]; exact (Blk.newAt rfl).alloc _
  have b1 : Blk W1 (w.heap.size + 1) 28 (TV.cs ⟨bh, bf, bl, bg, bx, .slice kb 0 cb⟩) := by rw [hW]; exact Blk.newAt (by simp)
  clear hW
  obtain ⟨r1, hr1⟩ : ∃ r, r = w.heap.size + 1 := ⟨_, rfl⟩
  rw [← hr1] at b1
  try rw [← hr1]
  obtain ⟨r0, hr0⟩ : ∃ r, r = w.heap.size := ⟨_, rfl⟩
  rw [← hr0] at b0
  try rw [← hr0]
  have q0 : w.heap.size ≤ r0 := by omega
  have q1 : r0 < r1 := by omega
  clear hr0 hr1
  have qz : r1 < W1.heap.size := b1.lt
  refine wp_region_lit ?_
  refine wpList_plain rfl (fun K hK => ?_); go_simp; (try dsimp only); refine hK _ _ ?_; clear hK K; (try simp only [Act.put, Zs, Zz, Zc])
  refine wpList_plain rfl (fun K hK => ?_); have zc := b0.cell 0; go_simp; clear zc; (try simp only [e1, e2, e3, e4, e5]); (try dsimp only); refine hK _ _ ?_; clear hK K; (try simp only [Act.put, Zs, Zz, Zc])
  refine wpList_plain rfl (fun K hK => ?_); go_simp; (try dsimp only); refine hK _ _ ?_; clear hK K; (try simp only [Act.put, Zs, Zz, Zc])
  refine wpList_plain rfl (fun K hK => ?_); have zc := b1.cell 0; go_simp; clear zc; (try simp only [e1, e2, e3, e4, e5]); (try dsimp only); refine hK _ _ ?_; clear hK K; (try simp only [Act.put, Zs, Zz, Zc])
  refine wpList_plain rfl (fun K hK => ?_); go_simp; (try simp (disch := omega) only [Yq, Yr]); (try simp only [e1, e2, e3, e4, e5]); (try dsimp only); refine hK _ _ ?_; clear hK K; (try simp only [Act.put, Zs, Zz, Zc])
  refine wpList_plain rfl (fun K hK => ?_); go_simp; (try dsimp only); refine hK _ _ ?_; clear hK K; (try simp only [Act.put, Zs, Zz, Zc])
  refine wpList_step (fun K hK => ?_); rw [if_pos (by rfl)]; go_simp; (try dsimp only); refine hK _ _ ?_; clear hK K; (try simp only [Act.put, Zs, Zz, Zc])
  refine wpList_step (fun K hK => ?_); rw [if_pos (by rfl)]; have zc := b0.cell 1; go_simp; clear zc; (try simp only [e1, e2, e3, e4, e5]); (try dsimp only); refine hK _ _ ?_; clear hK K; (try simp only [Act.put, Zs, Zz, Zc])
  refine wpList_step (fun K hK => ?_); rw [if_pos (by rfl)]; go_simp; (try dsimp only); refine hK _ _ ?_; clear hK K; (try simp only [Act.put, Zs, Zz, Zc])
  refine wpList_step (fun K hK => ?_); rw [if_pos (by rfl)]; have zc := b1.cell 1; go_simp; clear zc; (try simp only [e1, e2, e3, e4, e5]); (try dsimp only); refine hK _ _ ?_; clear hK K; (try simp only [Act.put, Zs, Zz, Zc])
  refine wpList_step (fun K hK => ?_); rw [if_pos (by rfl)]; go_simp; (try simp (disch := omega) only [Yq, Yr]); (try simp only [e1, e2, e3, e4, e5]); (try dsimp only); refine hK _ _ ?_; clear hK K; (try simp only [Act.put, Zs, Zz, Zc])
  iterate 2 (refine wpList_plain rfl (fun K hK => ?_); go_simp; (try dsimp only); refine hK _ _ ?_; clear hK K; (try simp only [Act.put, Zs, Zz, Zc]))
  refine wpList_step (fun K hK => ?_); rw [if_pos (by rfl)]; go_simp; (try dsimp only); refine hK _ _ ?_; clear hK K; (try simp only [Act.put, Zs, Zz, Zc])
  refine wpList_step (fun K hK => ?_); rw [if_pos (by rfl)]; have zc := b0.cell 2; go_simp; clear zc; (try simp only [e1, e2, e3, e4, e5]); (try dsimp only); refine hK _ _ ?_; clear hK K; (try simp only [Act.put, Zs, Zz, Zc])
  refine wpList_step (fun K hK => ?_); rw [if_pos (by rfl)]; go_simp; (try dsimp only); refine hK _ _ ?_; clear hK K; (try simp only [Act.put, Zs, Zz, Zc])
  refine wpList_step (fun K hK => ?_); rw [if_pos (by rfl)]; have zc := b1.cell 2; go_simp; clear zc; (try simp only [e1, e2, e3, e4, e5]); (try dsimp only); refine hK _ _ ?_; clear hK K; (try simp only [Act.put, Zs, Zz, Zc])
  refine wpList_step (fun K hK => ?_); rw [if_pos (by rfl)]; go_simp; (try simp (disch := omega) only [Yq, Yr]); (try simp only [e1, e2, e3, e4, e5]); (try dsimp only); refine hK _ _ ?_; clear hK K; (try simp only [Act.put, Zs, Zz, Zc])
  iterate 2 (refine wpList_plain rfl (fun K hK => ?_); go_simp; (try dsimp only); refine hK _ _ ?_; clear hK K; (try simp only [Act.put, Zs, Zz, Zc]))
  refine wpList_step (fun K hK => ?_); rw [if_pos (by rfl)]; go_simp; (try dsimp only); refine hK _ _ ?_; clear hK K; (try simp only [Act.put, Zs, Zz, Zc])
  refine wpList_step (fun K hK => ?_); rw [if_pos (by rfl)]; have zc := b0.cell 3; go_simp; clear zc; (try simp only [e1, e2, e3, e4, e5]); (try dsimp only); refine hK _ _ ?_; clear hK K; (try simp only [Act.put, Zs, Zz, Zc])
  refine wpList_step (fun K hK => ?_); rw [if_pos (by rfl)]; go_simp; (try dsimp only); refine hK _ _ ?_; clear hK K; (try simp only [Act.put, Zs, Zz, Zc])
  refine wpList_step (fun K hK => ?_); rw [if_pos (by rfl)]; have zc := b1.cell 3; go_simp; clear zc; (try simp only [e1, e2, e3, e4, e5]); (try dsimp only); refine hK _ _ ?_; clear hK K; (try simp only [Act.put, Zs, Zz, Zc])
  refine wpList_step (fun K hK => ?_); rw [if_pos (by rfl)]; go_simp; (try simp (disch := omega) only [Yq, Yr]); (try simp only [e1, e2, e3, e4, e5]); (try dsimp only); refine hK _ _ ?_; clear hK K; (try simp only [Act.put, Zs, Zz, Zc])
  iterate 2 (refine wpList_plain rfl (fun K hK => ?_); go_simp; (try dsimp only); refine hK _ _ ?_; clear hK K; (try simp only [Act.put, Zs, Zz, Zc]))
  refine wpList_step (fun K hK => ?_); rw [if_pos (by rfl)]; go_simp; (try dsimp only); refine hK _ _ ?_; clear hK K; (try simp only [Act.put, Zs, Zz, Zc])
  refine wpList_step (fun K hK => ?_); rw [if_pos (by rfl)]; (first | (refine wp_ld 25 _ (Blk.rgn b0) (by rfl) (by rfl) Try.underlying25 rfl (by exact Try.infoR) ?_)); (try dsimp only); refine hK _ _ ?_; clear hK K; (try simp only [Act.put, Zs, Zz, Zc])
  refine wpList_step (fun K hK => ?_); rw [if_pos (by rfl)]; go_simp; (try dsimp only); refine hK _ _ ?_; clear hK K; (try simp only [Act.put, Zs, Zz, Zc])
  refine wpList_step (fun K hK => ?_); rw [if_pos (by rfl)]; (first | (refine wp_ld 25 _ (Blk.rgn b1) (by rfl) (by rfl) Try.underlying25 rfl (by exact Try.infoR) ?_)); (try dsimp only); refine hK _ _ ?_; clear hK K; (try simp only [Act.put, Zs, Zz, Zc])
  refine wpList_step (fun K hK => ?_); rw [if_pos (by rfl)]; refine wp_neqR _ _ (by rfl) (by rfl) (by rfl) ?_; (try simp only [e1, e2, e3, e4, e5]); (try dsimp only); refine hK _ _ ?_; clear hK K; (try simp only [Act.put, Zs, Zz, Zc])
  iterate 2 (refine wpList_plain rfl (fun K hK => ?_); go_simp; (try dsimp only); refine hK _ _ ?_; clear hK K; (try simp only [Act.put, Zs, Zz, Zc]))
  refine wpList_step (fun K hK => ?_); rw [if_pos (by rfl)]; go_simp; (try dsimp only); refine hK _ _ ?_; clear hK K; (try simp only [Act.put, Zs, Zz, Zc])
  refine wpList_step (fun K hK => ?_); rw [if_pos (by rfl)]; have zc := b0.cell 10; go_simp; clear zc; (try simp only [e1, e2, e3, e4, e5]); (try dsimp only); refine hK _ _ ?_; clear hK K; (try simp only [Act.put, Zs, Zz, Zc])
  iterate 2 (refine wpList_step (fun K hK => ?_); rw [if_pos (by rfl)]; go_simp; (try dsimp only); refine hK _ _ ?_; clear hK K; (try simp only [Act.put, Zs, Zz, Zc]))
  refine wpList_step (fun K hK => ?_); rw [if_pos (by rfl)]; have zc := b1.cell 10; go_simp; clear zc; (try simp only [e1, e2, e3, e4, e5]); (try dsimp only); refine hK _ _ ?_; clear hK K; (try simp only [Act.put, Zs, Zz, Zc])
  refine wpList_step (fun K hK => ?_); rw [if_pos (by rfl)]; go_simp; (try dsimp only); refine hK _ _ ?_; clear hK K; (try simp only [Act.put, Zs, Zz, Zc])
  refine wpList_step (fun K hK => ?_); rw [if_pos (by rfl)]; go_simp; (try simp (disch := omega) only [Yq, Yr]); (try simp only [e1, e2, e3, e4, e5]); (try dsimp only); refine hK _ _ ?_; clear hK K; (try simp only [Act.put, Zs, Zz, Zc])
  refine wpList_plain rfl (fun K hK => ?_); go_simp; (try dsimp only); refine hK _ _ ?_; clear hK K; (try simp only [Act.put, Zs, Zz, Zc])
  refine wpList_nil ?_
  go_upto_region 3 with fail
  refine wp_region_lit ?_
  refine wpList_plain rfl (fun K hK => ?_); go_simp; (try dsimp only); refine hK _ _ ?_; clear hK K; (try simp only [Act.put, Zs, Zz, Zc])
  refine wpList_nil ?_
  go_upto_region 4 with fail
  go_loopw [5] (fun vi wr => vi = .int .i64 0 ∧ Blk wr r0 28 (TV.cs ⟨ah, af, al, ag, ax, .slice ka 0 ca⟩) ∧ Ext w wr) (fun _ _ => 0)
  case atStart => exact ⟨rfl, b0, hE⟩
  case round =>
    clear b0 hE
    obtain ⟨rfl, b0, hE⟩ := hrel
    obtain ⟨W0, rfl⟩ : ∃ W, W = wr := ⟨_, rfl⟩
    go_upto_region 4 with fail
    refine wp_region_lit ?_
    iterate 2 (refine wpList_plain rfl (fun K hK => ?_); go_simp; (try dsimp only); refine hK _ _ ?_; clear hK K; (try simp only [Act.put, Zs, Zz, Zc]))
    refine wpList_plain rfl (fun K hK => ?_); have zc := b0.cell 10; go_simp; clear zc; (try dsimp only); refine hK _ _ ?_; clear hK K; (try simp only [Act.put, Zs, Zz, Zc])
    refine wpList_plain rfl (fun K hK => ?_); go_simp; (try dsimp only); refine hK _ _ ?_; clear hK K; (try simp only [Act.put, Zs, Zz, Zc])
    refine wpList_plain rfl (fun K hK => ?_); go_simp; (try simp (disch := omega) only [Yq, Yr]); (try dsimp only); refine hK _ _ ?_; clear hK K; (try simp only [Act.put, Zs, Zz, Zc])
    refine wpList_nil ?_
    go_upto_region 8 with fail
    refine wp_region_lit ?_
    refine wpList_plain rfl (fun K hK => ?_); go_simp; (try dsimp only); refine hK _ _ ?_; clear hK K; (try simp only [Act.put, Zs, Zz, Zc])
    refine wpList_nil ?_
    go_wp2_with fail
    go_ret
    exact ⟨rfl, hE⟩

set_option maxRecDepth 100000 in
set_option maxHeartbeats 4000000 in
theorem rsame_N {a b : PT} {y : RV} (iha : SameOK a) (ihb : SameOK b) : SameOK (.N a y b) := by
  intro A B va vb w ha hb
  obtain ⟨n1, n2, n3, n4⟩ := isP_num ha
  obtain ⟨m1, m2, m3, m4⟩ := isP_num hb
  have e1 : (va.h != vb.h) = false := by rw [n1, m1]; simp
  have e2 : (va.f != vb.f) = false := by rw [n2, m2]; simp
  have e3 : (va.l != vb.l) = false := by rw [n3, m3]; simp
  have e4 : (va.g != vb.g) = false := by rw [n4, m4]; simp
  clear n1 n2 n3 n4 m1 m2 m3 m4
  obtain ⟨-, -, -, -, xa, -, g1, o1, c1, pa, pb, hka, hc1, hg1, -, hra1, hrb1, ta1, tb1⟩ := ha
  obtain ⟨-, -, -, -, xb, -, g2, o2, c2, qa, qb, hkb, hc2, hg2, -, hra2, hrb2, ta2, tb2⟩ := hb
  have e5 : (!(eqR va.x vb.x)) = false := by rw [xa, xb, (eqR_iff _ _).2 rfl]; rfl
  clear xa xb
  obtain ⟨ah, af, al, ag, ax, ak⟩ := va
  obtain ⟨bh, bf, bl, bg, bx, bk⟩ := vb
  dsimp only at *
  subst hka hkb
  have hcI1 : (2 : Int) ≤ (c1 : Int) := by omega
  have hcI2 : (2 : Int) ≤ (c2 : Int) := by omega
  go_enter Try.func14, Try.ntmps14
  go_upto_region 1 with fail
  refine name_wX (fun W1 hW => ?_)
  have hE : Ext w W1 := by rw [hW]; repeat' (first | exact Ext.refl _ | apply Ext.al)
  have b0 : Blk W1 (w.heap.size) 28 (TV.cs ⟨ah, af, al, ag, ax, .slice (some ⟨g1, o1, none⟩) 2 c1⟩) := by rw [hW]; exact (Blk.newAt rfl).alloc _
  have b1 : Blk W1 (w.heap.size + 1) 28 (TV.cs ⟨bh, bf, bl, bg, bx, .slice (some ⟨g2, o2, none⟩) 2 c2⟩) := by rw [hW]; exact Blk.newAt (by simp)
  clear hW
  obtain ⟨r1, hr1⟩ : ∃ r, r = w.heap.size + 1 := ⟨_, rfl⟩
  rw [← hr1] at b1
  try rw [← hr1]
  obtain ⟨r0, hr0⟩ : ∃ r, r = w.heap.size := ⟨_, rfl⟩
  rw [← hr0] at b0
  try rw [← hr0]
  have q0 : w.heap.size ≤ r0 := by omega
  have q1 : r0 < r1 := by omega
  clear hr0 hr1
  have qz : r1 < W1.heap.size := b1.lt
  replace ta1 := isT.ext hE ta1
  replace tb1 := isT.ext hE tb1
  replace ta2 := isT.ext hE ta2
  replace tb2 := isT.ext hE tb2
  replace hra1 := rangeAt.ext hra1 hg1 hE
  replace hrb1 := rangeAt.ext hrb1 hg1 hE
  replace hra2 := rangeAt.ext hra2 hg2 hE
  replace hrb2 := rangeAt.ext hrb2 hg2 hE
  replace hg1 := Nat.lt_of_lt_of_le hg1 hE.below.size
  replace hg2 := Nat.lt_of_lt_of_le hg2 hE.below.size
  refine wp_region_lit ?_
  refine wpList_plain rfl (fun K hK => ?_); go_simp; (try dsimp only); refine hK _ _ ?_; clear hK K; (try simp only [Act.put, Zs, Zz, Zc])
  refine wpList_plain rfl (fun K hK => ?_); have zc := b0.cell 0; go_simp; clear zc; (try simp only [e1, e2, e3, e4, e5]); (try dsimp only); refine hK _ _ ?_; clear hK K; (try simp only [Act.put, Zs, Zz, Zc])
  refine wpList_plain rfl (fun K hK => ?_); go_simp; (try dsimp only); refine hK _ _ ?_; clear hK K; (try simp only [Act.put, Zs, Zz, Zc])
  refine wpList_plain rfl (fun K hK => ?_); have zc := b1.cell 0; go_simp; clear zc; (try simp only [e1, e2, e3, e4, e5]); (try dsimp only); refine hK _ _ ?_; clear hK K; (try simp only [Act.put, Zs, Zz, Zc])
  refine wpList_plain rfl (fun K hK => ?_); go_simp; (try simp (disch := omega) only [Yq, Yr]); (try simp only [e1, e2, e3, e4, e5]); (try dsimp only); refine hK _ _ ?_; clear hK K; (try simp only [Act.put, Zs, Zz, Zc])
  refine wpList_plain rfl (fun K hK => ?_); go_simp; (try dsimp only); refine hK _ _ ?_; clear hK K; (try simp only [Act.put, Zs, Zz, Zc])
  refine wpList_step (fun K hK => ?_); rw [if_pos (by rfl)]; go_simp; (try dsimp only); refine hK _ _ ?_; clear hK K; (try simp only [Act.put, Zs, Zz, Zc])
  refine wpList_step (fun K hK => ?_); rw [if_pos (by rfl)]; have zc := b0.cell 1; go_simp; clear zc; (try simp only [e1, e2, e3, e4, e5]); (try dsimp only); refine hK _ _ ?_; clear hK K; (try simp only [Act.put, Zs, Zz, Zc])
  refine wpList_step (fun K hK => ?_); rw [if_pos (by rfl)]; go_simp; (try dsimp only); refine hK _ _ ?_; clear hK K; (try simp only [Act.put, Zs, Zz, Zc])
  refine wpList_step (fun K hK => ?_); rw [if_pos (by rfl)]; have zc := b1.cell 1; go_simp; clear zc; (try simp only [e1, e2, e3, e4, e5]); (try dsimp only); refine hK _ _ ?_; clear hK K; (try simp only [Act.put, Zs, Zz, Zc])
  refine wpList_step (fun K hK => ?_); rw [if_pos (by rfl)]; go_simp; (try simp (disch := omega) only [Yq, Yr]); (try simp only [e1, e2, e3, e4, e5]); (try dsimp only); refine hK _ _ ?_; clear hK K; (try simp only [Act.put, Zs, Zz, Zc])
  iterate 2 (refine wpList_plain rfl (fun K hK => ?_); go_simp; (try dsimp only); refine hK _ _ ?_; clear hK K; (try simp only [Act.put, Zs, Zz, Zc]))
  refine wpList_step (fun K hK => ?_); rw [if_pos (by rfl)]; go_simp; (try dsimp only); refine hK _ _ ?_; clear hK K; (try simp only [Act.put, Zs, Zz, Zc])
  refine wpList_step (fun K hK => ?_); rw [if_pos (by rfl)]; have zc := b0.cell 2; go_simp; clear zc; (try simp only [e1, e2, e3, e4, e5]); (try dsimp only); refine hK _ _ ?_; clear hK K; (try simp only [Act.put, Zs, Zz, Zc])
  refine wpList_step (fun K hK => ?_); rw [if_pos (by rfl)]; go_simp; (try dsimp only); refine hK _ _ ?_; clear hK K; (try simp only [Act.put, Zs, Zz, Zc])
  refine wpList_step (fun K hK => ?_); rw [if_pos (by rfl)]; have zc := b1.cell 2; go_simp; clear zc; (try simp only [e1, e2, e3, e4, e5]); (try dsimp only); refine hK _ _ ?_; clear hK K; (try simp only [Act.put, Zs, Zz, Zc])
  refine wpList_step (fun K hK => ?_); rw [if_pos (by rfl)]; go_simp; (try simp (disch := omega) only [Yq, Yr]); (try simp only [e1, e2, e3, e4, e5]); (try dsimp only); refine hK _ _ ?_; clear hK K; (try simp only [Act.put, Zs, Zz, Zc])
  iterate 2 (refine wpList_plain rfl (fun K hK => ?_); go_simp; (try dsimp only); refine hK _ _ ?_; clear hK K; (try simp only [Act.put, Zs, Zz, Zc]))
  refine wpList_step (fun K hK => ?_); rw [if_pos (by rfl)]; go_simp; (try dsimp only); refine hK _ _ ?_; clear hK K; (try simp only [Act.put, Zs, Zz, Zc])
  refine wpList_step (fun K hK => ?_); rw [if_pos (by rfl)]; have zc := b0.cell 3; go_simp; clear zc; (try simp only [e1, e2, e3, e4, e5]); (try dsimp only); refine hK _ _ ?_; clear hK K; (try simp only [Act.put, Zs, Zz, Zc])
  refine wpList_step (fun K hK => ?_); rw [if_pos (by rfl)]; go_simp; (try dsimp only); refine hK _ _ ?_; clear hK K; (try simp only [Act.put, Zs, Zz, Zc])
  refine wpList_step (fun K hK => ?_); rw [if_pos (by rfl)]; have zc := b1.cell 3; go_simp; clear zc; (try simp only [e1, e2, e3, e4, e5]); (try dsimp only); refine hK _ _ ?_; clear hK K; (try simp only [Act.put, Zs, Zz, Zc])
  refine wpList_step (fun K hK => ?_); rw [if_pos (by rfl)]; go_simp; (try simp (disch := omega) only [Yq, Yr]); (try simp only [e1, e2, e3, e4, e5]); (try dsimp only); refine hK _ _ ?_; clear hK K; (try simp only [Act.put, Zs, Zz, Zc])
  iterate 2 (refine wpList_plain rfl (fun K hK => ?_); go_simp; (try dsimp only); refine hK _ _ ?_; clear hK K; (try simp only [Act.put, Zs, Zz, Zc]))
  refine wpList_step (fun K hK => ?_); rw [if_pos (by rfl)]; go_simp; (try dsimp only); refine hK _ _ ?_; clear hK K; (try simp only [Act.put, Zs, Zz, Zc])
  refine wpList_step (fun K hK => ?_); rw [if_pos (by rfl)]; (first | (refine wp_ld 25 _ (Blk.rgn b0) (by rfl) (by rfl) Try.underlying25 rfl (by exact Try.infoR) ?_)); (try dsimp only); refine hK _ _ ?_; clear hK K; (try simp only [Act.put, Zs, Zz, Zc])
  refine wpList_step (fun K hK => ?_); rw [if_pos (by rfl)]; go_simp; (try dsimp only); refine hK _ _ ?_; clear hK K; (try simp only [Act.put, Zs, Zz, Zc])
  refine wpList_step (fun K hK => ?_); rw [if_pos (by rfl)]; (first | (refine wp_ld 25 _ (Blk.rgn b1) (by rfl) (by rfl) Try.underlying25 rfl (by exact Try.infoR) ?_)); (try dsimp only); refine hK _ _ ?_; clear hK K; (try simp only [Act.put, Zs, Zz, Zc])
  refine wpList_step (fun K hK => ?_); rw [if_pos (by rfl)]; refine wp_neqR _ _ (by rfl) (by rfl) (by rfl) ?_; (try simp only [e1, e2, e3, e4, e5]); (try dsimp only); refine hK _ _ ?_; clear hK K; (try simp only [Act.put, Zs, Zz, Zc])
  iterate 2 (refine wpList_plain rfl (fun K hK => ?_); go_simp; (try dsimp only); refine hK _ _ ?_; clear hK K; (try simp only [Act.put, Zs, Zz, Zc]))
  refine wpList_step (fun K hK => ?_); rw [if_pos (by rfl)]; go_simp; (try dsimp only); refine hK _ _ ?_; clear hK K; (try simp only [Act.put, Zs, Zz, Zc])
  refine wpList_step (fun K hK => ?_); rw [if_pos (by rfl)]; have zc := b0.cell 10; go_simp; clear zc; (try simp only [e1, e2, e3, e4, e5]); (try dsimp only); refine hK _ _ ?_; clear hK K; (try simp only [Act.put, Zs, Zz, Zc])
  iterate 2 (refine wpList_step (fun K hK => ?_); rw [if_pos (by rfl)]; go_simp; (try dsimp only); refine hK _ _ ?_; clear hK K; (try simp only [Act.put, Zs, Zz, Zc]))
  refine wpList_step (fun K hK => ?_); rw [if_pos (by rfl)]; have zc := b1.cell 10; go_simp; clear zc; (try simp only [e1, e2, e3, e4, e5]); (try dsimp only); refine hK _ _ ?_; clear hK K; (try simp only [Act.put, Zs, Zz, Zc])
  refine wpList_step (fun K hK => ?_); rw [if_pos (by rfl)]; go_simp; (try dsimp only); refine hK _ _ ?_; clear hK K; (try simp only [Act.put, Zs, Zz, Zc])
  refine wpList_step (fun K hK => ?_); rw [if_pos (by rfl)]; go_simp; (try simp (disch := omega) only [Yq, Yr]); (try simp only [e1, e2, e3, e4, e5]); (try dsimp only); refine hK _ _ ?_; clear hK K; (try simp only [Act.put, Zs, Zz, Zc])
  refine wpList_plain rfl (fun K hK => ?_); go_simp; (try dsimp only); refine hK _ _ ?_; clear hK K; (try simp only [Act.put, Zs, Zz, Zc])
  refine wpList_nil ?_
  go_upto_region 3 with fail
  refine wp_region_lit ?_
  refine wpList_plain rfl (fun K hK => ?_); go_simp; (try dsimp only); refine hK _ _ ?_; clear hK K; (try simp only [Act.put, Zs, Zz, Zc])
  refine wpList_nil ?_
  go_upto_region 4 with fail
  go_loopw [5] (fun vi wr => ∃ z : Int, vi = .int .i64 z ∧ (z = 0 ∨ z = 1 ∨ z = 2) ∧ Ext W1 wr) (fun vi _ => (2 - intOf vi).toNat)
  case atStart => exact ⟨0, rfl, .inl rfl, Ext.refl _⟩
  case round =>
    obtain ⟨z, rfl, hz, hX⟩ := hrel
    obtain ⟨W0, rfl⟩ : ∃ W, W = wr := ⟨_, rfl⟩
    have hx := hX
    replace b0 := b0.ext hx
    replace b1 := b1.ext hx
    replace ta1 := isT.ext hx ta1
    replace tb1 := isT.ext hx tb1
    replace ta2 := isT.ext hx ta2
    replace tb2 := isT.ext hx tb2
    replace hra1 := rangeAt.ext hra1 hg1 hx
    replace hrb1 := rangeAt.ext hrb1 hg1 hx
    replace hra2 := rangeAt.ext hra2 hg2 hx
    replace hrb2 := rangeAt.ext hrb2 hg2 hx
    replace hg1 := Nat.lt_of_lt_of_le hg1 hx.below.size
    replace hg2 := Nat.lt_of_lt_of_le hg2 hx.below.size
    replace hE := hE.trans hx
    clear hx
    replace qz : r1 < W0.heap.size := b1.lt
    rcases hz with rfl | rfl | rfl
    · have y1 := hra1
      have y2 := hrb1
      have y3 := hra2
      have y4 := hrb2
      have z1 := hg1
      have z2 := hg2
      go_upto_region 4 with fail
      refine wp_region_lit ?_
      iterate 2 (refine wpList_plain rfl (fun K hK => ?_); go_simp; (try dsimp only); refine hK _ _ ?_; clear hK K; (try simp only [Act.put, Zs, Zz, Zc]))
      refine wpList_plain rfl (fun K hK => ?_); have zc := b0.cell 10; go_simp; clear zc; (try dsimp only); refine hK _ _ ?_; clear hK K; (try simp only [Act.put, Zs, Zz, Zc])
      refine wpList_plain rfl (fun K hK => ?_); go_simp; (try dsimp only); refine hK _ _ ?_; clear hK K; (try simp only [Act.put, Zs, Zz, Zc])
      refine wpList_plain rfl (fun K hK => ?_); go_simp; (try simp (disch := omega) only [Yq, Yr]); (try dsimp only); refine hK _ _ ?_; clear hK K; (try simp only [Act.put, Zs, Zz, Zc])
      refine wpList_nil ?_
      go_upto_region 6 with fail
      have x0 := b0
      have x1 := b1
      have hS : GrownX W0 [] W0 := GrownX.refl _ _
      refine wp_region_S (GrownX W0 []) (by kernel_rfl) ?_
      refine name_wd (fun W101 hW => ?_)
      have hx : Ext W0 W101 := by rw [hW]; exact ext_drew _
      clear hW
      replace hS := hS.ext hx
      replace b0 := b0.ext hx
      replace b1 := b1.ext hx
      replace ta1 := isT.ext hx ta1
      replace tb1 := isT.ext hx tb1
      replace ta2 := isT.ext hx ta2
      replace tb2 := isT.ext hx tb2
      replace hra1 := rangeAt.ext hra1 hg1 hx
      replace hrb1 := rangeAt.ext hrb1 hg1 hx
      replace hra2 := rangeAt.ext hra2 hg2 hx
      replace hrb2 := rangeAt.ext hrb2 hg2 hx
      replace hg1 := Nat.lt_of_lt_of_le hg1 hx.below.size
      replace hg2 := Nat.lt_of_lt_of_le hg2 hx.below.size
      replace hX := hX.trans hx
      replace hE := hE.trans hx
      clear hx
      replace qz : r1 < W101.heap.size := b1.lt
      refine wpAnyD_takeSL (i := 0) rfl (by kernel_rfl) (fun _ _ _ _ h => h) hS ?_
      apply Exists.intro
      refine ⟨Or.inl ⟨by rfl, ?_⟩, ?_⟩
      (focus (intro wz hz; go_simp; (try with_reducible rfl); done))
      (try simp only [Act.put, Zs, Zz, Zc])
      refine wpAnyD_takeSL (i := 1) rfl (by kernel_rfl) (fun _ _ _ _ h => h) hS ?_
      apply Exists.intro
      refine ⟨Or.inl ⟨by rfl, ?_⟩, ?_⟩
      (focus (intro wz hz; have zc := (GrownX.blk hz x0 (by first | decide | (simp; done) | (simp; omega) | omega)).cell 10; go_simp; (try with_reducible rfl); done))
      (try simp only [Act.put, Zs, Zz, Zc])
      refine wpAnyD_takeSL (i := 2) rfl (by kernel_rfl) (fun _ _ _ _ h => h) hS ?_
      apply Exists.intro
      refine ⟨Or.inl ⟨by rfl, ?_⟩, ?_⟩
      (focus (intro wz hz; go_simp; (try with_reducible rfl); done))
      (try simp only [Act.put, Zs, Zz, Zc])
      refine wpAnyD_takeSL (i := 3) rfl (by kernel_rfl) (fun _ _ _ _ h => h) hS ?_
      apply Exists.intro
      refine ⟨Or.inl ⟨by rfl, ?_⟩, ?_⟩
      (focus (intro wz hz; go_simp; (try with_reducible rfl); done))
      (try simp only [Act.put, Zs, Zz, Zc])
      refine wpAnyD_takeSL (i := 4) rfl (by kernel_rfl) (fun _ _ _ _ h => h) hS ?_
      apply Exists.intro
      refine ⟨Or.inl ⟨by rfl, ?_⟩, ?_⟩
      (focus (intro wz hz; (first | exact exec_ld 28 _ rfl rfl (GrownX.range hz (y1) (z1) (by first | decide | (simp; done) | (simp; omega) | omega)) Try.underlying28 rfl (by exact Try.infoT) | exact exec_ld 28 _ rfl rfl (GrownX.range hz (y2) (z1) (by first | decide | (simp; done) | (simp; omega) | omega)) Try.underlying28 rfl (by exact Try.infoT) | exact exec_ld 28 _ rfl rfl (GrownX.range hz (y3) (z2) (by first | decide | (simp; done) | (simp; omega) | omega)) Try.underlying28 rfl (by exact Try.infoT) | exact exec_ld 28 _ rfl rfl (GrownX.range hz (y4) (z2) (by first | decide | (simp; done) | (simp; omega) | omega)) Try.underlying28 rfl (by exact Try.infoT))))
      (try simp only [Act.put, Zs, Zz, Zc])
      refine wpAnyD_takeSL (i := 5) rfl (by kernel_rfl) (fun _ _ _ _ h => h) hS ?_
      apply Exists.intro
      refine ⟨Or.inl ⟨by rfl, ?_⟩, ?_⟩
      (focus (intro wz hz; go_simp; (try with_reducible rfl); done))
      (try simp only [Act.put, Zs, Zz, Zc])
      refine wpAnyD_takeSL (i := 6) rfl (by kernel_rfl) (fun _ _ _ _ h => h) hS ?_
      apply Exists.intro
      refine ⟨Or.inl ⟨by rfl, ?_⟩, ?_⟩
      (focus (intro wz hz; have zc := (GrownX.blk hz x1 (by first | decide | (simp; done) | (simp; omega) | omega)).cell 10; go_simp; (try with_reducible rfl); done))
      (try simp only [Act.put, Zs, Zz, Zc])
      refine wpAnyD_takeSL (i := 7) rfl (by kernel_rfl) (fun _ _ _ _ h => h) hS ?_
      apply Exists.intro
      refine ⟨Or.inl ⟨by rfl, ?_⟩, ?_⟩
      (focus (intro wz hz; go_simp; (try with_reducible rfl); done))
      (try simp only [Act.put, Zs, Zz, Zc])
      refine wpAnyD_takeSL (i := 8) rfl (by kernel_rfl) (fun _ _ _ _ h => h) hS ?_
      apply Exists.intro
      refine ⟨Or.inl ⟨by rfl, ?_⟩, ?_⟩
      (focus (intro wz hz; go_simp; (try with_reducible rfl); done))
      (try simp only [Act.put, Zs, Zz, Zc])
      refine wpAnyD_takeSL (i := 9) rfl (by kernel_rfl) (fun _ _ _ _ h => h) hS ?_
      apply Exists.intro
      refine ⟨Or.inl ⟨by rfl, ?_⟩, ?_⟩
      (focus (intro wz hz; (first | exact exec_ld 28 _ rfl rfl (GrownX.range hz (y1) (z1) (by first | decide | (simp; done) | (simp; omega) | omega)) Try.underlying28 rfl (by exact Try.infoT) | exact exec_ld 28 _ rfl rfl (GrownX.range hz (y2) (z1) (by first | decide | (simp; done) | (simp; omega) | omega)) Try.underlying28 rfl (by exact Try.infoT) | exact exec_ld 28 _ rfl rfl (GrownX.range hz (y3) (z2) (by first | decide | (simp; done) | (simp; omega) | omega)) Try.underlying28 rfl (by exact Try.infoT) | exact exec_ld 28 _ rfl rfl (GrownX.range hz (y4) (z2) (by first | decide | (simp; done) | (simp; omega) | omega)) Try.underlying28 rfl (by exact Try.infoT))))
      (try simp only [Act.put, Zs, Zz, Zc])
      refine wpAnyD_oneL (i := 10) rfl (by kernel_rfl) (fun K hK => ?_)
      rw [if_pos (by rfl)]
      go_simp
      (go_at_call 14; refine (iha A B _ _ _ ta1 ta2).mono ?_; intro e W102 hpp; obtain ⟨rfl, hx⟩ := hpp)
      replace hS := hS.ext hx; (try dsimp only); refine hK.out _ _ (fun _ => hS) ?_; clear hK K; (try simp only [Act.put, Zs, Zz, Zc])
      replace b0 := b0.ext hx
      replace b1 := b1.ext hx
      replace ta1 := isT.ext hx ta1
      replace tb1 := isT.ext hx tb1
      replace ta2 := isT.ext hx ta2
      replace tb2 := isT.ext hx tb2
      replace hra1 := rangeAt.ext hra1 hg1 hx
      replace hrb1 := rangeAt.ext hrb1 hg1 hx
      replace hra2 := rangeAt.ext hra2 hg2 hx
      replace hrb2 := rangeAt.ext hrb2 hg2 hx
      replace hg1 := Nat.lt_of_lt_of_le hg1 hx.below.size
      replace hg2 := Nat.lt_of_lt_of_le hg2 hx.below.size
      replace hX := hX.trans hx
      replace hE := hE.trans hx
      clear hx
      replace qz : r1 < W102.heap.size := b1.lt
      refine wpAnyD_takeSL (i := 11) rfl (by kernel_rfl) (fun _ _ _ _ h => h) hS ?_
      apply Exists.intro
      refine ⟨Or.inl ⟨by rfl, ?_⟩, ?_⟩
      (focus (intro wz hz; go_simp; (try with_reducible rfl); done))
      (try simp only [Act.put, Zs, Zz, Zc])
      refine wpAnyD_done (by kernel_rfl) ?_ _
      clear hS x0 x1
      go_upto_region 5 with fail
      refine wp_region_lit ?_
      refine wpList_plain rfl (fun K hK => ?_); go_simp; (try dsimp only); refine hK _ _ ?_; clear hK K; (try simp only [Act.put, Zs, Zz, Zc])
      refine wpList_plain rfl (fun K hK => ?_); go_simp; (try simp (disch := omega) only [Yq, Yr]); (try dsimp only); refine hK _ _ ?_; clear hK K; (try simp only [Act.put, Zs, Zz, Zc])
      refine wpList_plain rfl (fun K hK => ?_); go_simp; (try dsimp only); refine hK _ _ ?_; clear hK K; (try simp only [Act.put, Zs, Zz, Zc])
      refine wpList_nil ?_
      go_wp2_with fail
      go_roundw
      case rel => exact ⟨_, rfl, .inr (.inl rfl), hX⟩
      case measure => simp [intOf]
    · have y1 := hra1
      have y2 := hrb1
      have y3 := hra2
      have y4 := hrb2
      have z1 := hg1
      have z2 := hg2
      go_upto_region 4 with fail
      refine wp_region_lit ?_
      iterate 2 (refine wpList_plain rfl (fun K hK => ?_); go_simp; (try dsimp only); refine hK _ _ ?_; clear hK K; (try simp only [Act.put, Zs, Zz, Zc]))
      refine wpList_plain rfl (fun K hK => ?_); have zc := b0.cell 10; go_simp; clear zc; (try dsimp only); refine hK _ _ ?_; clear hK K; (try simp only [Act.put, Zs, Zz, Zc])
      refine wpList_plain rfl (fun K hK => ?_); go_simp; (try dsimp only); refine hK _ _ ?_; clear hK K; (try simp only [Act.put, Zs, Zz, Zc])
      refine wpList_plain rfl (fun K hK => ?_); go_simp; (try simp (disch := omega) only [Yq, Yr]); (try dsimp only); refine hK _ _ ?_; clear hK K; (try simp only [Act.put, Zs, Zz, Zc])
      refine wpList_nil ?_
      go_upto_region 6 with fail
      have x0 := b0
      have x1 := b1
      have hS : GrownX W0 [] W0 := GrownX.refl _ _
      refine wp_region_S (GrownX W0 []) (by kernel_rfl) ?_
      refine name_wd (fun W151 hW => ?_)
      have hx : Ext W0 W151 := by rw [hW]; exact ext_drew _
      clear hW
      replace hS := hS.ext hx
      replace b0 := b0.ext hx
      replace b1 := b1.ext hx
      replace ta1 := isT.ext hx ta1
      replace tb1 := isT.ext hx tb1
      replace ta2 := isT.ext hx ta2
      replace tb2 := isT.ext hx tb2
      replace hra1 := rangeAt.ext hra1 hg1 hx
      replace hrb1 := rangeAt.ext hrb1 hg1 hx
      replace hra2 := rangeAt.ext hra2 hg2 hx
      replace hrb2 := rangeAt.ext hrb2 hg2 hx
      replace hg1 := Nat.lt_of_lt_of_le hg1 hx.below.size
      replace hg2 := Nat.lt_of_lt_of_le hg2 hx.below.size
      replace hX := hX.trans hx
      replace hE := hE.trans hx
      clear hx
      replace qz : r1 < W151.heap.size := b1.lt
      refine wpAnyD_takeSL (i := 0) rfl (by kernel_rfl) (fun _ _ _ _ h => h) hS ?_
      apply Exists.intro
      refine ⟨Or.inl ⟨by rfl, ?_⟩, ?_⟩
      (focus (intro wz hz; go_simp; (try with_reducible rfl); done))
      (try simp only [Act.put, Zs, Zz, Zc])
      refine wpAnyD_takeSL (i := 1) rfl (by kernel_rfl) (fun _ _ _ _ h => h) hS ?_
      apply Exists.intro
      refine ⟨Or.inl ⟨by rfl, ?_⟩, ?_⟩
      (focus (intro wz hz; have zc := (GrownX.blk hz x0 (by first | decide | (simp; done) | (simp; omega) | omega)).cell 10; go_simp; (try with_reducible rfl); done))
      (try simp only [Act.put, Zs, Zz, Zc])
      refine wpAnyD_takeSL (i := 2) rfl (by kernel_rfl) (fun _ _ _ _ h => h) hS ?_
      apply Exists.intro
      refine ⟨Or.inl ⟨by rfl, ?_⟩, ?_⟩
      (focus (intro wz hz; go_simp; (try with_reducible rfl); done))
      (try simp only [Act.put, Zs, Zz, Zc])
      refine wpAnyD_takeSL (i := 3) rfl (by kernel_rfl) (fun _ _ _ _ h => h) hS ?_
      apply Exists.intro
      refine ⟨Or.inl ⟨by rfl, ?_⟩, ?_⟩
      (focus (intro wz hz; go_simp; (try with_reducible rfl); done))
      (try simp only [Act.put, Zs, Zz, Zc])
      refine wpAnyD_takeSL (i := 4) rfl (by kernel_rfl) (fun _ _ _ _ h => h) hS ?_
      apply Exists.intro
      refine ⟨Or.inl ⟨by rfl, ?_⟩, ?_⟩
      (focus (intro wz hz; (first | exact exec_ld 28 _ rfl rfl (GrownX.range hz (y1) (z1) (by first | decide | (simp; done) | (simp; omega) | omega)) Try.underlying28 rfl (by exact Try.infoT) | exact exec_ld 28 _ rfl rfl (GrownX.range hz (y2) (z1) (by first | decide | (simp; done) | (simp; omega) | omega)) Try.underlying28 rfl (by exact Try.infoT) | exact exec_ld 28 _ rfl rfl (GrownX.range hz (y3) (z2) (by first | decide | (simp; done) | (simp; omega) | omega)) Try.underlying28 rfl (by exact Try.infoT) | exact exec_ld 28 _ rfl rfl (GrownX.range hz (y4) (z2) (by first | decide | (simp; done) | (simp; omega) | omega)) Try.underlying28 rfl (by exact Try.infoT))))
      (try simp only [Act.put, Zs, Zz, Zc])
      refine wpAnyD_takeSL (i := 5) rfl (by kernel_rfl) (fun _ _ _ _ h => h) hS ?_
      apply Exists.intro
      refine ⟨Or.inl ⟨by rfl, ?_⟩, ?_⟩
      (focus (intro wz hz; go_simp; (try with_reducible rfl); done))
      (try simp only [Act.put, Zs, Zz, Zc])
      refine wpAnyD_takeSL (i := 6) rfl (by kernel_rfl) (fun _ _ _ _ h => h) hS ?_
      apply Exists.intro
      refine ⟨Or.inl ⟨by rfl, ?_⟩, ?_⟩
      (focus (intro wz hz; have zc := (GrownX.blk hz x1 (by first | decide | (simp; done) | (simp; omega) | omega)).cell 10; go_simp; (try with_reducible rfl); done))
      (try simp only [Act.put, Zs, Zz, Zc])
      refine wpAnyD_takeSL (i := 7) rfl (by kernel_rfl) (fun _ _ _ _ h => h) hS ?_
      apply Exists.intro
      refine ⟨Or.inl ⟨by rfl, ?_⟩, ?_⟩
      (focus (intro wz hz; go_simp; (try with_reducible rfl); done))
      (try simp only [Act.put, Zs, Zz, Zc])
      refine wpAnyD_takeSL (i := 8) rfl (by kernel_rfl) (fun _ _ _ _ h => h) hS ?_
      apply Exists.intro
      refine ⟨Or.inl ⟨by rfl, ?_⟩, ?_⟩
      (focus (intro wz hz; go_simp; (try with_reducible rfl); done))
      (try simp only [Act.put, Zs, Zz, Zc])
      refine wpAnyD_takeSL (i := 9) rfl (by kernel_rfl) (fun _ _ _ _ h => h) hS ?_
      apply Exists.intro
      refine ⟨Or.inl ⟨by rfl, ?_⟩, ?_⟩
      (focus (intro wz hz; (first | exact exec_ld 28 _ rfl rfl (GrownX.range hz (y1) (z1) (by first | decide | (simp; done) | (simp; omega) | omega)) Try.underlying28 rfl (by exact Try.infoT) | exact exec_ld 28 _ rfl rfl (GrownX.range hz (y2) (z1) (by first | decide | (simp; done) | (simp; omega) | omega)) Try.underlying28 rfl (by exact Try.infoT) | exact exec_ld 28 _ rfl rfl (GrownX.range hz (y3) (z2) (by first | decide | (simp; done) | (simp; omega) | omega)) Try.underlying28 rfl (by exact Try.infoT) | exact exec_ld 28 _ rfl rfl (GrownX.range hz (y4) (z2) (by first | decide | (simp; done) | (simp; omega) | omega)) Try.underlying28 rfl (by exact Try.infoT))))
      (try simp only [Act.put, Zs, Zz, Zc])
      refine wpAnyD_oneL (i := 10) rfl (by kernel_rfl) (fun K hK => ?_)
      rw [if_pos (by rfl)]
      go_simp
      (go_at_call 14; refine (ihb A B _ _ _ tb1 tb2).mono ?_; intro e W152 hpp; obtain ⟨rfl, hx⟩ := hpp)
      replace hS := hS.ext hx; (try dsimp only); refine hK.out _ _ (fun _ => hS) ?_; clear hK K; (try simp only [Act.put, Zs, Zz, Zc])
      replace b0 := b0.ext hx
      replace b1 := b1.ext hx
      replace ta1 := isT.ext hx ta1
      replace tb1 := isT.ext hx tb1
      replace ta2 := isT.ext hx ta2
      replace tb2 := isT.ext hx tb2
      replace hra1 := rangeAt.ext hra1 hg1 hx
      replace hrb1 := rangeAt.ext hrb1 hg1 hx
      replace hra2 := rangeAt.ext hra2 hg2 hx
      replace hrb2 := rangeAt.ext hrb2 hg2 hx
      replace hg1 := Nat.lt_of_lt_of_le hg1 hx.below.size
      replace hg2 := Nat.lt_of_lt_of_le hg2 hx.below.size
      replace hX := hX.trans hx
      replace hE := hE.trans hx
      clear hx
      replace qz : r1 < W152.heap.size := b1.lt
      refine wpAnyD_takeSL (i := 11) rfl (by kernel_rfl) (fun _ _ _ _ h => h) hS ?_
      apply Exists.intro
      refine ⟨Or.inl ⟨by rfl, ?_⟩, ?_⟩
      (focus (intro wz hz; go_simp; (try with_reducible rfl); done))
      (try simp only [Act.put, Zs, Zz, Zc])
      refine wpAnyD_done (by kernel_rfl) ?_ _
      clear hS x0 x1
      go_upto_region 5 with fail
      refine wp_region_lit ?_
      refine wpList_plain rfl (fun K hK => ?_); go_simp; (try dsimp only); refine hK _ _ ?_; clear hK K; (try simp only [Act.put, Zs, Zz, Zc])
      refine wpList_plain rfl (fun K hK => ?_); go_simp; (try simp (disch := omega) only [Yq, Yr]); (try dsimp only); refine hK _ _ ?_; clear hK K; (try simp only [Act.put, Zs, Zz, Zc])
      refine wpList_plain rfl (fun K hK => ?_); go_simp; (try dsimp only); refine hK _ _ ?_; clear hK K; (try simp only [Act.put, Zs, Zz, Zc])
      refine wpList_nil ?_
      go_wp2_with fail
      go_roundw
      case rel => exact ⟨_, rfl, .inr (.inr rfl), hX⟩
      case measure => simp [intOf]
    · go_upto_region 4 with fail
      refine wp_region_lit ?_
      iterate 2 (refine wpList_plain rfl (fun K hK => ?_); go_simp; (try dsimp only); refine hK _ _ ?_; clear hK K; (try simp only [Act.put, Zs, Zz, Zc]))
      refine wpList_plain rfl (fun K hK => ?_); have zc := b0.cell 10; go_simp; clear zc; (try dsimp only); refine hK _ _ ?_; clear hK K; (try simp only [Act.put, Zs, Zz, Zc])
      refine wpList_plain rfl (fun K hK => ?_); go_simp; (try dsimp only); refine hK _ _ ?_; clear hK K; (try simp only [Act.put, Zs, Zz, Zc])
      refine wpList_plain rfl (fun K hK => ?_); go_simp; (try simp (disch := omega) only [Yq, Yr]); (try dsimp only); refine hK _ _ ?_; clear hK K; (try simp only [Act.put, Zs, Zz, Zc])
      refine wpList_nil ?_
      go_upto_region 8 with fail
      refine wp_region_lit ?_
      refine wpList_plain rfl (fun K hK => ?_); go_simp; (try dsimp only); refine hK _ _ ?_; clear hK K; (try simp only [Act.put, Zs, Zz, Zc])
      refine wpList_nil ?_
      go_wp2_with fail
      go_ret
      exact ⟨rfl, hE⟩
theorem rsame_P : ∀ p : PT, SameOK p
  | .E => rsame_E
  | .N a y b => rsame_N (rsame_P a) (rsame_P b)

end Go.Proofs.Ytnbohogkfdeddaa
