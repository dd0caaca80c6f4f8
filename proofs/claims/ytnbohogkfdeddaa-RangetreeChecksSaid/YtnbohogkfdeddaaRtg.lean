/- Rangetree: join. -/
import Derived.Test.YtnbohogkfdeddaaRtf
set_option linter.unusedSimpArgs false
set_option linter.unusedVariables false
namespace Go.Proofs.Ytnbohogkfdeddaa
open Go.RowKit

theorem Blk.rgn {w : World} {r : Nat} {T : TypeId} {t : TV} (h : Blk w r T t.cs) : w.rangeAt r 4 t.x.cs := h.rangeIn 4 t.x.cs (fun j hj => by
    have hj' : j < 6 := hj
    match j, hj' with
    | 0, _ => rfl
    | 1, _ => rfl
    | 2, _ => rfl
    | 3, _ => rfl
    | 4, _ => rfl
    | 5, _ => rfl)
/-- The blocks of A that are there at n. -/
def Lw (A : Nat → Prop) (n : Nat) : Nat → Prop := fun g => A g ∧ g < n
/-- The blocks of A that are there at n, or are new at m. -/
def Lo (A : Nat → Prop) (n m : Nat) : Nat → Prop := fun g => A g ∧ (g < n ∨ m ≤ g)
theorem isT.lw {A : Nat → Prop} {w : World} {t : BT} {v : TV} (h : isT A w t v) : isT (Lw A w.heap.size) w t v := isT.mono (fun g hg ha => ⟨ha, hg⟩) h
theorem isT.up {A : Nat → Prop} {n m : Nat} {w : World} {t : BT} {v : TV} (h : isT (Lw A n) w t v) : isT (Lo A n m) w t v := isT.mono (fun g _ ha => ⟨ha.1, .inl ha.2⟩) h
theorem Up.lo {A : Nat → Prop} {w w' : World} {m : Nat} (h : Up A w) (hE : Ext w w') (hm : m ≤ w'.heap.size) : Up (Lo A w.heap.size m) w' := fun g hg => ⟨h g (Nat.le_trans hE.below.size hg), .inr (by omega)⟩
theorem Lw.not {A : Nat → Prop} {n r : Nat} (h1 : n ≤ r) : ¬ Lw A n r := fun ⟨_, h⟩ => by omega
theorem Lo.not {A : Nat → Prop} {n m r : Nat} (h1 : n ≤ r) (h2 : r < m) : ¬ Lo A n m r := fun ⟨_, h⟩ => by omega
theorem isT.hi {A : Nat → Prop} {w : World} {n m : Nat} {t : BT} {v : TV} (h : isT (Lo A n m) w t v) : isT A w t v := h.mono (fun g _ hg => hg.1)
theorem isT.low {A : Nat → Prop} {w : World} {n : Nat} {t : BT} {v : TV} (h : isT (Lw A n) w t v) : isT A w t v := h.mono (fun g _ hg => hg.1)
theorem bd_mk {l : PT} {x : RV} {r : PT} (bl : bd l) (hx : vld x) (br : bd r) (h : l.ht ≤ 950 ∧ r.ht ≤ 950) : bd (.N l x r) := by
  refine ⟨fun y hy => ?_, ?_⟩
  · rcases List.mem_append.1 (show y ∈ l.flat ++ x :: r.flat from hy) with h | h
    · exact bl.v y h
    · rcases List.mem_cons.1 h with rfl | h
      · exact hx
      · exact br.v y h
  · simp only [PT.ht]; omega

set_option maxRecDepth 100000 in
set_option maxHeartbeats 4000000 in
theorem join_0 {A : Nat → Prop} (l : PT) (x : RV) (r : PT) (vl vr : TV) (w : World) (hA : Up A w) (hl : isT A w (l).bt vl) (hr : isT A w (r).bt vr) (hvx : vld x) (bl : bd (l)) (br : bd (r)) (h9 : (l).ht ≤ 900 ∧ (r).ht ≤ 900) (c1 : ¬ r.ht + 1 < l.ht) (c3 : ¬ l.ht + 1 < r.ht) :
    Calls Try.prog 53 #[.agg vl.cs.toArray, .agg x.cs.toArray, .agg vr.cs.toArray] w fun e w' => ∃ v, e = .returned (.agg v.cs.toArray) ∧ isT A w' (PT.N l x r).bt v ∧ Ext w w' := by
  obtain ⟨nl1, _, _, _⟩ := isP_num hl
  obtain ⟨nr1, _, _, _⟩ := isP_num hr
  have hl9 : vl.h ≤ 900 := by omega
  have hr9 : vr.h ≤ 900 := by omega
  have hl0 : 0 ≤ vl.h := by have := PT.ht_nn (l); omega
  have hr0 : 0 ≤ vr.h := by have := PT.ht_nn (r); omega
  replace c1 : ¬ vr.h + 1 < vl.h := by omega
  replace c3 : ¬ vl.h + 1 < vr.h := by omega
  clear nl1 nr1
  go_enter Try.func53, Try.ntmps53
  go_upto_region 1 with fail
  refine name_wX (fun W1 hW => ?_)
  have hE : Ext w W1 := by rw [hW]; repeat' (first | exact Ext.refl _ | apply Ext.al)
  have b0 : Blk W1 (w.heap.size) 28 vl.cs := by rw [hW]; exact (((Blk.newAt rfl).alloc _).alloc _).alloc _
  have b1 : Blk W1 (w.heap.size + 1) 25 x.cs := by rw [hW]; exact ((Blk.newAt (by simp)).alloc _).alloc _
  have b2 : Blk W1 (w.heap.size + 1 + 1) 28 vr.cs := by rw [hW]; exact (Blk.newAt (by simp)).alloc _
  have b3 : Blk W1 (w.heap.size + 1 + 1 + 1) 28 TV.z.cs := by rw [hW]; exact Blk.newAt (by simp)
  clear hW
  obtain ⟨r3, hr3⟩ : ∃ r, r = w.heap.size + 1 + 1 + 1 := ⟨_, rfl⟩
  rw [← hr3] at b3
  try rw [← hr3]
  obtain ⟨r2, hr2⟩ : ∃ r, r = w.heap.size + 1 + 1 := ⟨_, rfl⟩
  rw [← hr2] at b2
  try rw [← hr2]
  obtain ⟨r1, hr1⟩ : ∃ r, r = w.heap.size + 1 := ⟨_, rfl⟩
  rw [← hr1] at b1
  try rw [← hr1]
  obtain ⟨r0, hr0⟩ : ∃ r, r = w.heap.size := ⟨_, rfl⟩
  rw [← hr0] at b0
  try rw [← hr0]
  have q0 : w.heap.size ≤ r0 := by omega
  have q1 : r0 < r1 := by omega
  have q2 : r1 < r2 := by omega
  have q3 : r2 < r3 := by omega
  clear hr0 hr1 hr2 hr3
  have qz : r3 < W1.heap.size := b3.lt
  have tl := isT.ext hE (isT.lw hl)
  have tr := isT.ext hE (isT.lw hr)
  clear hl hr
  go_upto_region 1 with fail
  refine wp_region_lit ?_
  refine wpList_plain rfl (fun K hK => ?_); go_simp; (try dsimp only); refine hK _ _ ?_; clear hK K; (try simp only [Act.put, Zs, Zz, Zc])
  refine wpList_plain rfl (fun K hK => ?_); have zc := b0.cell 0; go_simp; clear zc; (try dsimp only); refine hK _ _ ?_; clear hK K; (try simp only [Act.put, Zs, Zz, Zc])
  refine wpList_plain rfl (fun K hK => ?_); go_simp; (try dsimp only); refine hK _ _ ?_; clear hK K; (try simp only [Act.put, Zs, Zz, Zc])
  refine wpList_plain rfl (fun K hK => ?_); have zc := b2.cell 0; go_simp; clear zc; (try dsimp only); refine hK _ _ ?_; clear hK K; (try simp only [Act.put, Zs, Zz, Zc])
  iterate 2 (refine wpList_plain rfl (fun K hK => ?_); go_simp; (try simp (disch := omega) only [Yq, Yr]); (try dsimp only); refine hK _ _ ?_; clear hK K; (try simp only [Act.put, Zs, Zz, Zc]))
  refine wpList_plain rfl (fun K hK => ?_); go_simp; (try dsimp only); refine hK _ _ ?_; clear hK K; (try simp only [Act.put, Zs, Zz, Zc])
  refine wpList_nil ?_
  go_upto_region 7 with fail
  refine wp_region_lit ?_
  refine wpList_plain rfl (fun K hK => ?_); go_simp; (try dsimp only); refine hK _ _ ?_; clear hK K; (try simp only [Act.put, Zs, Zz, Zc])
  refine wpList_plain rfl (fun K hK => ?_); have zc := b2.cell 0; go_simp; clear zc; (try dsimp only); refine hK _ _ ?_; clear hK K; (try simp only [Act.put, Zs, Zz, Zc])
  refine wpList_plain rfl (fun K hK => ?_); go_simp; (try dsimp only); refine hK _ _ ?_; clear hK K; (try simp only [Act.put, Zs, Zz, Zc])
  refine wpList_plain rfl (fun K hK => ?_); have zc := b0.cell 0; go_simp; clear zc; (try dsimp only); refine hK _ _ ?_; clear hK K; (try simp only [Act.put, Zs, Zz, Zc])
  iterate 2 (refine wpList_plain rfl (fun K hK => ?_); go_simp; (try simp (disch := omega) only [Yq, Yr]); (try dsimp only); refine hK _ _ ?_; clear hK K; (try simp only [Act.put, Zs, Zz, Zc]))
  refine wpList_plain rfl (fun K hK => ?_); go_simp; (try dsimp only); refine hK _ _ ?_; clear hK K; (try simp only [Act.put, Zs, Zz, Zc])
  refine wpList_nil ?_
  go_upto_region 13 with fail
  obtain ⟨m, hm, hm2⟩ : ∃ m, r3 < m ∧ m = W1.heap.size := ⟨_, qz, rfl⟩
  have hm3 : m ≤ W1.heap.size := by omega
  clear hm2
  refine wp_region_lit ?_
  refine wpList_plain rfl (fun K hK => ?_); (first | (refine wp_ld 28 _ (b0.range) (by rfl) (by rfl) Try.underlying28 rfl (by exact Try.infoT) ?_)); (try dsimp only); refine hK _ _ ?_; clear hK K; (try simp only [Act.put, Zs, Zz, Zc])
  refine wpList_plain rfl (fun K hK => ?_); (first | (refine wp_ld 25 _ (b1.range) (by rfl) (by rfl) Try.underlying25 rfl (by exact Try.infoR) ?_)); (try dsimp only); refine hK _ _ ?_; clear hK K; (try simp only [Act.put, Zs, Zz, Zc])
  refine wpList_plain rfl (fun K hK => ?_); (first | (refine wp_ld 28 _ (b2.range) (by rfl) (by rfl) Try.underlying28 rfl (by exact Try.infoT) ?_)); (try dsimp only); refine hK _ _ ?_; clear hK K; (try simp only [Act.put, Zs, Zz, Zc])
  refine wpList_plain rfl (fun K hK => ?_); go_simp; (go_at_call 51; refine (node_P (A := Lo A w.heap.size m) (l) x (r) _ _ _ (Up.lo hA hE hm3) tl.up tr.up hvx bl br).mono ?_; intro e W2 hpp; obtain ⟨v1, rfl, t1, hx⟩ := hpp); (try dsimp only); refine hK _ _ ?_; clear hK K; (try simp only [Act.put, Zs, Zz, Zc])
  replace b0 := b0.ext hx
  replace b1 := b1.ext hx
  replace b2 := b2.ext hx
  replace b3 := b3.ext hx
  replace tl := isT.ext hx tl
  replace tr := isT.ext hx tr
  replace hm3 := Nat.le_trans hm3 hx.below.size
  replace hE := hE.trans hx
  clear hx
  replace qz : r3 < W2.heap.size := b3.lt
  refine wpList_plain rfl (fun K hK => ?_)
  refine wp_store_box 28 _ _ (by rfl) b3 (by rfl) (by rfl) (by exact Try.infoT) (by first | exact RV.one _ | exact TV.one _ rfl | exact TV.one _ (isT.one tl) | exact TV.one _ (isT.one tr) | exact TV.one _ (isT.one t1)) (by rfl) (fun W3 hg bn => ?_)
  replace b0 := b0.kept hg (Zn (by omega))
  replace b1 := b1.kept hg (Zn (by omega))
  replace b2 := b2.kept hg (Zn (by omega))
  replace tl := isT.kept hg (Lw.not (by omega)) tl
  replace tr := isT.kept hg (Lw.not (by omega)) tr
  replace hm3 := Nat.le_trans hm3 hg.size
  replace t1 := isT.kept hg (Lo.not (by omega) (by omega)) t1
  replace hE := ext_grow hE hg (fun q hq => by cases hq; omega)
  clear b3 hg
  have b3 := bn
  clear bn
  (try dsimp only); refine hK _ _ ?_; clear hK K; (try simp only [Act.put, Zs, Zz, Zc])
  replace qz : r3 < W3.heap.size := b3.lt
  refine wpList_nil ?_
  go_wp2_with fail
  exact bodyPost_ret (res_c rfl (GivesC.of b3 rfl Try.underlying28 rfl Try.infoT)) rfl ⟨v1, rfl, t1.hi, hE⟩

set_option maxRecDepth 100000 in
set_option maxHeartbeats 4000000 in
theorem join_1 {A : Nat → Prop} (a : PT) (y : RV) (b : PT) (x : RV) (r : PT) (vl vr : TV) (w : World) (hA : Up A w) (hl : isT A w (PT.N a y b).bt vl) (hr : isT A w (r).bt vr) (hvx : vld x) (bl : bd (PT.N a y b)) (br : bd (r)) (h9 : (PT.N a y b).ht ≤ 900 ∧ (r).ht ≤ 900) (c1 : r.ht + 1 < (PT.N a y b).ht) (c2 : b.ht ≤ a.ht) :
    Calls Try.prog 53 #[.agg vl.cs.toArray, .agg x.cs.toArray, .agg vr.cs.toArray] w fun e w' => ∃ v, e = .returned (.agg v.cs.toArray) ∧ isT A w' (PT.N a y (PT.N b x r)).bt v ∧ Ext w w' := by
  obtain ⟨nl1, _, _, _⟩ := isP_num hl
  obtain ⟨nr1, _, _, _⟩ := isP_num hr
  have hl9 : vl.h ≤ 900 := by omega
  have hr9 : vr.h ≤ 900 := by omega
  have hl0 : 0 ≤ vl.h := by have := PT.ht_nn (PT.N a y b); omega
  have hr0 : 0 ≤ vr.h := by have := PT.ht_nn (r); omega
  replace c1 : vr.h + 1 < vl.h := by omega
  have hbr : b.ht ≤ 950 ∧ r.ht ≤ 950 := by have h1 := h9.1; have h2 := h9.2; have := PT.ht_nn a; have := PT.ht_nn b; simp only [PT.ht] at h1; omega
  clear nl1 nr1
  go_enter Try.func53, Try.ntmps53
  go_upto_region 1 with fail
  refine name_wX (fun W1 hW => ?_)
  have hE : Ext w W1 := by rw [hW]; repeat' (first | exact Ext.refl _ | apply Ext.al)
  have b0 : Blk W1 (w.heap.size) 28 vl.cs := by rw [hW]; exact (((Blk.newAt rfl).alloc _).alloc _).alloc _
  have b1 : Blk W1 (w.heap.size + 1) 25 x.cs := by rw [hW]; exact ((Blk.newAt (by simp)).alloc _).alloc _
  have b2 : Blk W1 (w.heap.size + 1 + 1) 28 vr.cs := by rw [hW]; exact (Blk.newAt (by simp)).alloc _
  have b3 : Blk W1 (w.heap.size + 1 + 1 + 1) 28 TV.z.cs := by rw [hW]; exact Blk.newAt (by simp)
  clear hW
  obtain ⟨r3, hr3⟩ : ∃ r, r = w.heap.size + 1 + 1 + 1 := ⟨_, rfl⟩
  rw [← hr3] at b3
  try rw [← hr3]
  obtain ⟨r2, hr2⟩ : ∃ r, r = w.heap.size + 1 + 1 := ⟨_, rfl⟩
  rw [← hr2] at b2
  try rw [← hr2]
  obtain ⟨r1, hr1⟩ : ∃ r, r = w.heap.size + 1 := ⟨_, rfl⟩
  rw [← hr1] at b1
  try rw [← hr1]
  obtain ⟨r0, hr0⟩ : ∃ r, r = w.heap.size := ⟨_, rfl⟩
  rw [← hr0] at b0
  try rw [← hr0]
  have q0 : w.heap.size ≤ r0 := by omega
  have q1 : r0 < r1 := by omega
  have q2 : r1 < r2 := by omega
  have q3 : r2 < r3 := by omega
  clear hr0 hr1 hr2 hr3
  have qz : r3 < W1.heap.size := b3.lt
  have tl := isT.ext hE (isT.lw hl)
  have tr := isT.ext hE (isT.lw hr)
  clear hl hr
  go_upto_region 1 with fail
  refine wp_region_lit ?_
  refine wpList_plain rfl (fun K hK => ?_); go_simp; (try dsimp only); refine hK _ _ ?_; clear hK K; (try simp only [Act.put, Zs, Zz, Zc])
  refine wpList_plain rfl (fun K hK => ?_); have zc := b0.cell 0; go_simp; clear zc; (try dsimp only); refine hK _ _ ?_; clear hK K; (try simp only [Act.put, Zs, Zz, Zc])
  refine wpList_plain rfl (fun K hK => ?_); go_simp; (try dsimp only); refine hK _ _ ?_; clear hK K; (try simp only [Act.put, Zs, Zz, Zc])
  refine wpList_plain rfl (fun K hK => ?_); have zc := b2.cell 0; go_simp; clear zc; (try dsimp only); refine hK _ _ ?_; clear hK K; (try simp only [Act.put, Zs, Zz, Zc])
  iterate 2 (refine wpList_plain rfl (fun K hK => ?_); go_simp; (try simp (disch := omega) only [Yq, Yr]); (try dsimp only); refine hK _ _ ?_; clear hK K; (try simp only [Act.put, Zs, Zz, Zc]))
  refine wpList_plain rfl (fun K hK => ?_); go_simp; (try dsimp only); refine hK _ _ ?_; clear hK K; (try simp only [Act.put, Zs, Zz, Zc])
  refine wpList_nil ?_
  go_upto_region 2 with fail
  refine wp_region_lit ?_
  refine wpList_plain rfl (fun K hK => ?_); (first | (refine wp_ld 28 _ (b0.range) (by rfl) (by rfl) Try.underlying28 rfl (by exact Try.infoT) ?_)); (try dsimp only); refine hK _ _ ?_; clear hK K; (try simp only [Act.put, Zs, Zz, Zc])
  refine wpList_plain rfl (fun K hK => ?_); go_simp; (go_at_call 52; refine (parts_P (A := Lw A w.heap.size) _ _ _ _ _ tl).mono ?_; intro e W2 hpp; obtain ⟨va, vb, rfl, ta, tb, hx⟩ := hpp); (try dsimp only); refine hK _ _ ?_; clear hK K; (try simp only [Act.put, Zs, Zz, Zc])
  replace b0 := b0.ext hx
  replace b1 := b1.ext hx
  replace b2 := b2.ext hx
  replace b3 := b3.ext hx
  replace tl := isT.ext hx tl
  replace tr := isT.ext hx tr
  replace ta := isT.ext hx ta
  replace tb := isT.ext hx tb
  replace hE := hE.trans hx
  clear hx
  replace qz : r3 < W2.heap.size := b3.lt
  iterate 5 (refine wpList_plain rfl (fun K hK => ?_); go_simp; (try dsimp only); refine hK _ _ ?_; clear hK K; (try simp only [Act.put, Zs, Zz, Zc]))
  refine name_wl (fun W3 hW => ?_)
  have hx : Ext W2 W3 := by rw [hW]; exact ext_alloc _ _
  have b4 : Blk W3 W2.heap.size 28 TV.z.cs := by rw [hW]; exact Blk.newAt rfl
  clear hW
  replace b0 := b0.ext hx
  replace b1 := b1.ext hx
  replace b2 := b2.ext hx
  replace b3 := b3.ext hx
  replace tl := isT.ext hx tl
  replace tr := isT.ext hx tr
  replace ta := isT.ext hx ta
  replace tb := isT.ext hx tb
  replace hE := hE.trans hx
  clear hx
  obtain ⟨r4, hr⟩ : ∃ r, r = W2.heap.size := ⟨_, rfl⟩
  rw [← hr] at b4
  try rw [← hr]
  have q4 : r3 < r4 := by omega
  clear hr
  replace qz : r4 < W3.heap.size := b4.lt
  refine wpList_plain rfl (fun K hK => ?_); go_simp; (try dsimp only); refine hK _ _ ?_; clear hK K; (try simp only [Act.put, Zs, Zz, Zc])
  refine name_wl (fun W4 hW => ?_)
  have hx : Ext W3 W4 := by rw [hW]; exact ext_alloc _ _
  have b5 : Blk W4 W3.heap.size 25 RV.z.cs := by rw [hW]; exact Blk.newAt rfl
  clear hW
  replace b0 := b0.ext hx
  replace b1 := b1.ext hx
  replace b2 := b2.ext hx
  replace b3 := b3.ext hx
  replace b4 := b4.ext hx
  replace tl := isT.ext hx tl
  replace tr := isT.ext hx tr
  replace ta := isT.ext hx ta
  replace tb := isT.ext hx tb
  replace hE := hE.trans hx
  clear hx
  obtain ⟨r5, hr⟩ : ∃ r, r = W3.heap.size := ⟨_, rfl⟩
  rw [← hr] at b5
  try rw [← hr]
  have q5 : r4 < r5 := by omega
  clear hr
  replace qz : r5 < W4.heap.size := b5.lt
  refine wpList_plain rfl (fun K hK => ?_); go_simp; (try dsimp only); refine hK _ _ ?_; clear hK K; (try simp only [Act.put, Zs, Zz, Zc])
  refine name_wl (fun W5 hW => ?_)
  have hx : Ext W4 W5 := by rw [hW]; exact ext_alloc _ _
  have b6 : Blk W5 W4.heap.size 28 TV.z.cs := by rw [hW]; exact Blk.newAt rfl
  clear hW
  replace b0 := b0.ext hx
  replace b1 := b1.ext hx
  replace b2 := b2.ext hx
  replace b3 := b3.ext hx
  replace b4 := b4.ext hx
  replace b5 := b5.ext hx
  replace tl := isT.ext hx tl
  replace tr := isT.ext hx tr
  replace ta := isT.ext hx ta
  replace tb := isT.ext hx tb
  replace hE := hE.trans hx
  clear hx
  obtain ⟨r6, hr⟩ : ∃ r, r = W4.heap.size := ⟨_, rfl⟩
  rw [← hr] at b6
  try rw [← hr]
  have q6 : r5 < r6 := by omega
  clear hr
  replace qz : r6 < W5.heap.size := b6.lt
  refine wpList_plain rfl (fun K hK => ?_)
  refine wp_store_box 28 _ _ (by rfl) b4 (by rfl) (by rfl) (by exact Try.infoT) (by first | exact RV.one _ | exact TV.one _ rfl | exact TV.one _ (isT.one tl) | exact TV.one _ (isT.one tr) | exact TV.one _ (isT.one ta) | exact TV.one _ (isT.one tb)) (by rfl) (fun W6 hg bn => ?_)
  replace b0 := b0.kept hg (Zn (by omega))
  replace b1 := b1.kept hg (Zn (by omega))
  replace b2 := b2.kept hg (Zn (by omega))
  replace b3 := b3.kept hg (Zn (by omega))
  replace b5 := b5.kept hg (Zn (by omega))
  replace b6 := b6.kept hg (Zn (by omega))
  replace tl := isT.kept hg (Lw.not (by omega)) tl
  replace tr := isT.kept hg (Lw.not (by omega)) tr
  replace ta := isT.kept hg (Lw.not (by omega)) ta
  replace tb := isT.kept hg (Lw.not (by omega)) tb
  replace hE := ext_grow hE hg (fun q hq => by cases hq; omega)
  clear b4 hg
  have b4 := bn
  clear bn
  (try dsimp only); refine hK _ _ ?_; clear hK K; (try simp only [Act.put, Zs, Zz, Zc])
  replace qz : r6 < W6.heap.size := b6.lt
  refine wpList_plain rfl (fun K hK => ?_)
  refine wp_store_box 25 _ _ (by rfl) b5 (by rfl) (by rfl) (by exact Try.infoR) (by first | exact RV.one _ | exact TV.one _ rfl | exact TV.one _ (isT.one tl) | exact TV.one _ (isT.one tr) | exact TV.one _ (isT.one ta) | exact TV.one _ (isT.one tb)) (by rfl) (fun W7 hg bn => ?_)
  replace b0 := b0.kept hg (Zn (by omega))
  replace b1 := b1.kept hg (Zn (by omega))
  replace b2 := b2.kept hg (Zn (by omega))
  replace b3 := b3.kept hg (Zn (by omega))
  replace b4 := b4.kept hg (Zn (by omega))
  replace b6 := b6.kept hg (Zn (by omega))
  replace tl := isT.kept hg (Lw.not (by omega)) tl
  replace tr := isT.kept hg (Lw.not (by omega)) tr
  replace ta := isT.kept hg (Lw.not (by omega)) ta
  replace tb := isT.kept hg (Lw.not (by omega)) tb
  replace hE := ext_grow hE hg (fun q hq => by cases hq; omega)
  clear b5 hg
  have b5 := bn
  clear bn
  (try dsimp only); refine hK _ _ ?_; clear hK K; (try simp only [Act.put, Zs, Zz, Zc])
  replace qz : r6 < W7.heap.size := b6.lt
  refine wpList_plain rfl (fun K hK => ?_)
  refine wp_store_box 28 _ _ (by rfl) b6 (by rfl) (by rfl) (by exact Try.infoT) (by first | exact RV.one _ | exact TV.one _ rfl | exact TV.one _ (isT.one tl) | exact TV.one _ (isT.one tr) | exact TV.one _ (isT.one ta) | exact TV.one _ (isT.one tb)) (by rfl) (fun W8 hg bn => ?_)
  replace b0 := b0.kept hg (Zn (by omega))
  replace b1 := b1.kept hg (Zn (by omega))
  replace b2 := b2.kept hg (Zn (by omega))
  replace b3 := b3.kept hg (Zn (by omega))
  replace b4 := b4.kept hg (Zn (by omega))
  replace b5 := b5.kept hg (Zn (by omega))
  replace tl := isT.kept hg (Lw.not (by omega)) tl
  replace tr := isT.kept hg (Lw.not (by omega)) tr
  replace ta := isT.kept hg (Lw.not (by omega)) ta
  replace tb := isT.kept hg (Lw.not (by omega)) tb
  replace hE := ext_grow hE hg (fun q hq => by cases hq; omega)
  clear b6 hg
  have b6 := bn
  clear bn
  (try dsimp only); refine hK _ _ ?_; clear hK K; (try simp only [Act.put, Zs, Zz, Zc])
  replace qz : r6 < W8.heap.size := b6.lt
  refine wpList_nil ?_
  have na := (isP_num ta).1
  have nb := (isP_num tb).1
  have c2v :  vb.h ≤ va.h := by rw [na, nb]; exact c2
  clear na nb
  go_upto_region 3 with fail
  refine wp_region_lit ?_
  refine wpList_plain rfl (fun K hK => ?_); go_simp; (try dsimp only); refine hK _ _ ?_; clear hK K; (try simp only [Act.put, Zs, Zz, Zc])
  refine wpList_plain rfl (fun K hK => ?_); have zc := b4.cell 0; go_simp; clear zc; (try dsimp only); refine hK _ _ ?_; clear hK K; (try simp only [Act.put, Zs, Zz, Zc])
  refine wpList_plain rfl (fun K hK => ?_); go_simp; (try dsimp only); refine hK _ _ ?_; clear hK K; (try simp only [Act.put, Zs, Zz, Zc])
  refine wpList_plain rfl (fun K hK => ?_); have zc := b6.cell 0; go_simp; clear zc; (try dsimp only); refine hK _ _ ?_; clear hK K; (try simp only [Act.put, Zs, Zz, Zc])
  refine wpList_plain rfl (fun K hK => ?_); go_simp; (try simp (disch := omega) only [Yq, Yr]); (try dsimp only); refine hK _ _ ?_; clear hK K; (try simp only [Act.put, Zs, Zz, Zc])
  refine wpList_nil ?_
  go_upto_region 4 with fail
  obtain ⟨m, hm, hm2⟩ : ∃ m, r6 < m ∧ m = W8.heap.size := ⟨_, qz, rfl⟩
  have hm3 : m ≤ W8.heap.size := by omega
  clear hm2
  have x0 := b0
  have x1 := b1
  have x2 := b2
  have x3 := b3
  have x4 := b4
  have x5 := b5
  have x6 := b6
  have hS : GrownX W8 [r3] W8 := GrownX.refl _ _
  refine wp_region_S (GrownX W8 [r3]) (by kernel_rfl) ?_
  refine name_wd (fun W9 hW => ?_)
  have hx : Ext W8 W9 := by rw [hW]; exact ext_drew _
  clear hW
  replace hS := hS.ext hx
  replace b0 := b0.ext hx
  replace b1 := b1.ext hx
  replace b2 := b2.ext hx
  replace b3 := b3.ext hx
  replace b4 := b4.ext hx
  replace b5 := b5.ext hx
  replace b6 := b6.ext hx
  replace tl := isT.ext hx tl
  replace tr := isT.ext hx tr
  replace ta := isT.ext hx ta
  replace tb := isT.ext hx tb
  replace hm3 := Nat.le_trans hm3 hx.below.size
  replace hE := hE.trans hx
  clear hx
  replace qz : r6 < W9.heap.size := b6.lt
  refine wpAnyD_takeSL (i := 0) rfl (by kernel_rfl) (fun _ _ _ _ h => h) hS ?_
  apply Exists.intro
  refine ⟨Or.inl ⟨by rfl, ?_⟩, ?_⟩
  (focus (intro wz hz; (first | exact exec_ld 28 _ rfl rfl ((GrownX.blk hz x4 (by first | decide | (simp; done) | (simp; omega) | omega)).range) Try.underlying28 rfl (by exact Try.infoT))))
  (try simp only [Act.put, Zs, Zz, Zc])
  refine wpAnyD_takeSL (i := 1) rfl (by kernel_rfl) (fun _ _ _ _ h => h) hS ?_
  apply Exists.intro
  refine ⟨Or.inl ⟨by rfl, ?_⟩, ?_⟩
  (focus (intro wz hz; (first | exact exec_ld 25 _ rfl rfl ((GrownX.blk hz x5 (by first | decide | (simp; done) | (simp; omega) | omega)).range) Try.underlying25 rfl (by exact Try.infoR))))
  (try simp only [Act.put, Zs, Zz, Zc])
  refine wpAnyD_takeSL (i := 2) rfl (by kernel_rfl) (fun _ _ _ _ h => h) hS ?_
  apply Exists.intro
  refine ⟨Or.inl ⟨by rfl, ?_⟩, ?_⟩
  (focus (intro wz hz; (first | exact exec_ld 28 _ rfl rfl ((GrownX.blk hz x6 (by first | decide | (simp; done) | (simp; omega) | omega)).range) Try.underlying28 rfl (by exact Try.infoT))))
  (try simp only [Act.put, Zs, Zz, Zc])
  refine wpAnyD_takeSL (i := 3) rfl (by kernel_rfl) (fun _ _ _ _ h => h) hS ?_
  apply Exists.intro
  refine ⟨Or.inl ⟨by rfl, ?_⟩, ?_⟩
  (focus (intro wz hz; (first | exact exec_ld 25 _ rfl rfl ((GrownX.blk hz x1 (by first | decide | (simp; done) | (simp; omega) | omega)).range) Try.underlying25 rfl (by exact Try.infoR))))
  (try simp only [Act.put, Zs, Zz, Zc])
  refine wpAnyD_takeSL (i := 4) rfl (by kernel_rfl) (fun _ _ _ _ h => h) hS ?_
  apply Exists.intro
  refine ⟨Or.inl ⟨by rfl, ?_⟩, ?_⟩
  (focus (intro wz hz; (first | exact exec_ld 28 _ rfl rfl ((GrownX.blk hz x2 (by first | decide | (simp; done) | (simp; omega) | omega)).range) Try.underlying28 rfl (by exact Try.infoT))))
  (try simp only [Act.put, Zs, Zz, Zc])
  refine wpAnyD_oneL (i := 5) rfl (by kernel_rfl) (fun K hK => ?_)
  rw [if_pos (by rfl)]
  go_simp
  (go_at_call 51; refine (node_P (A := Lo A w.heap.size m) (b) x (r) _ _ _ (Up.lo hA hE hm3) tb.up tr.up hvx (bd_node bl).2.2 br).mono ?_; intro e W10 hpp; obtain ⟨v1, rfl, t1, hx⟩ := hpp)
  replace hS := hS.ext hx; (try dsimp only); refine hK.out _ _ (fun _ => hS) ?_; clear hK K; (try simp only [Act.put, Zs, Zz, Zc])
  replace b0 := b0.ext hx
  replace b1 := b1.ext hx
  replace b2 := b2.ext hx
  replace b3 := b3.ext hx
  replace b4 := b4.ext hx
  replace b5 := b5.ext hx
  replace b6 := b6.ext hx
  replace tl := isT.ext hx tl
  replace tr := isT.ext hx tr
  replace ta := isT.ext hx ta
  replace tb := isT.ext hx tb
  replace hm3 := Nat.le_trans hm3 hx.below.size
  replace hE := hE.trans hx
  clear hx
  replace qz : r6 < W10.heap.size := b6.lt
  refine wpAnyD_oneL (i := 6) rfl (by kernel_rfl) (fun K hK => ?_)
  rw [if_pos (by rfl)]
  go_simp
  (go_at_call 51; refine (node_P (A := Lo A w.heap.size m) (a) y (PT.N b x r) _ _ _ (Up.lo hA hE hm3) ta.up t1 (bd_node bl).2.1 (bd_node bl).1 (bd_mk (bd_node bl).2.2 hvx br hbr)).mono ?_; intro e W11 hpp; obtain ⟨v2, rfl, t2, hx⟩ := hpp)
  replace hS := hS.ext hx; (try dsimp only); refine hK.out _ _ (fun _ => hS) ?_; clear hK K; (try simp only [Act.put, Zs, Zz, Zc])
  replace b0 := b0.ext hx
  replace b1 := b1.ext hx
  replace b2 := b2.ext hx
  replace b3 := b3.ext hx
  replace b4 := b4.ext hx
  replace b5 := b5.ext hx
  replace b6 := b6.ext hx
  replace tl := isT.ext hx tl
  replace tr := isT.ext hx tr
  replace ta := isT.ext hx ta
  replace tb := isT.ext hx tb
  replace hm3 := Nat.le_trans hm3 hx.below.size
  replace t1 := isT.ext hx t1
  replace hE := hE.trans hx
  clear hx
  replace qz : r6 < W11.heap.size := b6.lt
  refine wpAnyD_oneL (i := 7) rfl (by kernel_rfl) (fun K hK => ?_)
  rw [if_pos (by rfl)]
  refine wp_store_box 28 _ _ (by rfl) b3 (by rfl) (by rfl) (by exact Try.infoT) (by first | exact RV.one _ | exact TV.one _ rfl | exact TV.one _ (isT.one tl) | exact TV.one _ (isT.one tr) | exact TV.one _ (isT.one ta) | exact TV.one _ (isT.one tb) | exact TV.one _ (isT.one t1) | exact TV.one _ (isT.one t2)) (by rfl) (fun W12 hg bn => ?_)
  replace b0 := b0.kept hg (Zn (by omega))
  replace b1 := b1.kept hg (Zn (by omega))
  replace b2 := b2.kept hg (Zn (by omega))
  replace b4 := b4.kept hg (Zn (by omega))
  replace b5 := b5.kept hg (Zn (by omega))
  replace b6 := b6.kept hg (Zn (by omega))
  replace tl := isT.kept hg (Lw.not (by omega)) tl
  replace tr := isT.kept hg (Lw.not (by omega)) tr
  replace ta := isT.kept hg (Lw.not (by omega)) ta
  replace tb := isT.kept hg (Lw.not (by omega)) tb
  replace hm3 := Nat.le_trans hm3 hg.size
  replace t1 := isT.kept hg (Lo.not (by omega) (by omega)) t1
  replace t2 := isT.kept hg (Lo.not (by omega) (by omega)) t2
  replace hE := ext_grow hE hg (fun q hq => by cases hq; omega)
  replace hS := hS.step hg (by first | decide | (simp; done) | (simp; omega) | omega)
  clear b3 hg
  have b3 := bn
  clear bn
  (try dsimp only); refine hK.out _ _ (fun _ => hS) ?_; clear hK K; (try simp only [Act.put, Zs, Zz, Zc])
  replace qz : r6 < W12.heap.size := b6.lt
  refine wpAnyD_done (by kernel_rfl) ?_ _
  clear hS x0 x1 x2 x3 x4 x5 x6
  go_wp2_with fail
  exact bodyPost_ret (res_c rfl (GivesC.of b3 rfl Try.underlying28 rfl Try.infoT)) rfl ⟨v2, rfl, t2.hi, hE⟩


end Go.Proofs.Ytnbohogkfdeddaa
