/- Rangetree: none, formed. -/
import Derived.Test.YtnbohogkfdeddaaRts
set_option linter.unusedSimpArgs false
set_option linter.unusedVariables false
namespace Go.Proofs.Ytnbohogkfdeddaa
open Go.RowKit

set_option maxRecDepth 100000 in
set_option maxHeartbeats 1000000 in
theorem none_E {A : Nat → Prop} (v : TV) (w : World) (ht : isT A w .E v) :
    Calls Try.prog 57 #[.agg v.cs.toArray] w fun e w' => e = .returned (.bool true) ∧ Ext w w' := by
  obtain ⟨vh, vf, vl, vg, vx, vk⟩ := v
  obtain ⟨h1, h2, h3, h4, h5, ka, kc, hk⟩ := ht
  dsimp only at h1 h2 h3 h4 h5 hk
  subst h1 h2 h3 h4 h5 hk
  go_enter Try.func57, Try.ntmps57
  go_upto_region 1 with fail
  refine name_wX (fun W1 hW => ?_)
  have hE : Ext w W1 := by rw [hW]; repeat' (first | exact Ext.refl _ | apply Ext.al)
  have b0 : Blk W1 (w.heap.size) 28 (TV.cs ⟨0, 0, 0, 0, RV.z, .slice ka 0 kc⟩) := by rw [hW]; exact Blk.newAt rfl
  clear hW
  obtain ⟨r0, hr0⟩ : ∃ r, r = w.heap.size := ⟨_, rfl⟩
  rw [← hr0] at b0
  try rw [← hr0]
  have q0 : w.heap.size ≤ r0 := by omega
  clear hr0
  have qz : r0 < W1.heap.size := b0.lt
  have c0 : W1.cell? ⟨r0, 0, none⟩ = some (.int .i64 0) := b0.cell 0
  have c1 : W1.cell? ⟨r0, 1, none⟩ = some (.int .i64 0) := b0.cell 1
  have c2 : W1.cell? ⟨r0, 2, none⟩ = some (.int .i64 0) := b0.cell 2
  have c3 : W1.cell? ⟨r0, 3, none⟩ = some (.int .i64 0) := b0.cell 3
  have c4 : W1.cell? ⟨r0, 4, none⟩ = some (.int .i64 0) := b0.cell 4
  have c5 : W1.cell? ⟨r0, 5, none⟩ = some (.int .i64 0) := b0.cell 5
  have c6 : W1.cell? ⟨r0, 6, none⟩ = some (.int .i64 0) := b0.cell 6
  have c7 : W1.cell? ⟨r0, 7, none⟩ = some (.int .i64 0) := b0.cell 7
  have c8 : W1.cell? ⟨r0, 8, none⟩ = some (.int .i64 0) := b0.cell 8
  have c9 : W1.cell? ⟨r0, 9, none⟩ = some (.int .i64 0) := b0.cell 9
  have c10 : W1.cell? ⟨r0, 10, none⟩ = some (.slice ka 0 kc) := b0.cell 10
  have z0 : LtD r0 W1.heap.size := qz
  go_wp2_with fail
  all_goals go_ret
  all_goals exact ⟨rfl, hE⟩
def FormedOK (t : BT) : Prop := ∀ (A : Nat → Prop) (v : TV) (w : World), isT A w t v →
    Calls Try.prog 42 #[.agg v.cs.toArray] w fun e w' => e = .returned (.bool true) ∧ Ext w w'
set_option maxRecDepth 100000 in
set_option maxHeartbeats 1000000 in
theorem formed_E : FormedOK .E := by
  intro A v w ht
  have h0 : v.h = 0 := ht.1
  have hv0 : (v.h == 0) = true := by rw [h0]; rfl
  clear h0
  go_enter Try.func42, Try.ntmps42
  go_upto_region 1 with fail
  refine name_wX (fun W1 hW => ?_)
  have hE : Ext w W1 := by rw [hW]; repeat' (first | exact Ext.refl _ | apply Ext.al)
  have b0 : Blk W1 (w.heap.size) 28 v.cs := by rw [hW]; exact Blk.newAt rfl
  clear hW
  obtain ⟨r0, hr0⟩ : ∃ r, r = w.heap.size := ⟨_, rfl⟩
  rw [← hr0] at b0
  try rw [← hr0]
  have q0 : w.heap.size ≤ r0 := by omega
  clear hr0
  have qz : r0 < W1.heap.size := b0.lt
  replace ht := isT.ext hE ht
  go_upto_region 1 with fail
  refine wp_region_lit ?_
  refine wpList_plain rfl (fun K hK => ?_); go_simp; (try dsimp only); refine hK _ _ ?_; clear hK K; (try simp only [Act.put, Zs, Zz, Zc])
  refine wpList_plain rfl (fun K hK => ?_); have zc := b0.cell 0; go_simp; clear zc; (try dsimp only); refine hK _ _ ?_; clear hK K; (try simp only [Act.put, Zs, Zz, Zc])
  refine wpList_plain rfl (fun K hK => ?_); go_simp; (try simp (disch := omega) only [Yq, Yr]); (try dsimp only); refine hK _ _ ?_; clear hK K; (try simp only [Act.put, Zs, Zz, Zc])
  refine wpList_nil ?_
  go_upto_region 2 with fail
  refine wp_region_lit ?_
  refine wpList_plain rfl (fun K hK => ?_); (first | (refine wp_ld 28 _ (b0.range) (by rfl) (by rfl) Try.underlying28 rfl (by exact Try.infoT) ?_)); (try dsimp only); refine hK _ _ ?_; clear hK K; (try simp only [Act.put, Zs, Zz, Zc])
  refine wpList_plain rfl (fun K hK => ?_); go_simp; (go_at_call 57; refine (none_E v _ ht).mono ?_; intro e W2 hpp; obtain ⟨rfl, hx⟩ := hpp); (try dsimp only); refine hK _ _ ?_; clear hK K; (try simp only [Act.put, Zs, Zz, Zc])
  replace b0 := b0.ext hx
  replace ht := isT.ext hx ht
  replace hE := hE.trans hx
  clear hx
  replace qz : r0 < W2.heap.size := b0.lt
  refine wpList_plain rfl (fun K hK => ?_); go_simp; (try dsimp only); refine hK _ _ ?_; clear hK K; (try simp only [Act.put, Zs, Zz, Zc])
  refine wpList_nil ?_
  go_wp2_with fail
  go_ret
  exact ⟨rfl, hE⟩

set_option maxRecDepth 100000 in
set_option maxHeartbeats 1000000 in
theorem formed_N {h f l gg : Int} {a b : BT} {y : RV} (iha : FormedOK a) (ihb : FormedOK b) : FormedOK (.N h f l gg a y b) := by
  intro A v w ht
  obtain ⟨e1, e2, e3, e4, e5, e6, g, o, c, va, vb, hk, hc, hgw0, hAg, hra, hrb, ta, tb⟩ := ht
  obtain ⟨vh, vf, vl, vg, vx, vk⟩ := v
  dsimp only at e1 e2 e3 e4 e5 hk
  obtain rfl : h = vh := e1.symm
  subst hk
  have hcI : (2 : Int) ≤ (c : Int) := by omega
  have hh0 : (h == 0) = false := by simpa using e6
  clear e1 e2 e3 e4 e5 e6
  go_enter Try.func42, Try.ntmps42
  go_upto_region 1 with fail
  refine name_wX (fun W1 hW => ?_)
  have hE : Ext w W1 := by rw [hW]; repeat' (first | exact Ext.refl _ | apply Ext.al)
  have b0 : Blk W1 (w.heap.size) 28 (TV.cs ⟨h, vf, vl, vg, vx, .slice (some ⟨g, o, none⟩) 2 c⟩) := by rw [hW]; exact Blk.newAt rfl
  clear hW
  obtain ⟨r0, hr0⟩ : ∃ r, r = w.heap.size := ⟨_, rfl⟩
  rw [← hr0] at b0
  try rw [← hr0]
  have q0 : w.heap.size ≤ r0 := by omega
  clear hr0
  have qz : r0 < W1.heap.size := b0.lt
  replace ta := isT.ext hE ta
  replace tb := isT.ext hE tb
  have hgw : g < W1.heap.size := Nat.lt_of_lt_of_le hgw0 hE.below.size
  replace hra := rangeAt.ext hra hgw0 hE
  replace hrb := rangeAt.ext hrb hgw0 hE
  go_upto_region 1 with fail
  refine wp_region_lit ?_
  refine wpList_plain rfl (fun K hK => ?_); go_simp; (try dsimp only); refine hK _ _ ?_; clear hK K; (try simp only [Act.put, Zs, Zz, Zc])
  refine wpList_plain rfl (fun K hK => ?_); have zc := b0.cell 0; go_simp; clear zc; (try dsimp only); refine hK _ _ ?_; clear hK K; (try simp only [Act.put, Zs, Zz, Zc])
  refine wpList_plain rfl (fun K hK => ?_); go_simp; (try simp (disch := omega) only [Yq, Yr]); (try dsimp only); refine hK _ _ ?_; clear hK K; (try simp only [Act.put, Zs, Zz, Zc])
  refine wpList_nil ?_
  go_upto_region 3 with fail
  refine wp_region_lit ?_
  refine wpList_plain rfl (fun K hK => ?_); go_simp; (try dsimp only); refine hK _ _ ?_; clear hK K; (try simp only [Act.put, Zs, Zz, Zc])
  refine wpList_plain rfl (fun K hK => ?_); have zc := b0.cell 10; go_simp; clear zc; (try dsimp only); refine hK _ _ ?_; clear hK K; (try simp only [Act.put, Zs, Zz, Zc])
  refine wpList_plain rfl (fun K hK => ?_); go_simp; (try dsimp only); refine hK _ _ ?_; clear hK K; (try simp only [Act.put, Zs, Zz, Zc])
  refine wpList_plain rfl (fun K hK => ?_); go_simp; (try simp (disch := omega) only [Yq, Yr]); (try dsimp only); refine hK _ _ ?_; clear hK K; (try simp only [Act.put, Zs, Zz, Zc])
  refine wpList_plain rfl (fun K hK => ?_); go_simp; (try dsimp only); refine hK _ _ ?_; clear hK K; (try simp only [Act.put, Zs, Zz, Zc])
  refine wpList_step (fun K hK => ?_); rw [if_pos (by rfl)]; go_simp; (try dsimp only); refine hK _ _ ?_; clear hK K; (try simp only [Act.put, Zs, Zz, Zc])
  refine wpList_step (fun K hK => ?_); rw [if_pos (by rfl)]; have zc := b0.cell 10; go_simp; clear zc; (try dsimp only); refine hK _ _ ?_; clear hK K; (try simp only [Act.put, Zs, Zz, Zc])
  refine wpList_step (fun K hK => ?_); rw [if_pos (by rfl)]; go_simp; (try dsimp only); refine hK _ _ ?_; clear hK K; (try simp only [Act.put, Zs, Zz, Zc])
  refine wpList_step (fun K hK => ?_); rw [if_pos (by rfl)]; (first | (refine wp_ld 28 _ (hra) (by rfl) (by rfl) Try.underlying28 rfl (by exact Try.infoT) ?_) | (refine wp_ld 28 _ (hrb) (by rfl) (by rfl) Try.underlying28 rfl (by exact Try.infoT) ?_)); (try dsimp only); refine hK _ _ ?_; clear hK K; (try simp only [Act.put, Zs, Zz, Zc])
  refine wpList_step (fun K hK => ?_); rw [if_pos (by rfl)]; go_simp; (go_at_call 42; refine (iha _ _ _ ta).mono ?_; intro e W2 hpp; obtain ⟨rfl, hx⟩ := hpp); (try dsimp only); refine hK _ _ ?_; clear hK K; (try simp only [Act.put, Zs, Zz, Zc])
  replace b0 := b0.ext hx
  replace ta := isT.ext hx ta
  replace tb := isT.ext hx tb
  replace hra := rangeAt.ext hra hgw hx
  replace hrb := rangeAt.ext hrb hgw hx
  replace hgw := Nat.lt_of_lt_of_le hgw hx.below.size
  replace hE := hE.trans hx
  clear hx
  replace qz : r0 < W2.heap.size := b0.lt
  iterate 2 (refine wpList_plain rfl (fun K hK => ?_); go_simp; (try dsimp only); refine hK _ _ ?_; clear hK K; (try simp only [Act.put, Zs, Zz, Zc]))
  refine wpList_step (fun K hK => ?_); rw [if_pos (by rfl)]; go_simp; (try dsimp only); refine hK _ _ ?_; clear hK K; (try simp only [Act.put, Zs, Zz, Zc])
  refine wpList_step (fun K hK => ?_); rw [if_pos (by rfl)]; have zc := b0.cell 10; go_simp; clear zc; (try dsimp only); refine hK _ _ ?_; clear hK K; (try simp only [Act.put, Zs, Zz, Zc])
  refine wpList_step (fun K hK => ?_); rw [if_pos (by rfl)]; go_simp; (try dsimp only); refine hK _ _ ?_; clear hK K; (try simp only [Act.put, Zs, Zz, Zc])
  refine wpList_step (fun K hK => ?_); rw [if_pos (by rfl)]; (first | (refine wp_ld 28 _ (hra) (by rfl) (by rfl) Try.underlying28 rfl (by exact Try.infoT) ?_) | (refine wp_ld 28 _ (hrb) (by rfl) (by rfl) Try.underlying28 rfl (by exact Try.infoT) ?_)); (try dsimp only); refine hK _ _ ?_; clear hK K; (try simp only [Act.put, Zs, Zz, Zc])
  refine wpList_step (fun K hK => ?_); rw [if_pos (by rfl)]; go_simp; (go_at_call 42; refine (ihb _ _ _ tb).mono ?_; intro e W3 hpp; obtain ⟨rfl, hx⟩ := hpp); (try dsimp only); refine hK _ _ ?_; clear hK K; (try simp only [Act.put, Zs, Zz, Zc])
  replace b0 := b0.ext hx
  replace ta := isT.ext hx ta
  replace tb := isT.ext hx tb
  replace hra := rangeAt.ext hra hgw hx
  replace hrb := rangeAt.ext hrb hgw hx
  replace hgw := Nat.lt_of_lt_of_le hgw hx.below.size
  replace hE := hE.trans hx
  clear hx
  replace qz : r0 < W3.heap.size := b0.lt
  iterate 2 (refine wpList_plain rfl (fun K hK => ?_); go_simp; (try dsimp only); refine hK _ _ ?_; clear hK K; (try simp only [Act.put, Zs, Zz, Zc]))
  refine wpList_nil ?_
  go_wp2_with fail
  go_ret
  exact ⟨rfl, hE⟩

theorem formed_P : ∀ t : BT, FormedOK t
  | .E => formed_E
  | .N _ _ _ _ a _ b => formed_N (formed_P a) (formed_P b)

end Go.Proofs.Ytnbohogkfdeddaa
