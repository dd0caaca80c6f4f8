/- Rangetree: own. -/
import Derived.Test.YtnbohogkfdeddaaRtg
import Derived.Test.YtnbohogkfdeddaaWk2
set_option linter.unusedSimpArgs false
set_option linter.unusedVariables false
namespace Go.Proofs.Ytnbohogkfdeddaa
open Go.RowKit

theorem isT_mk {A : Nat → Prop} {w : World} {h f l g : Int} {a b : BT} {x : RV} {va vb : TV} {gk : Nat} (h0 : h ≠ 0) (ta : isT A w a va) (tb : isT A w b vb) (hA : A gk) (hb : Blk w gk 28 (va.cs ++ vb.cs)) : isT A w (.N h f l g a x b) ⟨h, f, l, g, x, .slice (some ⟨gk, 0, none⟩) 2 2⟩ := by
  refine ⟨rfl, rfl, rfl, rfl, rfl, h0, gk, 0, 2, va, vb, rfl, Nat.le_refl _, hb.lt, hA, ?_, ?_, ta, tb⟩
  · exact hb.rangeIn 0 va.cs (fun j hj => by rw [Nat.zero_add, List.getElem?_append_left hj])
  · exact hb.rangeIn (0 + 11) vb.cs (fun j hj => by
      have : va.cs.length = 11 := rfl
      rw [List.getElem?_append_right (by omega)]
      congr 1
      omega)

def OwnOK (p : PT) : Prop := ∀ (A : Nat → Prop) (v : TV) (w : World), Up A w → isT A w p.bt v →
    Calls Try.prog 35 #[.agg v.cs.toArray] w fun e w' => ∃ v', e = .returned (.agg v'.cs.toArray) ∧ isT A w' p.bt v' ∧ Ext w w'

set_option maxRecDepth 100000 in
set_option maxHeartbeats 4000000 in
theorem own_E : OwnOK .E := by
  intro A v w hA ht
  obtain ⟨ka, kc, hk⟩ : ∃ a c, v.k = .slice a 0 c := ht.2.2.2.2.2
  have HK : Hid (v.k = .slice ka 0 kc) := hk
  clear hk
  go_enter Try.func35, Try.ntmps35
  go_upto_region 1 with fail
  refine name_wX (fun W1 hW => ?_)
  have hE : Ext w W1 := by rw [hW]; repeat' (first | exact Ext.refl _ | apply Ext.al)
  have b0 : Blk W1 (w.heap.size) 28 v.cs := by rw [hW]; exact (Blk.newAt rfl).alloc _
  have b1 : Blk W1 (w.heap.size + 1) 28 TV.z.cs := by rw [hW]; exact Blk.newAt (by simp)
  clear hW
  obtain ⟨r1, hr1⟩ : ∃ r, r = w.heap.size + 1 := ⟨_, rfl⟩
  rw [← hr1] at b1
  try rw [← hr1]
  obtain ⟨r0, hr0⟩ : ∃ r, r = w.heap.size := ⟨_, rfl⟩
  rw [← hr0] at b0
  try rw [← hr0]
  have q0 : w.heap.size ≤ r0 := by omega
  have q1 : r0 < r1 := by omega
  clear hr0 hr1
  have qz : r1 < W1.heap.size := b1.lt
  have tv := isT.ext hE (isT.lw ht)
  clear ht
  go_upto_region 1 with fail
  have c10 : W1.cell? ⟨r0, 10, none⟩ = some (.slice ka 0 kc) := by rw [b0.cell 10, ← HK.out]; rfl
  refine wp_region_lit ?_
  iterate 3 (refine wpList_plain rfl (fun K hK => ?_); go_simp; (try dsimp only); refine hK _ _ ?_; clear hK K; (try simp only [Act.put, Zs, Zz, Zc]))
  refine wpList_plain rfl (fun K hK => ?_); go_simp; (try simp (disch := omega) only [Yq, Yr]); (try dsimp only); refine hK _ _ ?_; clear hK K; (try simp only [Act.put, Zs, Zz, Zc])
  refine wpList_nil ?_
  go_upto_region 3 with fail
  refine wp_region_lit ?_
  refine wpList_plain rfl (fun K hK => ?_); (first | (refine wp_ld 28 _ (b0.range) (by rfl) (by rfl) Try.underlying28 rfl (by exact Try.infoT) ?_)); (try dsimp only); refine hK _ _ ?_; clear hK K; (try simp only [Act.put, Zs, Zz, Zc])
  refine wpList_plain rfl (fun K hK => ?_)
  refine wp_store_box 28 _ _ (by rfl) b1 (by rfl) (by rfl) (by exact Try.infoT) (by first | exact RV.one _ | exact TV.one _ rfl | exact TV.one _ (isT.one tv)) (by rfl) (fun W2 hg bn => ?_)
  replace b0 := b0.kept hg (Zn (by omega))
  replace tv := isT.kept hg (Lw.not (by omega)) tv
  replace hE := ext_grow hE hg (fun q hq => by cases hq; omega)
  clear b1 hg
  have b1 := bn
  clear bn
  (try dsimp only); refine hK _ _ ?_; clear hK K; (try simp only [Act.put, Zs, Zz, Zc])
  replace qz : r1 < W2.heap.size := b1.lt
  refine wpList_nil ?_
  go_wp2_with fail
  exact bodyPost_ret (res_c rfl (GivesC.of b1 rfl Try.underlying28 rfl Try.infoT)) rfl ⟨v, rfl, tv.low, hE⟩
set_option maxRecDepth 100000 in
set_option maxHeartbeats 4000000 in
theorem own_N {a b : PT} {y : RV} (iha : OwnOK a) (ihb : OwnOK b) : OwnOK (.N a y b) := by
  intro A v w hA ht
  obtain ⟨e1, e2, e3, e4, e5, e6, g, o, c, va, vb, hk, hc, hgw0, hAg, hra, hrb, ta, tb⟩ := ht.lw
  obtain ⟨vh, vf, vl, vg, vx, vk⟩ := v
  dsimp only at e1 e2 e3 e4 e5 hk
  obtain rfl : y = vx := e5.symm
  subst e1 e2 e3 e4 hk
  have hcI : (2 : Int) ≤ (c : Int) := by omega
  have hne : (PT.N a y b).ht ≠ 0 := by have := PT.ht_pos a y b; omega
  clear e6 ht
  go_enter Try.func35, Try.ntmps35
  go_upto_region 1 with fail
  refine name_wX (fun W1 hW => ?_)
  have hE : Ext w W1 := by rw [hW]; repeat' (first | exact Ext.refl _ | apply Ext.al)
  have b0 : Blk W1 (w.heap.size) 28 (TV.cs ⟨(PT.N a y b).ht, (PT.N a y b).fst, (PT.N a y b).lst, (PT.N a y b).gp, y, .slice (some ⟨g, o, none⟩) 2 c⟩) := by rw [hW]; exact (Blk.newAt rfl).alloc _
  have b1 : Blk W1 (w.heap.size + 1) 28 TV.z.cs := by rw [hW]; exact Blk.newAt (by simp)
  clear hW
  obtain ⟨r1, hr1⟩ : ∃ r, r = w.heap.size + 1 := ⟨_, rfl⟩
  rw [← hr1] at b1
  try rw [← hr1]
  obtain ⟨r0, hr0⟩ : ∃ r, r = w.heap.size := ⟨_, rfl⟩
  rw [← hr0] at b0
  try rw [← hr0]
  have q0 : w.heap.size ≤ r0 := by omega
  have q1 : r0 < r1 := by omega
  clear hr0 hr1
  have qz : r1 < W1.heap.size := b1.lt
  replace ta := isT.ext hE ta
  replace tb := isT.ext hE tb
  have hgr : g < w.heap.size := hgw0
  have hgw : g < W1.heap.size := Nat.lt_of_lt_of_le hgw0 hE.below.size
  replace hra := rangeAt.ext hra hgw0 hE
  replace hrb := rangeAt.ext hrb hgw0 hE
  go_upto_region 1 with fail
  refine wp_region_lit ?_
  refine wpList_plain rfl (fun K hK => ?_); go_simp; (try dsimp only); refine hK _ _ ?_; clear hK K; (try simp only [Act.put, Zs, Zz, Zc])
  refine wpList_plain rfl (fun K hK => ?_); have zc := b0.cell 10; go_simp; clear zc; (try dsimp only); refine hK _ _ ?_; clear hK K; (try simp only [Act.put, Zs, Zz, Zc])
  refine wpList_plain rfl (fun K hK => ?_); go_simp; (try dsimp only); refine hK _ _ ?_; clear hK K; (try simp only [Act.put, Zs, Zz, Zc])
  refine wpList_plain rfl (fun K hK => ?_); go_simp; (try simp (disch := omega) only [Yq, Yr]); (try dsimp only); refine hK _ _ ?_; clear hK K; (try simp only [Act.put, Zs, Zz, Zc])
  refine wpList_nil ?_
  go_upto_region 2 with fail
  obtain ⟨m, hm, hm2⟩ : ∃ m, r1 < m ∧ m = W1.heap.size := ⟨_, qz, rfl⟩
  have hm3 : m ≤ W1.heap.size := by omega
  clear hm2
  have y1 := hra
  have y2 := hrb
  have yg := hgw
  have x0 := b0
  have x1 := b1
  have hS : GrownX W1 [] W1 := GrownX.refl _ _
  refine wp_region_SE (GrownX W1 []) [0, 1, 2, 3, 4, 5, 6, 7, 8, 9, 10, 11] (by kernel_rfl) ?_
  refine name_wd (fun W2 hW => ?_)
  have hx : Ext W1 W2 := by rw [hW]; exact ext_drew _
  clear hW
  replace hS := hS.ext hx
  replace b0 := b0.ext hx
  replace b1 := b1.ext hx
  replace ta := isT.ext hx ta
  replace tb := isT.ext hx tb
  replace hra := rangeAt.ext hra hgw hx
  replace hrb := rangeAt.ext hrb hgw hx
  replace hgw := Nat.lt_of_lt_of_le hgw hx.below.size
  replace hm3 := Nat.le_trans hm3 hx.below.size
  replace hE := hE.trans hx
  clear hx
  replace qz : r1 < W2.heap.size := b1.lt
  refine wpAnyD_takeSL (i := 0) rfl (by kernel_rfl) (fun _ _ _ _ h => h) hS ?_
  apply Exists.intro
  refine ⟨Or.inl ⟨by rfl, ?_⟩, ?_⟩
  (focus (intro wz hz; go_simp; (try with_reducible rfl); done))
  (try simp only [Act.put, Zs, Zz, Zc])
  refine wpAnyD_takeSL (i := 1) rfl (by kernel_rfl) (fun _ _ _ _ h => h) hS ?_
  apply Exists.intro
  refine ⟨Or.inl ⟨by rfl, ?_⟩, ?_⟩
  (focus (intro wz hz; have zc := (GrownX.blk hz x0 (by first | decide | (simp; done) | (simp; omega) | omega)).cell 10; go_simp; (try with_reducible rfl); done))
  (try simp only [Act.put, Zs, Zz, Zc])
  refine wpAnyD_takeSL (i := 2) rfl (by kernel_rfl) (fun _ _ _ _ h => h) hS ?_
  apply Exists.intro
  refine ⟨Or.inl ⟨by rfl, ?_⟩, ?_⟩
  (focus (intro wz hz; go_simp; (try with_reducible rfl); done))
  (try simp only [Act.put, Zs, Zz, Zc])
  refine wpAnyD_takeSL (i := 3) rfl (by kernel_rfl) (fun _ _ _ _ h => h) hS ?_
  apply Exists.intro
  refine ⟨Or.inl ⟨by rfl, ?_⟩, ?_⟩
  (focus (intro wz hz; (first | exact exec_ld 28 _ rfl rfl (GrownX.range hz (y1) (yg) (by first | decide | (simp; done) | (simp; omega) | omega)) Try.underlying28 rfl (by exact Try.infoT) | exact exec_ld 28 _ rfl rfl (GrownX.range hz (y2) (yg) (by first | decide | (simp; done) | (simp; omega) | omega)) Try.underlying28 rfl (by exact Try.infoT))))
  (try simp only [Act.put, Zs, Zz, Zc])
  refine wpAnyD_takeSL (i := 5) rfl (by kernel_rfl) (fun _ _ _ _ h => h) hS ?_
  apply Exists.intro
  refine ⟨Or.inl ⟨by rfl, ?_⟩, ?_⟩
  (focus (intro wz hz; go_simp; (try with_reducible rfl); done))
  (try simp only [Act.put, Zs, Zz, Zc])
  refine wpAnyD_takeSL (i := 6) rfl (by kernel_rfl) (fun _ _ _ _ h => h) hS ?_
  apply Exists.intro
  refine ⟨Or.inl ⟨by rfl, ?_⟩, ?_⟩
  (focus (intro wz hz; have zc := (GrownX.blk hz x0 (by first | decide | (simp; done) | (simp; omega) | omega)).cell 10; go_simp; (try with_reducible rfl); done))
  (try simp only [Act.put, Zs, Zz, Zc])
  refine wpAnyD_takeSL (i := 7) rfl (by kernel_rfl) (fun _ _ _ _ h => h) hS ?_
  apply Exists.intro
  refine ⟨Or.inl ⟨by rfl, ?_⟩, ?_⟩
  (focus (intro wz hz; go_simp; (try with_reducible rfl); done))
  (try simp only [Act.put, Zs, Zz, Zc])
  refine wpAnyD_takeSL (i := 8) rfl (by kernel_rfl) (fun _ _ _ _ h => h) hS ?_
  apply Exists.intro
  refine ⟨Or.inl ⟨by rfl, ?_⟩, ?_⟩
  (focus (intro wz hz; (first | exact exec_ld 28 _ rfl rfl (GrownX.range hz (y1) (yg) (by first | decide | (simp; done) | (simp; omega) | omega)) Try.underlying28 rfl (by exact Try.infoT) | exact exec_ld 28 _ rfl rfl (GrownX.range hz (y2) (yg) (by first | decide | (simp; done) | (simp; omega) | omega)) Try.underlying28 rfl (by exact Try.infoT))))
  (try simp only [Act.put, Zs, Zz, Zc])
  -- several: [4, 9]
  refine wpAnyD_oneL (i := 4) rfl (by kernel_rfl) (fun K hK => ?_)
  rw [if_pos (by rfl)]
  go_simp
  (go_at_call 35; refine (iha (Lo A w.heap.size m) _ _ (Up.lo hA hE hm3) ta.up).mono ?_; intro e W3 hpp; obtain ⟨v1, rfl, t1, hx⟩ := hpp)
  replace hS := hS.ext hx; (try dsimp only); refine hK.out _ _ (fun _ => hS) ?_; clear hK K; (try simp only [Act.put, Zs, Zz, Zc])
  replace b0 := b0.ext hx
  replace b1 := b1.ext hx
  replace ta := isT.ext hx ta
  replace tb := isT.ext hx tb
  replace hra := rangeAt.ext hra hgw hx
  replace hrb := rangeAt.ext hrb hgw hx
  replace hgw := Nat.lt_of_lt_of_le hgw hx.below.size
  replace hm3 := Nat.le_trans hm3 hx.below.size
  replace hE := hE.trans hx
  clear hx
  replace qz : r1 < W3.heap.size := b1.lt
  refine wpAnyD_oneL (i := 9) rfl (by kernel_rfl) (fun K hK => ?_)
  rw [if_pos (by rfl)]
  go_simp
  (go_at_call 35; refine (ihb (Lo A w.heap.size m) _ _ (Up.lo hA hE hm3) tb.up).mono ?_; intro e W4 hpp; obtain ⟨v2, rfl, t2, hx⟩ := hpp)
  replace hS := hS.ext hx; (try dsimp only); refine hK.out _ _ (fun _ => hS) ?_; clear hK K; (try simp only [Act.put, Zs, Zz, Zc])
  replace b0 := b0.ext hx
  replace b1 := b1.ext hx
  replace ta := isT.ext hx ta
  replace tb := isT.ext hx tb
  replace hra := rangeAt.ext hra hgw hx
  replace hrb := rangeAt.ext hrb hgw hx
  replace hgw := Nat.lt_of_lt_of_le hgw hx.below.size
  replace hm3 := Nat.le_trans hm3 hx.below.size
  replace t1 := isT.ext hx t1
  replace hE := hE.trans hx
  clear hx
  replace qz : r1 < W4.heap.size := b1.lt
  refine wpAnyD_oneL (i := 10) rfl (by kernel_rfl) (fun K hK => ?_)
  rw [if_pos (by rfl)]
  refine wp_bs _ _ (by rfl) (by rfl) (by rfl) ?_
  (try dsimp only); refine hK.out _ _ (fun _ => hS.ext (ext_alloc _ _)) ?_; clear hK K; (try simp only [Act.put, Zs, Zz, Zc])
  refine name_wd (fun W5 hW => ?_)
  have hx : Ext W4 W5 := by rw [hW]; exact ext_alloc _ _
  have b2 : Blk W5 W4.heap.size 28 (v1.cs ++ v2.cs) := by rw [hW]; exact Blk.newAt rfl
  clear hW
  replace hS := hS.ext hx
  replace b0 := b0.ext hx
  replace b1 := b1.ext hx
  replace ta := isT.ext hx ta
  replace tb := isT.ext hx tb
  replace hra := rangeAt.ext hra hgw hx
  replace hrb := rangeAt.ext hrb hgw hx
  replace hgw := Nat.lt_of_lt_of_le hgw hx.below.size
  replace hm3 := Nat.le_trans hm3 hx.below.size
  replace t1 := isT.ext hx t1
  replace t2 := isT.ext hx t2
  replace hE := hE.trans hx
  clear hx
  obtain ⟨r2, hr⟩ : ∃ r, r = W4.heap.size := ⟨_, rfl⟩
  rw [← hr] at b2
  try rw [← hr]
  have q2 : r1 < r2 := by omega
  clear hr
  replace qz : r2 < W5.heap.size := b2.lt
  refine wpAnyD_takeSL (i := 11) rfl (by kernel_rfl) (fun _ _ _ _ h => h) hS ?_
  apply Exists.intro
  refine ⟨Or.inl ⟨by rfl, ?_⟩, ?_⟩
  (focus (intro wz hz; go_simp; (try with_reducible rfl); done))
  (try simp only [Act.put, Zs, Zz, Zc])
  refine wpAnyD_oneL (i := 12) rfl (by kernel_rfl) (fun K hK => ?_)
  rw [if_pos (by rfl)]
  have zc := b0.cell 10; have zf := b0.frozen 10; have zl := b0.lt; go_simp; clear zc zf zl
  (try dsimp only)
  refine name_k (fun W6 hW => ?_)
  have hg : W5.grownBy W6 (some r0) := by rw [hW]; exact grown_set _ _ _ _
  have bn := Blk.setW b0 hW
  replace b1 := b1.kept hg (Zn (by omega))
  replace b2 := b2.kept hg (Zn (by omega))
  replace ta := isT.kept hg (Lw.not (by omega)) ta
  replace tb := isT.kept hg (Lw.not (by omega)) tb
  replace hra := rangeAt.kept hra hgw hg (Zn (by omega))
  replace hrb := rangeAt.kept hrb hgw hg (Zn (by omega))
  replace hgw := Nat.lt_of_lt_of_le hgw hg.size
  replace hm3 := Nat.le_trans hm3 hg.size
  replace t1 := isT.kept hg (Lo.not (by omega) (by omega)) t1
  replace t2 := isT.kept hg (Lo.not (by omega) (by omega)) t2
  replace hE := ext_grow hE hg (fun q hq => by cases hq; omega)
  clear b0 hg hW
  have b0 := bn
  clear bn
  replace qz : r2 < W6.heap.size := b2.lt
  (try dsimp only); refine hK.out _ _ (fun h => absurd h (by decide)) ?_; clear hK K; (try simp only [Act.put, Zs, Zz, Zc])
  refine wpAnyD_done (by kernel_rfl) ?_ _
  clear hS x0 x1
  have b0_ : Blk W6 r0 28 (TV.cs ⟨(PT.N a y b).ht, (PT.N a y b).fst, (PT.N a y b).lst, (PT.N a y b).gp, y, .slice (some ⟨r2, 0, none⟩) 2 2⟩) := b0
  clear b0
  have b0 := b0_
  clear b0_
  go_upto_region 3 with fail
  refine wp_region_lit ?_
  refine wpList_plain rfl (fun K hK => ?_); (first | (refine wp_ld 28 _ (b0.range) (by rfl) (by rfl) Try.underlying28 rfl (by exact Try.infoT) ?_)); (try dsimp only); refine hK _ _ ?_; clear hK K; (try simp only [Act.put, Zs, Zz, Zc])
  refine wpList_plain rfl (fun K hK => ?_)
  refine wp_store_box 28 _ _ (by rfl) b1 (by rfl) (by rfl) (by exact Try.infoT) (by first | exact RV.one _ | exact TV.one _ rfl | exact TV.one _ (isT.one ta) | exact TV.one _ (isT.one tb) | exact TV.one _ (isT.one t1) | exact TV.one _ (isT.one t2)) (by rfl) (fun W7 hg bn => ?_)
  replace b0 := b0.kept hg (Zn (by omega))
  replace b2 := b2.kept hg (Zn (by omega))
  replace ta := isT.kept hg (Lw.not (by omega)) ta
  replace tb := isT.kept hg (Lw.not (by omega)) tb
  replace hra := rangeAt.kept hra hgw hg (Zn (by omega))
  replace hrb := rangeAt.kept hrb hgw hg (Zn (by omega))
  replace hgw := Nat.lt_of_lt_of_le hgw hg.size
  replace hm3 := Nat.le_trans hm3 hg.size
  replace t1 := isT.kept hg (Lo.not (by omega) (by omega)) t1
  replace t2 := isT.kept hg (Lo.not (by omega) (by omega)) t2
  replace hE := ext_grow hE hg (fun q hq => by cases hq; omega)
  clear b1 hg
  have b1 := bn
  clear bn
  (try dsimp only); refine hK _ _ ?_; clear hK K; (try simp only [Act.put, Zs, Zz, Zc])
  replace qz : r2 < W7.heap.size := b2.lt
  refine wpList_nil ?_
  go_wp2_with fail
  exact bodyPost_ret (res_c rfl (GivesC.of b1 rfl Try.underlying28 rfl Try.infoT)) rfl ⟨⟨(PT.N a y b).ht, (PT.N a y b).fst, (PT.N a y b).lst, (PT.N a y b).gp, y, .slice (some ⟨r2, 0, none⟩) 2 2⟩, rfl, isT_mk hne t1.hi t2.hi (hA r2 (by omega)) b2, hE⟩
theorem own_P : ∀ p : PT, OwnOK p
  | .E => own_E
  | .N a y b => own_N (own_P a) (own_P b)

end Go.Proofs.Ytnbohogkfdeddaa
