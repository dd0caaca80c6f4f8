/- Rangetree: remove. -/
import Derived.Test.YtnbohogkfdeddaaRto
set_option linter.unusedSimpArgs false
set_option linter.unusedVariables false
namespace Go.Proofs.Ytnbohogkfdeddaa
open Go.RowKit

def cellInt' (w : World) (r : Nat) : Nat := match w.cell? ⟨r, 0, none⟩ with
  | some v => (intOf v).toNat
  | none => 0

set_option maxRecDepth 100000 in
set_option maxHeartbeats 4000000 in
theorem rem_2 {a b : PT} {y : RV} (iha : RemOK a) (ihb : RemOK b) (A : Nat → Prop) (s : Int) (v : TV) (w : World) (hA : Up A w) (ht : isT A w (PT.N a y b).bt v) (bp : bd (.N a y b)) (hb : (PT.N a y b).bal) (ho : ord (PT.N a y b).flat) (h8 : (PT.N a y b).ht ≤ 800) (hs : ∃ z ∈ (PT.N a y b).flat, z.s = s) (c1 : ¬ s < y.s) (c2 : ¬ y.s < s) (c3 : ¬ a.ht = 0) (c4 : ¬ b.ht = 0) :
    Calls Try.prog 41 #[.agg v.cs.toArray, .int .i64 s] w fun e w' => ∃ v', e = .returned (.agg v'.cs.toArray) ∧ isT A w' (joinP a (minP b y) (remP b (minP b y).s)).bt v' ∧ Ext w w' := by
  obtain ⟨ba, hvy, bb⟩ := bd_node bp
  obtain ⟨oa, _, ob, l1, l2⟩ := ord_node ho
  have hh : a.ht ≤ 799 ∧ b.ht ≤ 799 := by have := PT.ht_nn a; have := PT.ht_nn b; simp only [PT.ht] at h8; omega
  have hba : a.bal := hb.1
  have hbb : b.bal := hb.2.1
  have hmv : vld (minP b y) := bb.v _ (min_mem b y (by have := PT.ht_nn b; omega))
  have hsb : ∃ z ∈ b.flat, z.s = (minP b y).s := ⟨_, min_mem b y (by have := PT.ht_nn b; omega), rfl⟩
  have hi9 := (rem_bal b (minP b y).s hbb).2.2
  have hbp : 0 < b.ht := by have := PT.ht_nn b; omega
  clear h8 bp hb ho hs l1 l2
  go_enter Try.func41, Try.ntmps41
  go_upto_region 1 with fail
  refine name_wX (fun W1 hW => ?_)
  have hE : Ext w W1 := by rw [hW]; repeat' (first | exact Ext.refl _ | apply Ext.al)
  have b0 : Blk W1 (w.heap.size) 28 v.cs := by rw [hW]; exact (Blk.newAt rfl).alloc _
  have b1 : Blk W1 (w.heap.size + 1) 28 TV.z.cs := by rw [hW]; exact Blk.newAt (by simp)
  clear hW
  obtain ⟨r1, hr1⟩ : ∃ r, r = w.heap.size + 1 := ⟨_, rfl⟩
  rw [← hr1] at b1
  try rw [← hr1]
  obtain ⟨r0, hr0⟩ : ∃ r, r = w.heap.size := ⟨_, rfl⟩
  rw [← hr0] at b0
  try rw [← hr0]
  have q0 : w.heap.size ≤ r0 := by omega
  have q1 : r0 < r1 := by omega
  clear hr0 hr1
  have qz : r1 < W1.heap.size := b1.lt
  have tv := isT.ext hE (isT.lw ht)
  clear ht
  refine wp_region_lit ?_
  refine wpList_plain rfl (fun K hK => ?_); (first | (refine wp_ld 28 _ (b0.range) (by rfl) (by rfl) Try.underlying28 rfl (by exact Try.infoT) ?_)); (try dsimp only); refine hK _ _ ?_; clear hK K; (try simp only [Act.put, Zs, Zz, Zc])
  refine wpList_plain rfl (fun K hK => ?_); go_simp; (go_at_call 52; refine (parts_P (A := Lw A w.heap.size) _ _ _ _ _ tv).mono ?_; intro e W2 hpp; obtain ⟨va, vb, rfl, ta, tb, hx⟩ := hpp); (try dsimp only); refine hK _ _ ?_; clear hK K; (try simp only [Act.put, Zs, Zz, Zc])
  replace b0 := b0.ext hx
  replace b1 := b1.ext hx
  replace tv := isT.ext hx tv
  replace ta := isT.ext hx ta
  replace tb := isT.ext hx tb
  replace hE := hE.trans hx
  clear hx
  replace qz : r1 < W2.heap.size := b1.lt
  iterate 5 (refine wpList_plain rfl (fun K hK => ?_); go_simp; (try dsimp only); refine hK _ _ ?_; clear hK K; (try simp only [Act.put, Zs, Zz, Zc]))
  refine name_wl (fun W3 hW => ?_)
  have hx : Ext W2 W3 := by rw [hW]; exact ext_alloc _ _
  have b2 : Blk W3 W2.heap.size 28 TV.z.cs := by rw [hW]; exact Blk.newAt rfl
  clear hW
  replace b0 := b0.ext hx
  replace b1 := b1.ext hx
  replace tv := isT.ext hx tv
  replace ta := isT.ext hx ta
  replace tb := isT.ext hx tb
  replace hE := hE.trans hx
  clear hx
  obtain ⟨r2, hr⟩ : ∃ r, r = W2.heap.size := ⟨_, rfl⟩
  rw [← hr] at b2
  try rw [← hr]
  have q2 : r1 < r2 := by omega
  clear hr
  replace qz : r2 < W3.heap.size := b2.lt
  refine wpList_plain rfl (fun K hK => ?_); go_simp; (try dsimp only); refine hK _ _ ?_; clear hK K; (try simp only [Act.put, Zs, Zz, Zc])
  refine name_wl (fun W4 hW => ?_)
  have hx : Ext W3 W4 := by rw [hW]; exact ext_alloc _ _
  have b3 : Blk W4 W3.heap.size 25 RV.z.cs := by rw [hW]; exact Blk.newAt rfl
  clear hW
  replace b0 := b0.ext hx
  replace b1 := b1.ext hx
  replace b2 := b2.ext hx
  replace tv := isT.ext hx tv
  replace ta := isT.ext hx ta
  replace tb := isT.ext hx tb
  replace hE := hE.trans hx
  clear hx
  obtain ⟨r3, hr⟩ : ∃ r, r = W3.heap.size := ⟨_, rfl⟩
  rw [← hr] at b3
  try rw [← hr]
  have q3 : r2 < r3 := by omega
  clear hr
  replace qz : r3 < W4.heap.size := b3.lt
  refine wpList_plain rfl (fun K hK => ?_); go_simp; (try dsimp only); refine hK _ _ ?_; clear hK K; (try simp only [Act.put, Zs, Zz, Zc])
  refine name_wl (fun W5 hW => ?_)
  have hx : Ext W4 W5 := by rw [hW]; exact ext_alloc _ _
  have b4 : Blk W5 W4.heap.size 28 TV.z.cs := by rw [hW]; exact Blk.newAt rfl
  clear hW
  replace b0 := b0.ext hx
  replace b1 := b1.ext hx
  replace b2 := b2.ext hx
  replace b3 := b3.ext hx
  replace tv := isT.ext hx tv
  replace ta := isT.ext hx ta
  replace tb := isT.ext hx tb
  replace hE := hE.trans hx
  clear hx
  obtain ⟨r4, hr⟩ : ∃ r, r = W4.heap.size := ⟨_, rfl⟩
  rw [← hr] at b4
  try rw [← hr]
  have q4 : r3 < r4 := by omega
  clear hr
  replace qz : r4 < W5.heap.size := b4.lt
  refine wpList_plain rfl (fun K hK => ?_)
  refine wp_store_box 28 _ _ (by rfl) b2 (by rfl) (by rfl) (by exact Try.infoT) (by first | exact RV.one _ | exact TV.one _ rfl | exact TV.one _ (isT.one tv) | exact TV.one _ (isT.one ta) | exact TV.one _ (isT.one tb)) (by rfl) (fun W6 hg bn => ?_)
  replace b0 := b0.kept hg (Zn (by omega))
  replace b1 := b1.kept hg (Zn (by omega))
  replace b3 := b3.kept hg (Zn (by omega))
  replace b4 := b4.kept hg (Zn (by omega))
  replace tv := isT.kept hg (Lw.not (by omega)) tv
  replace ta := isT.kept hg (Lw.not (by omega)) ta
  replace tb := isT.kept hg (Lw.not (by omega)) tb
  replace hE := ext_grow hE hg (fun q hq => by cases hq; omega)
  clear b2 hg
  have b2 := bn
  clear bn
  (try dsimp only); refine hK _ _ ?_; clear hK K; (try simp only [Act.put, Zs, Zz, Zc])
  replace qz : r4 < W6.heap.size := b4.lt
  refine wpList_plain rfl (fun K hK => ?_)
  refine wp_store_box 25 _ _ (by rfl) b3 (by rfl) (by rfl) (by exact Try.infoR) (by first | exact RV.one _ | exact TV.one _ rfl | exact TV.one _ (isT.one tv) | exact TV.one _ (isT.one ta) | exact TV.one _ (isT.one tb)) (by rfl) (fun W7 hg bn => ?_)
  replace b0 := b0.kept hg (Zn (by omega))
  replace b1 := b1.kept hg (Zn (by omega))
  replace b2 := b2.kept hg (Zn (by omega))
  replace b4 := b4.kept hg (Zn (by omega))
  replace tv := isT.kept hg (Lw.not (by omega)) tv
  replace ta := isT.kept hg (Lw.not (by omega)) ta
  replace tb := isT.kept hg (Lw.not (by omega)) tb
  replace hE := ext_grow hE hg (fun q hq => by cases hq; omega)
  clear b3 hg
  have b3 := bn
  clear bn
  (try dsimp only); refine hK _ _ ?_; clear hK K; (try simp only [Act.put, Zs, Zz, Zc])
  replace qz : r4 < W7.heap.size := b4.lt
  refine wpList_plain rfl (fun K hK => ?_)
  refine wp_store_box 28 _ _ (by rfl) b4 (by rfl) (by rfl) (by exact Try.infoT) (by first | exact RV.one _ | exact TV.one _ rfl | exact TV.one _ (isT.one tv) | exact TV.one _ (isT.one ta) | exact TV.one _ (isT.one tb)) (by rfl) (fun W8 hg bn => ?_)
  replace b0 := b0.kept hg (Zn (by omega))
  replace b1 := b1.kept hg (Zn (by omega))
  replace b2 := b2.kept hg (Zn (by omega))
  replace b3 := b3.kept hg (Zn (by omega))
  replace tv := isT.kept hg (Lw.not (by omega)) tv
  replace ta := isT.kept hg (Lw.not (by omega)) ta
  replace tb := isT.kept hg (Lw.not (by omega)) tb
  replace hE := ext_grow hE hg (fun q hq => by cases hq; omega)
  clear b4 hg
  have b4 := bn
  clear bn
  (try dsimp only); refine hK _ _ ?_; clear hK K; (try simp only [Act.put, Zs, Zz, Zc])
  replace qz : r4 < W8.heap.size := b4.lt
  refine wpList_nil ?_
  go_upto_region 2 with fail
  refine wp_region_lit ?_
  iterate 2 (refine wpList_plain rfl (fun K hK => ?_); go_simp; (try dsimp only); refine hK _ _ ?_; clear hK K; (try simp only [Act.put, Zs, Zz, Zc]))
  refine wpList_plain rfl (fun K hK => ?_); have zc := b3.cell 0; go_simp; clear zc; (try dsimp only); refine hK _ _ ?_; clear hK K; (try simp only [Act.put, Zs, Zz, Zc])
  refine wpList_plain rfl (fun K hK => ?_); go_simp; (try simp (disch := omega) only [Yq, Yr]); (try dsimp only); refine hK _ _ ?_; clear hK K; (try simp only [Act.put, Zs, Zz, Zc])
  refine wpList_plain rfl (fun K hK => ?_); go_simp; (try dsimp only); refine hK _ _ ?_; clear hK K; (try simp only [Act.put, Zs, Zz, Zc])
  refine wpList_nil ?_
  go_upto_region 4 with fail
  refine wp_region_lit ?_
  iterate 2 (refine wpList_plain rfl (fun K hK => ?_); go_simp; (try dsimp only); refine hK _ _ ?_; clear hK K; (try simp only [Act.put, Zs, Zz, Zc]))
  refine wpList_plain rfl (fun K hK => ?_); have zc := b3.cell 0; go_simp; clear zc; (try dsimp only); refine hK _ _ ?_; clear hK K; (try simp only [Act.put, Zs, Zz, Zc])
  refine wpList_plain rfl (fun K hK => ?_); go_simp; (try simp (disch := omega) only [Yq, Yr]); (try dsimp only); refine hK _ _ ?_; clear hK K; (try simp only [Act.put, Zs, Zz, Zc])
  refine wpList_plain rfl (fun K hK => ?_); go_simp; (try dsimp only); refine hK _ _ ?_; clear hK K; (try simp only [Act.put, Zs, Zz, Zc])
  refine wpList_nil ?_
  go_upto_region 6 with fail
  have hz : (va.h == 0) = false := by have := (isP_num ta).1; simp; omega
  have hz2 : (vb.h == 0) = false := by have := (isP_num tb).1; simp; omega
  refine wp_region_lit ?_
  refine wpList_plain rfl (fun K hK => ?_); go_simp; (try dsimp only); refine hK _ _ ?_; clear hK K; (try simp only [Act.put, Zs, Zz, Zc])
  refine wpList_plain rfl (fun K hK => ?_); have zc := b2.cell 0; go_simp; clear zc; (try dsimp only); refine hK _ _ ?_; clear hK K; (try simp only [Act.put, Zs, Zz, Zc])
  refine wpList_plain rfl (fun K hK => ?_); go_simp; (try simp (disch := omega) only [Yq, Yr]); (try dsimp only); refine hK _ _ ?_; clear hK K; (try simp only [Act.put, Zs, Zz, Zc])
  refine wpList_plain rfl (fun K hK => ?_); go_simp; (try dsimp only); refine hK _ _ ?_; clear hK K; (try simp only [Act.put, Zs, Zz, Zc])
  refine wpList_nil ?_
  go_upto_region 8 with fail
  refine wp_region_lit ?_
  refine wpList_plain rfl (fun K hK => ?_); go_simp; (try dsimp only); refine hK _ _ ?_; clear hK K; (try simp only [Act.put, Zs, Zz, Zc])
  refine wpList_plain rfl (fun K hK => ?_); have zc := b4.cell 0; go_simp; clear zc; (try dsimp only); refine hK _ _ ?_; clear hK K; (try simp only [Act.put, Zs, Zz, Zc])
  refine wpList_plain rfl (fun K hK => ?_); go_simp; (try simp (disch := omega) only [Yq, Yr]); (try dsimp only); refine hK _ _ ?_; clear hK K; (try simp only [Act.put, Zs, Zz, Zc])
  refine wpList_plain rfl (fun K hK => ?_); go_simp; (try dsimp only); refine hK _ _ ?_; clear hK K; (try simp only [Act.put, Zs, Zz, Zc])
  refine wpList_nil ?_
  go_upto_region 10 with fail
  refine wp_region_lit ?_
  refine wpList_plain rfl (fun K hK => ?_); (first | (refine wp_ld 28 _ (b4.range) (by rfl) (by rfl) Try.underlying28 rfl (by exact Try.infoT) ?_)); (try dsimp only); refine hK _ _ ?_; clear hK K; (try simp only [Act.put, Zs, Zz, Zc])
  refine wpList_plain rfl (fun K hK => ?_); go_simp; (try dsimp only); refine hK _ _ ?_; clear hK K; (try simp only [Act.put, Zs, Zz, Zc])
  refine name_wl (fun W9 hW => ?_)
  have hx : Ext W8 W9 := by rw [hW]; exact ext_alloc _ _
  have b5 : Blk W9 W8.heap.size 28 TV.z.cs := by rw [hW]; exact Blk.newAt rfl
  clear hW
  replace b0 := b0.ext hx
  replace b1 := b1.ext hx
  replace b2 := b2.ext hx
  replace b3 := b3.ext hx
  replace b4 := b4.ext hx
  replace tv := isT.ext hx tv
  replace ta := isT.ext hx ta
  replace tb := isT.ext hx tb
  replace hE := hE.trans hx
  clear hx
  obtain ⟨r5, hr⟩ : ∃ r, r = W8.heap.size := ⟨_, rfl⟩
  rw [← hr] at b5
  try rw [← hr]
  have q5 : r4 < r5 := by omega
  clear hr
  replace qz : r5 < W9.heap.size := b5.lt
  refine wpList_plain rfl (fun K hK => ?_)
  refine wp_store_box 28 _ _ (by rfl) b5 (by rfl) (by rfl) (by exact Try.infoT) (by first | exact RV.one _ | exact TV.one _ rfl | exact TV.one _ (isT.one tv) | exact TV.one _ (isT.one ta) | exact TV.one _ (isT.one tb)) (by rfl) (fun W10 hg bn => ?_)
  replace b0 := b0.kept hg (Zn (by omega))
  replace b1 := b1.kept hg (Zn (by omega))
  replace b2 := b2.kept hg (Zn (by omega))
  replace b3 := b3.kept hg (Zn (by omega))
  replace b4 := b4.kept hg (Zn (by omega))
  replace tv := isT.kept hg (Lw.not (by omega)) tv
  replace ta := isT.kept hg (Lw.not (by omega)) ta
  replace tb := isT.kept hg (Lw.not (by omega)) tb
  replace hE := ext_grow hE hg (fun q hq => by cases hq; omega)
  clear b5 hg
  have b5 := bn
  clear bn
  (try dsimp only); refine hK _ _ ?_; clear hK K; (try simp only [Act.put, Zs, Zz, Zc])
  replace qz : r5 < W10.heap.size := b5.lt
  refine wpList_nil ?_
  go_wp2_with fail
  go_loopw [48] (fun _ wr => ∃ (l : PT) (z : RV) (r : PT) (vm : TV), Blk wr r0 28 v.cs ∧ Blk wr r1 28 TV.z.cs ∧ Blk wr r2 28 va.cs ∧ Blk wr r3 25 y.cs ∧ Blk wr r4 28 vb.cs ∧ Blk wr r5 28 vm.cs ∧ isT (Lw A w.heap.size) wr (PT.N l z r).bt vm ∧ isT (Lw A w.heap.size) wr a.bt va ∧ isT (Lw A w.heap.size) wr b.bt vb ∧ Ext w wr ∧ minP (.N l z r) y = minP b y) (fun _ wr => cellInt' wr r5)
  case atStart =>
    cases b with
    | E => simp [PT.ht] at hbp
    | N l z r => exact ⟨l, z, r, vb, b0, b1, b2, b3, b4, b5, tb, ta, tb, hE, rfl⟩
  case round =>
    clear b0 b1 b2 b3 b4 b5 ta tb tv hE qz
    obtain ⟨l, z, r, vm, b0, b1, b2, b3, b4, b5, tm, ta, tb, hE, HM⟩ := hrel
    replace HM : Hid (minP (.N l z r) y = minP b y) := HM
    obtain ⟨W0, rfl⟩ : ∃ W0, W0 = wr := ⟨_, rfl⟩
    have qz : r5 < W0.heap.size := b5.lt
    have HC : Hid (cellInt' W0 r5 = vm.h.toNat) := by show _ = _; unfold cellInt'; rw [b5.cell 0]; rfl
    have tm0 := tm
    obtain ⟨e1, e2, e3, e4, e5, e6, g, o, c, v1, v2, hk, hc, hgw, hAg, hra, hrb, tl, tr⟩ := tm
    have HK : Hid (vm.k = .slice (some ⟨g, o, none⟩) 2 c) := hk
    have HX : Hid (vm.x = z) := e5
    have HH : Hid (vm.h = (PT.N l z r).ht) := e1
    have hcI : (2 : Int) ≤ (c : Int) := by omega
    have hgr : g < w.heap.size := hAg.2
    clear e1 e2 e3 e4 e5 e6 hk
    have c10 : W0.cell? ⟨r5, 10, none⟩ = some (.slice (some ⟨g, o, none⟩) 2 c) := by rw [b5.cell 10, ← HK.out]; rfl
    have ch : W0.cell? ⟨g, o, none⟩ = some (.int .i64 v1.h) := hra 0 _ rfl
    by_cases hz3 : 0 < v1.h
    · have hl : ∃ l1 z1 r1, l = .N l1 z1 r1 := by
        cases l with
        | E => have h1 : v1.h = 0 := tl.1; omega
        | N l1 z1 r1 => exact ⟨l1, z1, r1, rfl⟩
      obtain ⟨l1, z1, rr1, rfl⟩ := hl
      clear tm0
      go_upto_region 11 with fail
      refine wp_region_lit ?_
      refine wpList_plain rfl (fun K hK => ?_); go_simp; (try dsimp only); refine hK _ _ ?_; clear hK K; (try simp only [Act.put, Zs, Zz, Zc])
      refine wpList_plain rfl (fun K hK => ?_); have zc := b5.cell 10; go_simp; clear zc; (try dsimp only); refine hK _ _ ?_; clear hK K; (try simp only [Act.put, Zs, Zz, Zc])
      iterate 3 (refine wpList_plain rfl (fun K hK => ?_); go_simp; (try dsimp only); refine hK _ _ ?_; clear hK K; (try simp only [Act.put, Zs, Zz, Zc]))
      refine wpList_plain rfl (fun K hK => ?_); go_simp; (try simp (disch := omega) only [Yq, Yr]); (try dsimp only); refine hK _ _ ?_; clear hK K; (try simp only [Act.put, Zs, Zz, Zc])
      refine wpList_nil ?_
      go_upto_region 12 with fail
      refine wp_region_lit ?_
      refine wpList_plain rfl (fun K hK => ?_); go_simp; (try dsimp only); refine hK _ _ ?_; clear hK K; (try simp only [Act.put, Zs, Zz, Zc])
      refine wpList_plain rfl (fun K hK => ?_); have zc := b5.cell 10; go_simp; clear zc; (try dsimp only); refine hK _ _ ?_; clear hK K; (try simp only [Act.put, Zs, Zz, Zc])
      refine wpList_plain rfl (fun K hK => ?_); go_simp; (try dsimp only); refine hK _ _ ?_; clear hK K; (try simp only [Act.put, Zs, Zz, Zc])
      refine wpList_plain rfl (fun K hK => ?_); (first | (refine wp_ld 28 _ (hra) (by rfl) (by rfl) Try.underlying28 rfl (by exact Try.infoT) ?_)); (try dsimp only); refine hK _ _ ?_; clear hK K; (try simp only [Act.put, Zs, Zz, Zc])
      refine wpList_plain rfl (fun K hK => ?_)
      refine wp_store_box 28 _ _ (by rfl) b5 (by rfl) (by rfl) (by exact Try.infoT) (by first | exact RV.one _ | exact TV.one _ rfl | exact TV.one _ (isT.one ta) | exact TV.one _ (isT.one tb) | exact RV.one _ | exact TV.one _ (isT.one tl)) (by rfl) (fun W101 hg bn => ?_)
      replace b0 := b0.kept hg (Zn (by omega))
      replace b1 := b1.kept hg (Zn (by omega))
      replace b2 := b2.kept hg (Zn (by omega))
      replace b3 := b3.kept hg (Zn (by omega))
      replace b4 := b4.kept hg (Zn (by omega))
      replace ta := isT.kept hg (Lw.not (by omega)) ta
      replace tb := isT.kept hg (Lw.not (by omega)) tb
      replace tl := isT.kept hg (Lw.not (by omega)) tl
      replace hra := rangeAt.kept hra hgw hg (Zn (by omega))
      replace hgw := Nat.lt_of_lt_of_le hgw hg.size
      replace hE := ext_grow hE hg (fun q hq => by cases hq; omega)
      clear b5 hg
      have b5 := bn
      clear bn
      (try dsimp only); refine hK _ _ ?_; clear hK K; (try simp only [Act.put, Zs, Zz, Zc])
      replace qz : r5 < W101.heap.size := b5.lt
      refine wpList_nil ?_
      go_wp2_with fail
      go_roundw
      case rel => exact ⟨l1, z1, rr1, v1, b0, b1, b2, b3, b4, b5, tl, ta, tb, hE, HM.out⟩
      case measure =>
        have h1 : cellInt' W101 r5 = v1.h.toNat := by unfold cellInt'; rw [b5.cell 0]; rfl
        have h2 := (isP_num tl).1
        have h3 := HH.out
        have h4 := PT.ht_nn (.N l1 z1 rr1)
        have h5 := PT.ht_nn r
        generalize (PT.N l1 z1 rr1) = L at h2 h3 h4
        simp only [PT.ht] at h3
        rw [h1, HC.out]
        omega
    · have hl : l = .E := by
        have h1 := (isP_num tl).1
        exact PT.ht_zero (by omega)
      subst hl
      have HZ : Hid (z = minP b y) := HM.out
      go_upto_region 11 with fail
      refine wp_region_lit ?_
      refine wpList_plain rfl (fun K hK => ?_); go_simp; (try dsimp only); refine hK _ _ ?_; clear hK K; (try simp only [Act.put, Zs, Zz, Zc])
      refine wpList_plain rfl (fun K hK => ?_); have zc := b5.cell 10; go_simp; clear zc; (try dsimp only); refine hK _ _ ?_; clear hK K; (try simp only [Act.put, Zs, Zz, Zc])
      iterate 3 (refine wpList_plain rfl (fun K hK => ?_); go_simp; (try dsimp only); refine hK _ _ ?_; clear hK K; (try simp only [Act.put, Zs, Zz, Zc]))
      refine wpList_plain rfl (fun K hK => ?_); go_simp; (try simp (disch := omega) only [Yq, Yr]); (try dsimp only); refine hK _ _ ?_; clear hK K; (try simp only [Act.put, Zs, Zz, Zc])
      refine wpList_nil ?_
      go_upto_region 13 with fail
      have hzx : vm.x = minP b y := HX.out.trans HZ.out
      have b5r : W0.rangeAt r5 4 (minP b y).cs := by rw [← hzx]; exact Blk.rgn b5
      have b5x : Blk W0 r5 28 (TV.cs ⟨vm.h, vm.f, vm.l, vm.g, minP b y, vm.k⟩) := by rw [← hzx]; exact b5
      clear b5
      have b5 := b5x
      clear b5x hzx c10 ch tm0
      obtain ⟨m, hm, hm2⟩ : ∃ m, r5 < m ∧ m = W0.heap.size := ⟨_, qz, rfl⟩
      have hm3 : m ≤ W0.heap.size := by omega
      clear hm2
      have x0 := b0
      have x1 := b1
      have x2 := b2
      have x3 := b3
      have x4 := b4
      have x5 := b5
      have hS : GrownX W0 [r1] W0 := GrownX.refl _ _
      refine wp_region_S (GrownX W0 [r1]) (by kernel_rfl) ?_
      refine name_wd (fun W101 hW => ?_)
      have hx : Ext W0 W101 := by rw [hW]; exact ext_drew _
      clear hW
      replace hS := hS.ext hx
      replace b0 := b0.ext hx
      replace b1 := b1.ext hx
      replace b2 := b2.ext hx
      replace b3 := b3.ext hx
      replace b4 := b4.ext hx
      replace b5 := b5.ext hx
      replace ta := isT.ext hx ta
      replace tb := isT.ext hx tb
      replace hm3 := Nat.le_trans hm3 hx.below.size
      replace hE := hE.trans hx
      clear hx
      replace qz : r5 < W101.heap.size := b5.lt
      refine wpAnyD_takeSL (i := 0) rfl (by kernel_rfl) (fun _ _ _ _ h => h) hS ?_
      apply Exists.intro
      refine ⟨Or.inl ⟨by rfl, ?_⟩, ?_⟩
      (focus (intro wz hz; (first | exact exec_ld 28 _ rfl rfl ((GrownX.blk hz x2 (by first | decide | (simp; done) | (simp; omega) | omega)).range) Try.underlying28 rfl (by exact Try.infoT))))
      (try simp only [Act.put, Zs, Zz, Zc])
      refine wpAnyD_takeSL (i := 1) rfl (by kernel_rfl) (fun _ _ _ _ h => h) hS ?_
      apply Exists.intro
      refine ⟨Or.inl ⟨by rfl, ?_⟩, ?_⟩
      (focus (intro wz hz; go_simp; (try with_reducible rfl); done))
      (try simp only [Act.put, Zs, Zz, Zc])
      refine wpAnyD_takeSL (i := 2) rfl (by kernel_rfl) (fun _ _ _ _ h => h) hS ?_
      apply Exists.intro
      refine ⟨Or.inl ⟨by rfl, ?_⟩, ?_⟩
      (focus (intro wz hz; (first | exact exec_ld 25 _ rfl rfl (Blk.rgn (GrownX.blk hz x5 (by first | decide | (simp; done) | (simp; omega) | omega))) Try.underlying25 rfl (by exact Try.infoR))))
      (try simp only [Act.put, Zs, Zz, Zc])
      refine wpAnyD_takeSL (i := 3) rfl (by kernel_rfl) (fun _ _ _ _ h => h) hS ?_
      apply Exists.intro
      refine ⟨Or.inl ⟨by rfl, ?_⟩, ?_⟩
      (focus (intro wz hz; (first | exact exec_ld 28 _ rfl rfl ((GrownX.blk hz x4 (by first | decide | (simp; done) | (simp; omega) | omega)).range) Try.underlying28 rfl (by exact Try.infoT))))
      (try simp only [Act.put, Zs, Zz, Zc])
      refine wpAnyD_takeSL (i := 4) rfl (by kernel_rfl) (fun _ _ _ _ h => h) hS ?_
      apply Exists.intro
      refine ⟨Or.inl ⟨by rfl, ?_⟩, ?_⟩
      (focus (intro wz hz; go_simp; (try with_reducible rfl); done))
      (try simp only [Act.put, Zs, Zz, Zc])
      refine wpAnyD_takeSL (i := 5) rfl (by kernel_rfl) (fun _ _ _ _ h => h) hS ?_
      apply Exists.intro
      refine ⟨Or.inl ⟨by rfl, ?_⟩, ?_⟩
      (focus (intro wz hz; go_simp; (try with_reducible rfl); done))
      (try simp only [Act.put, Zs, Zz, Zc])
      refine wpAnyD_takeSL (i := 6) rfl (by kernel_rfl) (fun _ _ _ _ h => h) hS ?_
      apply Exists.intro
      refine ⟨Or.inl ⟨by rfl, ?_⟩, ?_⟩
      (focus (intro wz hz; have zc := (GrownX.blk hz x5 (by first | decide | (simp; done) | (simp; omega) | omega)).cell 4; go_simp; (try with_reducible rfl); done))
      (try simp only [Act.put, Zs, Zz, Zc])
      refine wpAnyD_oneL (i := 7) rfl (by kernel_rfl) (fun K hK => ?_)
      rw [if_pos (by rfl)]
      go_simp
      (go_at_call 41; refine (ihb (Lo A w.heap.size m) (minP b y).s _ _ (Up.lo hA hE hm3) tb.up bb hbb ob (by omega) hsb).mono ?_; intro e W102 hpp; obtain ⟨w1, rfl, t1, hx⟩ := hpp)
      replace hS := hS.ext hx; (try dsimp only); refine hK.out _ _ (fun _ => hS) ?_; clear hK K; (try simp only [Act.put, Zs, Zz, Zc])
      replace b0 := b0.ext hx
      replace b1 := b1.ext hx
      replace b2 := b2.ext hx
      replace b3 := b3.ext hx
      replace b4 := b4.ext hx
      replace b5 := b5.ext hx
      replace ta := isT.ext hx ta
      replace tb := isT.ext hx tb
      replace hm3 := Nat.le_trans hm3 hx.below.size
      replace hE := hE.trans hx
      clear hx
      replace qz : r5 < W102.heap.size := b5.lt
      refine wpAnyD_oneL (i := 8) rfl (by kernel_rfl) (fun K hK => ?_)
      rw [if_pos (by rfl)]
      go_simp
      (go_at_call 53; refine (join_P (A := Lo A w.heap.size m) (a) (minP b y) (remP b (minP b y).s) _ _ _ (Up.lo hA hE hm3) ta.up t1 hmv ba (bd_rem bb ob hbb) (by omega)).mono ?_; intro e W103 hpp; obtain ⟨w2, rfl, t2, hx⟩ := hpp)
      replace hS := hS.ext hx; (try dsimp only); refine hK.out _ _ (fun _ => hS) ?_; clear hK K; (try simp only [Act.put, Zs, Zz, Zc])
      replace b0 := b0.ext hx
      replace b1 := b1.ext hx
      replace b2 := b2.ext hx
      replace b3 := b3.ext hx
      replace b4 := b4.ext hx
      replace b5 := b5.ext hx
      replace ta := isT.ext hx ta
      replace tb := isT.ext hx tb
      replace hm3 := Nat.le_trans hm3 hx.below.size
      replace t1 := isT.ext hx t1
      replace hE := hE.trans hx
      clear hx
      replace qz : r5 < W103.heap.size := b5.lt
      refine wpAnyD_oneL (i := 9) rfl (by kernel_rfl) (fun K hK => ?_)
      rw [if_pos (by rfl)]
      refine wp_store_box 28 _ _ (by rfl) b1 (by rfl) (by rfl) (by exact Try.infoT) (by first | exact RV.one _ | exact TV.one _ rfl | exact TV.one _ (isT.one ta) | exact TV.one _ (isT.one tb) | exact RV.one _ | exact TV.one _ (isT.one t1) | exact TV.one _ (isT.one t2)) (by rfl) (fun W104 hg bn => ?_)
      replace b0 := b0.kept hg (Zn (by omega))
      replace b2 := b2.kept hg (Zn (by omega))
      replace b3 := b3.kept hg (Zn (by omega))
      replace b4 := b4.kept hg (Zn (by omega))
      replace b5 := b5.kept hg (Zn (by omega))
      replace ta := isT.kept hg (Lw.not (by omega)) ta
      replace tb := isT.kept hg (Lw.not (by omega)) tb
      replace hm3 := Nat.le_trans hm3 hg.size
      replace t1 := isT.kept hg (Lo.not (by omega) (by omega)) t1
      replace t2 := isT.kept hg (Lo.not (by omega) (by omega)) t2
      replace hE := ext_grow hE hg (fun q hq => by cases hq; omega)
      replace hS := hS.step hg (by first | decide | (simp; done) | (simp; omega) | omega)
      clear b1 hg
      have b1 := bn
      clear bn
      (try dsimp only); refine hK.out _ _ (fun _ => hS) ?_; clear hK K; (try simp only [Act.put, Zs, Zz, Zc])
      replace qz : r5 < W104.heap.size := b5.lt
      refine wpAnyD_done (by kernel_rfl) ?_ _
      clear hS x0 x1 x2 x3 x4 x5
      go_wp2_with fail
      exact bodyPost_ret (res_c rfl (GivesC.of b1 rfl Try.underlying28 rfl Try.infoT)) rfl ⟨w2, rfl, t2.hi, hE⟩
theorem rem_P : ∀ p : PT, RemOK p
  | .E => fun A s v w hA ht bp hb ho h8 ⟨z, hz, _⟩ => by cases hz
  | .N a y b => by
    intro A s v w hA ht bp hb ho h8 hs
    unfold remP
    by_cases c1 : s < y.s
    · rw [if_pos c1]; exact rem_a (rem_P a) (rem_P b) A s v w hA ht bp hb ho h8 hs c1
    · rw [if_neg c1]
      by_cases c2 : y.s < s
      · rw [if_pos c2]; exact rem_b (rem_P a) (rem_P b) A s v w hA ht bp hb ho h8 hs c1 c2
      · rw [if_neg c2]
        by_cases c3 : a.ht = 0
        · rw [if_pos c3]; exact rem_0 (rem_P a) (rem_P b) A s v w hA ht bp hb ho h8 hs c1 c2 c3
        · rw [if_neg c3]
          by_cases c4 : b.ht = 0
          · rw [if_pos c4]; exact rem_1 (rem_P a) (rem_P b) A s v w hA ht bp hb ho h8 hs c1 c2 c3 c4
          · rw [if_neg c4]; exact rem_2 (rem_P a) (rem_P b) A s v w hA ht bp hb ho h8 hs c1 c2 c3 c4

end Go.Proofs.Ytnbohogkfdeddaa
