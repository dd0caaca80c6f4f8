/- Rangetree: after. -/
import Derived.Test.YtnbohogkfdeddaaRtg
set_option linter.unusedSimpArgs false
set_option linter.unusedVariables false
namespace Go.Proofs.Ytnbohogkfdeddaa
open Go.RowKit

def bestR (o : Option RV) : RV := match o with
  | some y => y
  | none => RV.z
def orR (o : Option RV) (f : Bool) (b : RV) : Option RV := match o with
  | some y => some y
  | none => if f then some b else none
theorem orR_hit {a : PT} {x : RV} {b : PT} {pg : Int} {f : Bool} {y : RV} (h : pg < x.e) : orR (aftP (.N a x b) pg) f y = orR (aftP a pg) true x := by
  have e : aftP (.N a x b) pg = (match aftP a pg with | some y => some y | none => some x) := by rw [aftP, if_pos h]; cases aftP a pg <;> rfl
  rw [e]
  cases aftP a pg <;> simp [orR]
theorem orR_miss {a : PT} {x : RV} {b : PT} {pg : Int} {f : Bool} {y : RV} (h : ¬ pg < x.e) : orR (aftP (.N a x b) pg) f y = orR (aftP b pg) f y := by
  have e : aftP (.N a x b) pg = aftP b pg := by rw [aftP, if_neg h]
  rw [e]
theorem orR_start (o : Option RV) : orR o false RV.z = o := by cases o <;> simp [orR]
def cellInt (w : World) (r : Nat) : Nat := match w.cell? ⟨r, 0, none⟩ with
  | some v => (intOf v).toNat
  | none => 0

set_option maxRecDepth 100000 in
set_option maxHeartbeats 4000000 in
theorem aft_P {A : Nat → Prop} (p : PT) (pg : Int) (v : TV) (w : World) (ht : isT A w p.bt v) (bp : ∀ x ∈ p.flat, vld x) :
    Calls Try.prog 34 #[.agg v.cs.toArray, .int .i64 pg] w fun e w' => e = .returned (.tuple #[.agg (bestR (aftP p pg)).cs.toArray, .bool (aftP p pg).isSome]) ∧ Ext w w' := by
  go_enter Try.func34, Try.ntmps34
  go_upto_region 1 with fail
  refine name_wX (fun W1 hW => ?_)
  have hE : Ext w W1 := by rw [hW]; repeat' (first | exact Ext.refl _ | apply Ext.al)
  have b0 : Blk W1 (w.heap.size) 28 v.cs := by rw [hW]; exact (Blk.newAt rfl).alloc _
  have b1 : Blk W1 (w.heap.size + 1) 25 RV.z.cs := by rw [hW]; exact Blk.newAt (by simp)
  clear hW
  obtain ⟨r1, hr1⟩ : ∃ r, r = w.heap.size + 1 := ⟨_, rfl⟩
  rw [← hr1] at b1
  try rw [← hr1]
  obtain ⟨r0, hr0⟩ : ∃ r, r = w.heap.size := ⟨_, rfl⟩
  rw [← hr0] at b0
  try rw [← hr0]
  have q0 : w.heap.size ≤ r0 := by omega
  have q1 : r0 < r1 := by omega
  clear hr0 hr1
  have qz : r1 < W1.heap.size := b1.lt
  have tv := isT.ext hE (isT.lw ht)
  clear ht
  go_upto_region 1 with fail
  refine wp_region_lit ?_
  refine wpList_plain rfl (fun K hK => ?_); go_simp; (try dsimp only); refine hK _ _ ?_; clear hK K; (try simp only [Act.put, Zs, Zz, Zc])
  refine name_wl (fun W2 hW => ?_)
  have hx : Ext W1 W2 := by rw [hW]; exact ext_alloc _ _
  have b2 : Blk W2 W1.heap.size 25 RV.z.cs := by rw [hW]; exact Blk.newAt rfl
  clear hW
  replace b0 := b0.ext hx
  replace b1 := b1.ext hx
  replace tv := isT.ext hx tv
  replace hE := hE.trans hx
  clear hx
  obtain ⟨r2, hr⟩ : ∃ r, r = W1.heap.size := ⟨_, rfl⟩
  rw [← hr] at b2
  try rw [← hr]
  have q2 : r1 < r2 := by omega
  clear hr
  replace qz : r2 < W2.heap.size := b2.lt
  refine wpList_nil ?_
  go_upto_region 2 with fail
  refine wp_region_lit ?_
  refine wpList_plain rfl (fun K hK => ?_); go_simp; (try dsimp only); refine hK _ _ ?_; clear hK K; (try simp only [Act.put, Zs, Zz, Zc])
  refine wpList_nil ?_
  go_wp2_with fail
  go_loopw [7] (fun vf wr => ∃ (p2 : PT) (v2 : TV) (best : RV) (f : Bool), vf = .bool f ∧ Blk wr r0 28 v2.cs ∧ Blk wr r1 25 RV.z.cs ∧ Blk wr r2 25 best.cs ∧ isT (Lw A w.heap.size) wr p2.bt v2 ∧ Ext w wr ∧ (∀ x ∈ p2.flat, vld x) ∧ orR (aftP p2 pg) f best = aftP p pg ∧ (f = false → best = RV.z)) (fun _ wr => cellInt wr r0)
  case atStart => exact ⟨p, v, RV.z, false, rfl, b0, b1, b2, tv, hE, bp, orR_start _, fun _ => rfl⟩
  case round =>
    clear b0 b1 b2 tv hE qz
    obtain ⟨p2, v2, best, f, rfl, b0, b1, b2, tv, hE, bp2, HR, HF⟩ := hrel
    replace HR : Hid (orR (aftP p2 pg) f best = aftP p pg) := HR
    replace HF : Hid (f = false → best = RV.z) := HF
    obtain ⟨W0, rfl⟩ : ∃ W0, W0 = wr := ⟨_, rfl⟩
    have qz : r2 < W0.heap.size := b2.lt
    have HM : Hid (cellInt W0 r0 = v2.h.toNat) := by show _ = _; unfold cellInt; rw [b0.cell 0]; rfl
    by_cases hz : 0 < v2.h
    · have hp : ∃ a x b, p2 = .N a x b := by
        cases p2 with
        | E => have h1 : v2.h = 0 := tv.1; omega
        | N a x b => exact ⟨a, x, b, rfl⟩
      obtain ⟨a, x, b, rfl⟩ := hp
      obtain ⟨e1, e2, e3, e4, e5, e6, g, o, c, va, vb, hk, hc, hgw, hAg, hra, hrb, ta, tb⟩ := tv
      have hvx : vld x := (vld_node bp2).2.1
      have ga : ∀ y ∈ a.flat, vld y := (vld_node bp2).1
      have gb : ∀ y ∈ b.flat, vld y := (vld_node bp2).2.2
      have HK : Hid (v2.k = .slice (some ⟨g, o, none⟩) 2 c) := hk
      have HX : Hid (v2.x = x) := e5
      have HH : Hid (v2.h = (PT.N a x b).ht) := e1
      have hcI : (2 : Int) ≤ (c : Int) := by omega
      have hgr : g < w.heap.size := hAg.2
      clear e1 e2 e3 e4 e5 e6 hk bp2
      by_cases hcc : pg < x.e
      · have hcv : pg < v2.x.e := by rw [HX.out]; exact hcc
        go_upto_region 3 with fail
        refine wp_region_lit ?_
        refine wpList_plain rfl (fun K hK => ?_); go_simp; (try dsimp only); refine hK _ _ ?_; clear hK K; (try simp only [Act.put, Zs, Zz, Zc])
        refine wpList_plain rfl (fun K hK => ?_); have zc := b0.cell 0; go_simp; clear zc; (try dsimp only); refine hK _ _ ?_; clear hK K; (try simp only [Act.put, Zs, Zz, Zc])
        refine wpList_plain rfl (fun K hK => ?_); go_simp; (try simp (disch := omega) only [Yq, Yr]); (try dsimp only); refine hK _ _ ?_; clear hK K; (try simp only [Act.put, Zs, Zz, Zc])
        refine wpList_nil ?_
        go_upto_region 4 with fail
        refine wp_region_lit ?_
        refine wpList_plain rfl (fun K hK => ?_); go_simp; (try dsimp only); refine hK _ _ ?_; clear hK K; (try simp only [Act.put, Zs, Zz, Zc])
        refine wpList_plain rfl (fun K hK => ?_); (first | (refine wp_ld 25 _ (Blk.rgn b0) (by rfl) (by rfl) Try.underlying25 rfl (by exact Try.infoR) ?_)); (try dsimp only); refine hK _ _ ?_; clear hK K; (try simp only [Act.put, Zs, Zz, Zc])
        refine wpList_plain rfl (fun K hK => ?_); go_simp; (go_at_call 30; refine (end_any v2.x _ (by rw [HX.out]; exact hvx)).mono ?_; intro e W101 hpp; obtain ⟨rfl, hx⟩ := hpp); (try dsimp only); refine hK _ _ ?_; clear hK K; (try simp only [Act.put, Zs, Zz, Zc])
        replace b0 := b0.ext hx
        replace b1 := b1.ext hx
        replace b2 := b2.ext hx
        replace hra := rangeAt.ext hra hgw hx
        replace hrb := rangeAt.ext hrb hgw hx
        replace ta := isT.ext hx ta
        replace tb := isT.ext hx tb
        replace hgw := Nat.lt_of_lt_of_le hgw hx.below.size
        replace hE := hE.trans hx
        clear hx
        replace qz : r2 < W101.heap.size := b2.lt
        refine wpList_plain rfl (fun K hK => ?_); go_simp; (try dsimp only); refine hK _ _ ?_; clear hK K; (try simp only [Act.put, Zs, Zz, Zc])
        refine wpList_plain rfl (fun K hK => ?_); go_simp; (try simp (disch := omega) only [Yq, Yr]); (try dsimp only); refine hK _ _ ?_; clear hK K; (try simp only [Act.put, Zs, Zz, Zc])
        refine wpList_nil ?_
        go_upto_region 5 with fail
        refine wp_region_lit ?_
        refine wpList_plain rfl (fun K hK => ?_); go_simp; (try dsimp only); refine hK _ _ ?_; clear hK K; (try simp only [Act.put, Zs, Zz, Zc])
        refine wpList_plain rfl (fun K hK => ?_); (first | (refine wp_ld 25 _ (Blk.rgn b0) (by rfl) (by rfl) Try.underlying25 rfl (by exact Try.infoR) ?_)); (try dsimp only); refine hK _ _ ?_; clear hK K; (try simp only [Act.put, Zs, Zz, Zc])
        refine wpList_plain rfl (fun K hK => ?_)
        refine wp_store_box 25 _ _ (by rfl) b2 (by rfl) (by rfl) (by exact Try.infoR) (by first | exact RV.one _ | exact TV.one _ rfl | exact TV.one _ (isT.one ta) | exact TV.one _ (isT.one tb) | exact RV.one _) (by rfl) (fun W102 hg bn => ?_)
        replace b0 := b0.kept hg (Zn (by omega))
        replace b1 := b1.kept hg (Zn (by omega))
        replace hra := rangeAt.kept hra hgw hg (Zn (by omega))
        replace hrb := rangeAt.kept hrb hgw hg (Zn (by omega))
        replace ta := isT.kept hg (Lw.not (by omega)) ta
        replace tb := isT.kept hg (Lw.not (by omega)) tb
        replace hgw := Nat.lt_of_lt_of_le hgw hg.size
        replace hE := ext_grow hE hg (fun q hq => by cases hq; omega)
        clear b2 hg
        have b2 := bn
        clear bn
        (try dsimp only); refine hK _ _ ?_; clear hK K; (try simp only [Act.put, Zs, Zz, Zc])
        replace qz : r2 < W102.heap.size := b2.lt
        refine wpList_plain rfl (fun K hK => ?_); go_simp; (try dsimp only); refine hK _ _ ?_; clear hK K; (try simp only [Act.put, Zs, Zz, Zc])
        refine wpList_nil ?_
        go_upto_region 6 with fail
        have c10 : W102.cell? ⟨r0, 10, none⟩ = some (.slice (some ⟨g, o, none⟩) 2 c) := by rw [b0.cell 10, ← HK.out]; rfl
        refine wp_region_lit ?_
        refine wpList_plain rfl (fun K hK => ?_); go_simp; (try dsimp only); refine hK _ _ ?_; clear hK K; (try simp only [Act.put, Zs, Zz, Zc])
        refine wpList_plain rfl (fun K hK => ?_); have zc := b0.cell 10; go_simp; clear zc; (try dsimp only); refine hK _ _ ?_; clear hK K; (try simp only [Act.put, Zs, Zz, Zc])
        refine wpList_plain rfl (fun K hK => ?_); go_simp; (try dsimp only); refine hK _ _ ?_; clear hK K; (try simp only [Act.put, Zs, Zz, Zc])
        refine wpList_plain rfl (fun K hK => ?_); (first | (refine wp_ld 28 _ (hra) (by rfl) (by rfl) Try.underlying28 rfl (by exact Try.infoT) ?_) | (refine wp_ld 28 _ (hrb) (by rfl) (by rfl) Try.underlying28 rfl (by exact Try.infoT) ?_)); (try dsimp only); refine hK _ _ ?_; clear hK K; (try simp only [Act.put, Zs, Zz, Zc])
        refine wpList_plain rfl (fun K hK => ?_)
        refine wp_store_box 28 _ _ (by rfl) b0 (by rfl) (by rfl) (by exact Try.infoT) (by first | exact RV.one _ | exact TV.one _ rfl | exact TV.one _ (isT.one ta) | exact TV.one _ (isT.one tb) | exact RV.one _) (by rfl) (fun W103 hg bn => ?_)
        replace b1 := b1.kept hg (Zn (by omega))
        replace b2 := b2.kept hg (Zn (by omega))
        replace hra := rangeAt.kept hra hgw hg (Zn (by omega))
        replace hrb := rangeAt.kept hrb hgw hg (Zn (by omega))
        replace ta := isT.kept hg (Lw.not (by omega)) ta
        replace tb := isT.kept hg (Lw.not (by omega)) tb
        replace hgw := Nat.lt_of_lt_of_le hgw hg.size
        replace hE := ext_grow hE hg (fun q hq => by cases hq; omega)
        clear b0 hg
        have b0 := bn
        clear bn
        (try dsimp only); refine hK _ _ ?_; clear hK K; (try simp only [Act.put, Zs, Zz, Zc])
        replace qz : r2 < W103.heap.size := b2.lt
        refine wpList_nil ?_
        go_wp2_with fail
        go_roundw
        case rel => exact ⟨a, va, v2.x, true, rfl, b0, b1, b2, ta, hE, ga, by rw [HX.out, ← HR.out]; exact (orR_hit hcc).symm, fun h => by cases h⟩
        case measure =>
          have h1 : cellInt W103 r0 = va.h.toNat := by unfold cellInt; rw [b0.cell 0]; rfl
          have h2 := (isP_num ta).1
          have h3 := HH.out
          have h4 := PT.ht_nn a
          have h5 := PT.ht_nn b
          simp only [PT.ht] at h3
          rw [h1, HM.out]
          omega
      · have hcv : ¬ pg < v2.x.e := by rw [HX.out]; exact hcc
        go_upto_region 3 with fail
        refine wp_region_lit ?_
        refine wpList_plain rfl (fun K hK => ?_); go_simp; (try dsimp only); refine hK _ _ ?_; clear hK K; (try simp only [Act.put, Zs, Zz, Zc])
        refine wpList_plain rfl (fun K hK => ?_); have zc := b0.cell 0; go_simp; clear zc; (try dsimp only); refine hK _ _ ?_; clear hK K; (try simp only [Act.put, Zs, Zz, Zc])
        refine wpList_plain rfl (fun K hK => ?_); go_simp; (try simp (disch := omega) only [Yq, Yr]); (try dsimp only); refine hK _ _ ?_; clear hK K; (try simp only [Act.put, Zs, Zz, Zc])
        refine wpList_nil ?_
        go_upto_region 4 with fail
        refine wp_region_lit ?_
        refine wpList_plain rfl (fun K hK => ?_); go_simp; (try dsimp only); refine hK _ _ ?_; clear hK K; (try simp only [Act.put, Zs, Zz, Zc])
        refine wpList_plain rfl (fun K hK => ?_); (first | (refine wp_ld 25 _ (Blk.rgn b0) (by rfl) (by rfl) Try.underlying25 rfl (by exact Try.infoR) ?_)); (try dsimp only); refine hK _ _ ?_; clear hK K; (try simp only [Act.put, Zs, Zz, Zc])
        refine wpList_plain rfl (fun K hK => ?_); go_simp; (go_at_call 30; refine (end_any v2.x _ (by rw [HX.out]; exact hvx)).mono ?_; intro e W101 hpp; obtain ⟨rfl, hx⟩ := hpp); (try dsimp only); refine hK _ _ ?_; clear hK K; (try simp only [Act.put, Zs, Zz, Zc])
        replace b0 := b0.ext hx
        replace b1 := b1.ext hx
        replace b2 := b2.ext hx
        replace hra := rangeAt.ext hra hgw hx
        replace hrb := rangeAt.ext hrb hgw hx
        replace ta := isT.ext hx ta
        replace tb := isT.ext hx tb
        replace hgw := Nat.lt_of_lt_of_le hgw hx.below.size
        replace hE := hE.trans hx
        clear hx
        replace qz : r2 < W101.heap.size := b2.lt
        refine wpList_plain rfl (fun K hK => ?_); go_simp; (try dsimp only); refine hK _ _ ?_; clear hK K; (try simp only [Act.put, Zs, Zz, Zc])
        refine wpList_plain rfl (fun K hK => ?_); go_simp; (try simp (disch := omega) only [Yq, Yr]); (try dsimp only); refine hK _ _ ?_; clear hK K; (try simp only [Act.put, Zs, Zz, Zc])
        refine wpList_nil ?_
        go_upto_region 7 with fail
        have c10 : W101.cell? ⟨r0, 10, none⟩ = some (.slice (some ⟨g, o, none⟩) 2 c) := by rw [b0.cell 10, ← HK.out]; rfl
        refine wp_region_lit ?_
        refine wpList_plain rfl (fun K hK => ?_); go_simp; (try dsimp only); refine hK _ _ ?_; clear hK K; (try simp only [Act.put, Zs, Zz, Zc])
        refine wpList_plain rfl (fun K hK => ?_); have zc := b0.cell 10; go_simp; clear zc; (try dsimp only); refine hK _ _ ?_; clear hK K; (try simp only [Act.put, Zs, Zz, Zc])
        refine wpList_plain rfl (fun K hK => ?_); go_simp; (try dsimp only); refine hK _ _ ?_; clear hK K; (try simp only [Act.put, Zs, Zz, Zc])
        refine wpList_plain rfl (fun K hK => ?_); (first | (refine wp_ld 28 _ (hra) (by rfl) (by rfl) Try.underlying28 rfl (by exact Try.infoT) ?_) | (refine wp_ld 28 _ (hrb) (by rfl) (by rfl) Try.underlying28 rfl (by exact Try.infoT) ?_)); (try dsimp only); refine hK _ _ ?_; clear hK K; (try simp only [Act.put, Zs, Zz, Zc])
        refine wpList_plain rfl (fun K hK => ?_)
        refine wp_store_box 28 _ _ (by rfl) b0 (by rfl) (by rfl) (by exact Try.infoT) (by first | exact RV.one _ | exact TV.one _ rfl | exact TV.one _ (isT.one ta) | exact TV.one _ (isT.one tb) | exact RV.one _) (by rfl) (fun W102 hg bn => ?_)
        replace b1 := b1.kept hg (Zn (by omega))
        replace b2 := b2.kept hg (Zn (by omega))
        replace hra := rangeAt.kept hra hgw hg (Zn (by omega))
        replace hrb := rangeAt.kept hrb hgw hg (Zn (by omega))
        replace ta := isT.kept hg (Lw.not (by omega)) ta
        replace tb := isT.kept hg (Lw.not (by omega)) tb
        replace hgw := Nat.lt_of_lt_of_le hgw hg.size
        replace hE := ext_grow hE hg (fun q hq => by cases hq; omega)
        clear b0 hg
        have b0 := bn
        clear bn
        (try dsimp only); refine hK _ _ ?_; clear hK K; (try simp only [Act.put, Zs, Zz, Zc])
        replace qz : r2 < W102.heap.size := b2.lt
        refine wpList_nil ?_
        go_wp2_with fail
        go_roundw
        case rel => exact ⟨b, vb, best, f, rfl, b0, b1, b2, tb, hE, gb, by rw [← HR.out]; exact (orR_miss hcc).symm, HF.out⟩
        case measure =>
          have h1 : cellInt W102 r0 = vb.h.toNat := by unfold cellInt; rw [b0.cell 0]; rfl
          have h2 := (isP_num tb).1
          have h3 := HH.out
          have h4 := PT.ht_nn a
          have h5 := PT.ht_nn b
          simp only [PT.ht] at h3
          rw [h1, HM.out]
          omega
    · go_upto_region 3 with fail
      refine wp_region_lit ?_
      refine wpList_plain rfl (fun K hK => ?_); go_simp; (try dsimp only); refine hK _ _ ?_; clear hK K; (try simp only [Act.put, Zs, Zz, Zc])
      refine wpList_plain rfl (fun K hK => ?_); have zc := b0.cell 0; go_simp; clear zc; (try dsimp only); refine hK _ _ ?_; clear hK K; (try simp only [Act.put, Zs, Zz, Zc])
      refine wpList_plain rfl (fun K hK => ?_); go_simp; (try simp (disch := omega) only [Yq, Yr]); (try dsimp only); refine hK _ _ ?_; clear hK K; (try simp only [Act.put, Zs, Zz, Zc])
      refine wpList_nil ?_
      go_upto_region 8 with fail
      refine wp_region_lit ?_
      refine wpList_plain rfl (fun K hK => ?_); (first | (refine wp_ld 25 _ (b2.range) (by rfl) (by rfl) Try.underlying25 rfl (by exact Try.infoR) ?_)); (try dsimp only); refine hK _ _ ?_; clear hK K; (try simp only [Act.put, Zs, Zz, Zc])
      refine wpList_plain rfl (fun K hK => ?_); go_simp; (try dsimp only); refine hK _ _ ?_; clear hK K; (try simp only [Act.put, Zs, Zz, Zc])
      refine wpList_plain rfl (fun K hK => ?_)
      refine wp_store_box 25 _ _ (by rfl) b1 (by rfl) (by rfl) (by exact Try.infoR) (by first | exact RV.one _ | exact TV.one _ rfl) (by rfl) (fun W201 hg bn => ?_)
      replace b0 := b0.kept hg (Zn (by omega))
      replace b2 := b2.kept hg (Zn (by omega))
      replace hE := ext_grow hE hg (fun q hq => by cases hq; omega)
      clear b1 hg
      have b1 := bn
      clear bn
      (try dsimp only); refine hK _ _ ?_; clear hK K; (try simp only [Act.put, Zs, Zz, Zc])
      replace qz : r2 < W201.heap.size := b2.lt
      refine wpList_plain rfl (fun K hK => ?_); go_simp; (try dsimp only); refine hK _ _ ?_; clear hK K; (try simp only [Act.put, Zs, Zz, Zc])
      refine wpList_nil ?_
      go_wp2_with fail
      have hr : (bestR (aftP p pg)) = best ∧ (aftP p pg).isSome = f := by
        rw [← HR.out]
        have hpe : p2 = .E := by
          have h1 := (isP_num tv).1
          have h2 := PT.ht_nn p2
          exact PT.ht_zero (by omega)
        rw [hpe]
        cases f with
        | true => exact ⟨rfl, rfl⟩
        | false => exact ⟨(HF.out rfl).symm, rfl⟩
      exact bodyPost_ret (res_ct rfl (GivesC.of b1 rfl Try.underlying25 rfl Try.infoR) rfl) rfl ⟨by rw [hr.1, hr.2]; rfl, hE⟩

end Go.Proofs.Ytnbohogkfdeddaa
