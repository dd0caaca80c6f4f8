/- Rangetree: the reference: Build. -/
import Derived.Test.YtnbohogkfdeddaaRvb
import Derived.Test.YtnbohogkfdeddaaRuv
set_option linter.unusedSimpArgs false
set_option linter.unusedVariables false
namespace Go.Proofs.Ytnbohogkfdeddaa
open Go.RowKit

theorem bldF_err : ∀ (l : List RV) (p : PT) (last : Int), (bldF p last l).2 ≠ 0 → (bldF p last l).1 = .E
  | [], p, last, h => absurd rfl h
  | x :: l, p, last, h => by
    unfold bldF at h ⊢
    split
    · rfl
    · rename_i c
      rw [if_neg c] at h
      exact bldF_err l _ _ h
theorem BuildF_err (l : List RV) (h : (BuildF l).2 ≠ 0) : (BuildF l).1 = .E := by
  unfold BuildF at h ⊢
  split
  · rename_i c
    rw [if_pos c] at h
    exact bldF_err l _ _ h
  · rfl
theorem BuildF_ok (l : List RV) (h : (BuildF l).2 = 0) : BuildF l = bldF .E 0 l ∧ ∀ x ∈ l, vld x := by
  unfold BuildF at h ⊢
  split
  · rename_i c
    exact ⟨rfl, fun x hx => (vldB_iff x).1 (List.all_eq_true.1 c x hx)⟩
  · rename_i c
    rw [if_neg c] at h
    cases h
theorem bldF_ok {x : RV} {l : List RV} {p : PT} {last : Int} (h : (bldF p last (x :: l)).2 = 0) : ¬ x.s < last := by
  intro c
  rw [bldF, if_pos c] at h
  cases h

set_option maxRecDepth 100000 in
set_option maxHeartbeats 4000000 in
theorem rbuild_err {A : Nat → Prop} (l : List RV) (s : Value) (w : World) (hA : Up A w) (hs : isSl w s 6 l.length (rF l)) (hlen : l.length ≤ 1000) (h0 : (BuildF l).2 ≠ 0) :
    Calls Try.prog 13 #[s] w fun e w' => ∃ v', e = .returned (.tuple #[.agg v'.cs.toArray, .int .i64 (BuildF l).2]) ∧ isT A w' (BuildF l).1.bt v' ∧ Ext w w' := by
  obtain ⟨ad, c, rfl⟩ := sl_shape hs
  have HS : Hid (isSl w (.slice ad l.length c) 6 l.length (rF l)) := hs
  clear hs
  have hb0 : ((BuildF l).2 != 0) = true := by simp; exact h0
  replace h0 : Hid _ := h0
  go_enter Try.func13, Try.ntmps13
  go_upto_region 1 with fail
  refine name_wX (fun W1 hW => ?_)
  have hE : Ext w W1 := by rw [hW]; repeat' (first | exact Ext.refl _ | apply Ext.al)
  have b0 : Blk W1 (w.heap.size) 28 TV.z.cs := by rw [hW]; exact Blk.newAt rfl
  clear hW
  obtain ⟨r0, hr0⟩ : ∃ r, r = w.heap.size := ⟨_, rfl⟩
  rw [← hr0] at b0
  try rw [← hr0]
  have q0 : w.heap.size ≤ r0 := by omega
  clear hr0
  have qz : r0 < W1.heap.size := b0.lt
  go_upto_region 1 with fail
  refine wp_region_lit ?_
  refine wpList_plain rfl (fun K hK => ?_); go_simp; (try dsimp only); refine hK _ _ ?_; clear hK K; (try simp only [Act.put, Zs, Zz, Zc])
  refine wpList_plain rfl (fun K hK => ?_); go_simp; (go_at_call 32; refine (rlisted_any l _ _ (HS.out.ext hE) hlen).mono ?_; intro e W2 hpp; obtain ⟨rfl, hx⟩ := hpp); (try dsimp only); refine hK _ _ ?_; clear hK K; (try simp only [Act.put, Zs, Zz, Zc])
  replace b0 := b0.ext hx
  replace hE := hE.trans hx
  clear hx
  replace qz : r0 < W2.heap.size := b0.lt
  refine wpList_plain rfl (fun K hK => ?_); go_simp; (try dsimp only); refine hK _ _ ?_; clear hK K; (try simp only [Act.put, Zs, Zz, Zc])
  refine wpList_nil ?_
  go_upto_region 2 with fail
  refine wp_region_lit ?_
  refine wpList_plain rfl (fun K hK => ?_); go_simp; (try dsimp only); refine hK _ _ ?_; clear hK K; (try simp only [Act.put, Zs, Zz, Zc])
  refine wpList_plain rfl (fun K hK => ?_); go_simp; (try simp (disch := omega) only [Yq, Yr]); (try simp only [hb0]); (try dsimp only); refine hK _ _ ?_; clear hK K; (try simp only [Act.put, Zs, Zz, Zc])
  refine wpList_nil ?_
  go_upto_region 3 with fail
  refine wp_region_lit ?_
  iterate 2 (refine wpList_plain rfl (fun K hK => ?_); go_simp; (try dsimp only); refine hK _ _ ?_; clear hK K; (try simp only [Act.put, Zs, Zz, Zc]))
  refine wpList_plain rfl (fun K hK => ?_)
  refine wp_store_box 28 _ _ (by rfl) b0 (by rfl) (by rfl) (by exact Try.infoT) (by first | exact RV.one _ | exact TV.one _ rfl | exact TV.one TV.z rfl) (by rfl) (fun W3 hg bn => ?_)
  replace hE := ext_grow hE hg (fun q hq => by cases hq; omega)
  clear b0 hg
  have b0 := bn
  clear bn
  (try dsimp only); refine hK _ _ ?_; clear hK K; (try simp only [Act.put, Zs, Zz, Zc])
  replace qz : r0 < W3.heap.size := b0.lt
  refine wpList_plain rfl (fun K hK => ?_); go_simp; (try dsimp only); refine hK _ _ ?_; clear hK K; (try simp only [Act.put, Zs, Zz, Zc])
  refine wpList_nil ?_
  have b0_ : Blk W3 r0 28 TV.z.cs := b0
  go_wp2_with fail
  exact bodyPost_ret (res_ct rfl (GivesC.of b0 rfl Try.underlying28 rfl Try.infoT) rfl) rfl ⟨TV.z, rfl, by rw [BuildF_err l h0.out]; exact isT_z _ _, hE⟩

set_option maxRecDepth 100000 in
set_option maxHeartbeats 4000000 in
theorem rbuild_ok {A : Nat → Prop} (l : List RV) (s : Value) (w : World) (hA : Up A w) (hs : isSl w s 6 l.length (rF l)) (hlen : l.length ≤ 1000) (h0 : (BuildF l).2 = 0) :
    Calls Try.prog 13 #[s] w fun e w' => ∃ v', e = .returned (.tuple #[.agg v'.cs.toArray, .int .i64 (BuildF l).2]) ∧ isT A w' (BuildF l).1.bt v' ∧ Ext w w' := by
  obtain ⟨ad, c, rfl⟩ := sl_shape hs
  have HS : Hid (isSl w (.slice ad l.length c) 6 l.length (rF l)) := hs
  clear hs
  have hb0 : ((BuildF l).2 != 0) = false := by simp [h0]
  replace h0 : Hid _ := h0
  go_enter Try.func13, Try.ntmps13
  go_upto_region 1 with fail
  refine name_wX (fun W1 hW => ?_)
  have hE : Ext w W1 := by rw [hW]; repeat' (first | exact Ext.refl _ | apply Ext.al)
  have b0 : Blk W1 (w.heap.size) 28 TV.z.cs := by rw [hW]; exact Blk.newAt rfl
  clear hW
  obtain ⟨r0, hr0⟩ : ∃ r, r = w.heap.size := ⟨_, rfl⟩
  rw [← hr0] at b0
  try rw [← hr0]
  have q0 : w.heap.size ≤ r0 := by omega
  clear hr0
  have qz : r0 < W1.heap.size := b0.lt
  go_upto_region 1 with fail
  refine wp_region_lit ?_
  refine wpList_plain rfl (fun K hK => ?_); go_simp; (try dsimp only); refine hK _ _ ?_; clear hK K; (try simp only [Act.put, Zs, Zz, Zc])
  refine wpList_plain rfl (fun K hK => ?_); go_simp; (go_at_call 32; refine (rlisted_any l _ _ (HS.out.ext hE) hlen).mono ?_; intro e W2 hpp; obtain ⟨rfl, hx⟩ := hpp); (try dsimp only); refine hK _ _ ?_; clear hK K; (try simp only [Act.put, Zs, Zz, Zc])
  replace b0 := b0.ext hx
  replace hE := hE.trans hx
  clear hx
  replace qz : r0 < W2.heap.size := b0.lt
  refine wpList_plain rfl (fun K hK => ?_); go_simp; (try dsimp only); refine hK _ _ ?_; clear hK K; (try simp only [Act.put, Zs, Zz, Zc])
  refine wpList_nil ?_
  go_upto_region 2 with fail
  refine wp_region_lit ?_
  refine wpList_plain rfl (fun K hK => ?_); go_simp; (try dsimp only); refine hK _ _ ?_; clear hK K; (try simp only [Act.put, Zs, Zz, Zc])
  refine wpList_plain rfl (fun K hK => ?_); go_simp; (try simp (disch := omega) only [Yq, Yr]); (try simp only [hb0]); (try dsimp only); refine hK _ _ ?_; clear hK K; (try simp only [Act.put, Zs, Zz, Zc])
  refine wpList_nil ?_
  obtain ⟨hF, hva⟩ := BuildF_ok l h0.out
  have hz : (bldF .E 0 l).2 = 0 := by rw [← hF]; exact h0.out
  replace hF : Hid _ := hF
  replace hva : Hid _ := hva
  replace hz : Hid _ := hz
  go_upto_region 4 with fail
  refine wp_region_lit ?_
  iterate 2 (refine wpList_plain rfl (fun K hK => ?_); go_simp; (try dsimp only); refine hK _ _ ?_; clear hK K; (try simp only [Act.put, Zs, Zz, Zc]))
  refine name_wl (fun W3 hW => ?_)
  have hx : Ext W2 W3 := by rw [hW]; exact ext_alloc _ _
  have b1 : Blk W3 W2.heap.size 28 TV.z.cs := by rw [hW]; exact Blk.newAt rfl
  clear hW
  replace b0 := b0.ext hx
  replace hE := hE.trans hx
  clear hx
  obtain ⟨r1, hr⟩ : ∃ r, r = W2.heap.size := ⟨_, rfl⟩
  rw [← hr] at b1
  try rw [← hr]
  have q1 : r0 < r1 := by omega
  clear hr
  replace qz : r1 < W3.heap.size := b1.lt
  refine wpList_plain rfl (fun K hK => ?_)
  refine wp_store_box 28 _ _ (by rfl) b1 (by rfl) (by rfl) (by exact Try.infoT) (by first | exact RV.one _ | exact TV.one _ rfl | exact TV.one TV.z rfl) (by rfl) (fun W4 hg bn => ?_)
  replace b0 := b0.kept hg (Zn (by omega))
  replace hE := ext_grow hE hg (fun q hq => by cases hq; omega)
  clear b1 hg
  have b1 := bn
  clear bn
  (try dsimp only); refine hK _ _ ?_; clear hK K; (try simp only [Act.put, Zs, Zz, Zc])
  replace qz : r1 < W4.heap.size := b1.lt
  refine wpList_nil ?_
  have b1_ : Blk W4 r1 28 TV.z.cs := b1
  clear b1
  have b1 := b1_
  clear b1_
  go_upto_region 6 with fail
  obtain ⟨m, hm, hm2⟩ : ∃ m, r1 < m ∧ m = W4.heap.size := ⟨_, qz, rfl⟩
  have hm3 : m ≤ W4.heap.size := by omega
  clear hm2
  obtain ⟨A0, hA0⟩ : ∃ A0, A0 = Lo A w.heap.size m := ⟨_, rfl⟩
  have hnA : ¬ A0 r1 := by rw [hA0]; exact Lo.not (by omega) (by omega)
  have hnA0 : ¬ A0 r0 := by rw [hA0]; exact Lo.not (by omega) (by omega)
  have hUp : Up A0 W4 := by rw [hA0]; exact Up.lo hA hE hm3
  go_loopw [6] (fun vi wr => ∃ (k : Nat) (p : PT) (v : TV) (last : Int), vi = .int .i64 k ∧ k ≤ l.length ∧ Blk wr r0 28 TV.z.cs ∧ Blk wr r1 28 v.cs ∧ isT A0 wr p.bt v ∧ good p ∧ (∀ x ∈ p.flat, x.e ≤ last) ∧ bldF .E 0 l = bldF p last (l.drop k) ∧ Ext w wr ∧ Up A0 wr) (fun vi _ => l.length - (intOf vi).toNat)
  case atStart => exact ⟨0, .E, TV.z, 0, rfl, by omega, b0, b1, isT_z _ _, good_E, (fun x h => by simp [PT.flat] at h), by simp, hE, hUp⟩
  case round =>
    clear b0 b1 hE qz hUp
    obtain ⟨k, p, v, last, rfl, hk, b0, b1, tv, hp, hla, hbl, hE, hUp⟩ := hrel
    obtain ⟨W0, rfl⟩ : ∃ W0, W0 = wr := ⟨_, rfl⟩
    have qz : r1 < W0.heap.size := b1.lt
    replace hbl : Hid _ := hbl
    replace hla : Hid _ := hla
    by_cases hlt : k < l.length
    · obtain ⟨b, o, rfl, hc1, hc2, hbw0, hra⟩ := sl_at HS.out hlt
      have hbw : b < W0.heap.size := Nat.lt_of_lt_of_le hbw0 hE.below.size
      replace hra := rangeAt.ext hra hbw0 hE
      replace tv := isT.lw tv
      have hvx : vld l[k] := hva.out _ (List.getElem_mem hlt)
      have hd : l.drop k = l[k] :: l.drop (k + 1) := List.drop_eq_getElem_cons hlt
      have hcs : ¬ (l[k]).s < last := bldF_ok (p := p) (l := l.drop (k + 1)) (by rw [← hd, ← hbl.out]; exact hz.out)
      have hbd := good_bd hp
      have hht := good_ht hp
      replace hcs : Hid _ := hcs
      replace hd : Hid _ := hd
      obtain ⟨W0', hW0'⟩ : ∃ X, X = W0 := ⟨_, rfl⟩
      have hE1 : Ext W0' W0 := by rw [hW0']; exact Ext.refl _
      have hUp0 : Up A0 W0' := by rw [hW0']; exact hUp
      replace tv : isT (Lw A0 W0'.heap.size) W0 p.bt v := by rw [hW0']; exact tv
      have y1 := hra
      have hy1 := hbw
      have hbne0 : b ≠ r0 := by omega
      have hbne1 : b ≠ r1 := by omega
      have hsz : W0'.heap.size = W0.heap.size := by rw [hW0']
      go_upto_region 8 with fail
      obtain ⟨m2, hm4, hm5⟩ : ∃ m2, r1 < m2 ∧ m2 = W0.heap.size := ⟨_, qz, rfl⟩
      have hm6 : m2 ≤ W0.heap.size := by omega
      clear hm5
      have x0 := b0
      have x1 := b1
      have hS : GrownX W0 [] W0 := GrownX.refl _ _
      refine wp_region_SE (GrownX W0 []) [0, 1, 2, 3, 4, 5] (by kernel_rfl) ?_
      refine name_wd (fun W101 hW => ?_)
      have hx : Ext W0 W101 := by rw [hW]; exact ext_drew _
      clear hW
      replace hS := hS.ext hx
      replace b0 := b0.ext hx
      replace b1 := b1.ext hx
      replace hra := rangeAt.ext hra hbw hx
      replace hbw := Nat.lt_of_lt_of_le hbw hx.below.size
      replace tv := isT.ext hx tv
      replace hUp := hUp.ext hx
      replace hE1 := hE1.trans hx
      replace hm6 := Nat.le_trans hm6 hx.below.size
      replace hE := hE.trans hx
      clear hx
      replace qz : r1 < W101.heap.size := b1.lt
      refine wpAnyD_takeSL (i := 0) rfl (by kernel_rfl) (fun _ _ _ _ h => h) hS ?_
      apply Exists.intro
      refine ⟨Or.inl ⟨by rfl, ?_⟩, ?_⟩
      (focus (intro wz hz; (first | exact exec_ld 28 _ rfl rfl ((GrownX.blk hz x1 (by first | decide | (simp; done) | (simp; omega) | omega)).range) Try.underlying28 rfl (by exact Try.infoT))))
      (try simp only [Act.put, Zs, Zz, Zc])
      refine wpAnyD_takeSL (i := 1) rfl (by kernel_rfl) (fun _ _ _ _ h => h) hS ?_
      apply Exists.intro
      refine ⟨Or.inl ⟨by rfl, ?_⟩, ?_⟩
      (focus (intro wz hz; go_simp; (try with_reducible rfl); done))
      (try simp only [Act.put, Zs, Zz, Zc])
      refine wpAnyD_takeSL (i := 2) rfl (by kernel_rfl) (fun _ _ _ _ h => h) hS ?_
      apply Exists.intro
      refine ⟨Or.inl ⟨by rfl, ?_⟩, ?_⟩
      (focus (intro wz hz; go_simp; (try with_reducible rfl); done))
      (try simp only [Act.put, Zs, Zz, Zc])
      refine wpAnyD_takeSL (i := 3) rfl (by kernel_rfl) (fun _ _ _ _ h => h) hS ?_
      apply Exists.intro
      refine ⟨Or.inl ⟨by rfl, ?_⟩, ?_⟩
      (focus (intro wz hz; go_simp; (try with_reducible rfl); done))
      (try simp only [Act.put, Zs, Zz, Zc])
      refine wpAnyD_takeSL (i := 4) rfl (by kernel_rfl) (fun _ _ _ _ h => h) hS ?_
      apply Exists.intro
      refine ⟨Or.inl ⟨by rfl, ?_⟩, ?_⟩
      (focus (intro wz hz; (first | exact exec_ld 25 _ rfl rfl (GrownX.range hz (y1) (hy1) (by first | decide | (simp; done) | (simp; omega) | omega)) Try.underlying25 rfl (by exact Try.infoR))))
      (try simp only [Act.put, Zs, Zz, Zc])
      refine wpAnyD_oneL (i := 5) rfl (by kernel_rfl) (fun K hK => ?_)
      rw [if_pos (by rfl)]
      go_simp
      (go_at_call 33; refine (rins_P p (Lo A0 W0'.heap.size m2) _ _ _ (Up.lo hUp0 hE1 hm6) tv.up hvx hbd hp.b (by omega)).mono ?_; intro e W102 hpp; obtain ⟨v1, rfl, t1, hx⟩ := hpp)
      replace hS := hS.ext hx; (try dsimp only); refine hK.out _ _ (fun _ => hS) ?_; clear hK K; (try simp only [Act.put, Zs, Zz, Zc])
      replace b0 := b0.ext hx
      replace b1 := b1.ext hx
      replace hra := rangeAt.ext hra hbw hx
      replace hbw := Nat.lt_of_lt_of_le hbw hx.below.size
      replace tv := isT.ext hx tv
      replace hUp := hUp.ext hx
      replace hE1 := hE1.trans hx
      replace hm6 := Nat.le_trans hm6 hx.below.size
      replace hE := hE.trans hx
      clear hx
      replace qz : r1 < W102.heap.size := b1.lt
      replace t1 := isT.hi t1
      clear hE1
      refine wpAnyD_oneL (i := 6) rfl (by kernel_rfl) (fun K hK => ?_)
      rw [if_pos (by rfl)]
      refine wp_store_box 28 _ _ (by rfl) b1 (by rfl) (by rfl) (by exact Try.infoT) (by first | exact RV.one _ | exact TV.one _ rfl | exact TV.one TV.z rfl | exact TV.one _ (isT.one tv) | exact TV.one _ (isT.one t1)) (by rfl) (fun W103 hg bn => ?_)
      replace b0 := b0.kept hg (Zn (by omega))
      replace hra := rangeAt.kept hra hbw hg (Zn (by omega))
      replace hbw := Nat.lt_of_lt_of_le hbw hg.size
      replace tv := isT.kept hg (fun h => hnA h.1) tv
      replace hUp := hUp.grown hg
      replace hm6 := Nat.le_trans hm6 hg.size
      replace t1 := isT.kept hg hnA t1
      replace hE := ext_grow hE hg (fun q hq => by cases hq; omega)
      clear b1 hg
      have b1 := bn
      clear bn
      (try dsimp only); refine hK.out _ _ (fun h => absurd h (by decide)) ?_; clear hK K; (try simp only [Act.put, Zs, Zz, Zc])
      replace qz : r1 < W103.heap.size := b1.lt
      refine wpAnyD_done (by kernel_rfl) ?_ _
      clear hS x0 x1
      go_upto_region 7 with fail
      refine wp_region_lit ?_
      refine wpList_plain rfl (fun K hK => ?_); go_simp; (try dsimp only); refine hK _ _ ?_; clear hK K; (try simp only [Act.put, Zs, Zz, Zc])
      refine wpList_plain rfl (fun K hK => ?_); go_simp; (try simp (disch := omega) only [Yq, Yr]); (try dsimp only); refine hK _ _ ?_; clear hK K; (try simp only [Act.put, Zs, Zz, Zc])
      refine wpList_plain rfl (fun K hK => ?_); go_simp; (try dsimp only); refine hK _ _ ?_; clear hK K; (try simp only [Act.put, Zs, Zz, Zc])
      refine wpList_nil ?_
      obtain ⟨hg1, hg2⟩ := ins_ord hp hvx hla.out hcs.out
      go_wp2_with fail
      go_roundw
      case rel =>
        refine ⟨k + 1, insP p l[k], v1, (l[k]).e, by go_num, by omega, b0, b1, t1, hg1, ?_, by rw [hbl.out, hd.out, bldF, if_neg hcs.out], hE, hUp⟩
        · intro y hy
          rw [hg2] at hy
          rcases List.mem_append.1 hy with h | h
          · have h1 := hla.out y h
            have h2 := hvx.2.1
            have h3 : last ≤ (l[k]).s := Int.not_lt.1 hcs.out
            unfold RV.e at *
            omega
          · rw [List.mem_singleton.1 h]; exact Int.le_refl _
      case measure => simp [intOf]; omega
    · have hF2 : BuildF l = (p, 0) := by rw [hF.out, hbl.out, List.drop_of_length_le (by omega), bldF]
      go_upto_region 9 with fail
      refine wp_region_lit ?_
      refine wpList_plain rfl (fun K hK => ?_); (first | (refine wp_ld 28 _ (b1.range) (by rfl) (by rfl) Try.underlying28 rfl (by exact Try.infoT) ?_)); (try dsimp only); refine hK _ _ ?_; clear hK K; (try simp only [Act.put, Zs, Zz, Zc])
      refine wpList_plain rfl (fun K hK => ?_)
      refine wp_store_box 28 _ _ (by rfl) b0 (by rfl) (by rfl) (by exact Try.infoT) (by first | exact RV.one _ | exact TV.one _ rfl | exact TV.one TV.z rfl | exact TV.one _ (isT.one tv)) (by rfl) (fun W801 hg bn => ?_)
      replace b1 := b1.kept hg (Zn (by omega))
      replace tv := isT.kept hg hnA0 tv
      replace hE := ext_grow hE hg (fun q hq => by cases hq; omega)
      clear b0 hg
      have b0 := bn
      clear bn
      (try dsimp only); refine hK _ _ ?_; clear hK K; (try simp only [Act.put, Zs, Zz, Zc])
      replace qz : r1 < W801.heap.size := b1.lt
      refine wpList_plain rfl (fun K hK => ?_); go_simp; (try dsimp only); refine hK _ _ ?_; clear hK K; (try simp only [Act.put, Zs, Zz, Zc])
      refine wpList_nil ?_
      go_wp2_with fail
      exact bodyPost_ret (res_ct rfl (GivesC.of b0 rfl Try.underlying28 rfl Try.infoT) rfl) rfl ⟨v, by rw [hF2]; rfl, by rw [hF2]; exact isT.mono (fun q _ hq => by rw [hA0] at hq; exact hq.1) tv, hE⟩
theorem rbuild_any {A : Nat → Prop} (l : List RV) (s : Value) (w : World) (hA : Up A w) (hs : isSl w s 6 l.length (rF l)) (hlen : l.length ≤ 1000) :
    Calls Try.prog 13 #[s] w fun e w' => ∃ v', e = .returned (.tuple #[.agg v'.cs.toArray, .int .i64 (BuildF l).2]) ∧ isT A w' (BuildF l).1.bt v' ∧ Ext w w' := by
  by_cases h0 : (BuildF l).2 = 0
  · exact rbuild_ok l s w hA hs hlen h0
  · exact rbuild_err l s w hA hs hlen h0

end Go.Proofs.Ytnbohogkfdeddaa
