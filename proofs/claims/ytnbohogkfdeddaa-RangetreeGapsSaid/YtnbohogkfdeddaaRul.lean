/- Rangetree: played. -/
import Derived.Test.YtnbohogkfdeddaaRuk
import Derived.Test.YtnbohogkfdeddaaRug
set_option linter.unusedSimpArgs false
set_option linter.unusedVariables false
namespace Go.Proofs.Ytnbohogkfdeddaa
open Go.RowKit

set_option maxRecDepth 100000 in
set_option maxHeartbeats 4000000 in
theorem played_any (l : List OV) (s : Value) (w : World) (hs : isSl w s 7 l.length (oF l)) (hl : l.length ≤ 60) :
    Calls Try.prog 21 #[s] w fun e w' => ∃ (p : PT) (v : TV) (u : Value), good p ∧ e = .returned (.tuple #[.agg v.cs.toArray, u, .bool true]) ∧ isT (fun _ => True) w' p.bt v ∧ ownR w' w.heap.size u p.flat ∧ Ext w w' := by
  obtain ⟨ad, c, rfl⟩ := sl_shape hs
  have HS : Hid (isSl w (.slice ad l.length c) 7 l.length (oF l)) := hs
  clear hs
  go_enter Try.func21, Try.ntmps21
  go_upto_region 1 with fail
  refine name_wX (fun W1 hW => ?_)
  have hE : Ext w W1 := by rw [hW]; (exact Ext.of_below (by (repeat' (first | (with_reducible exact Below.refl _ _) | (with_reducible assumption) | (with_reducible refine Below.alloc ?_ ?_ _) | (with_reducible refine Below.wext ?_ ?_ _ _) | (with_reducible refine Below.drew ?_) | (with_reducible refine Below.setCell ?_ ?_ _) | (with_reducible exact Nat.le_refl _) | (with_reducible refine Below.drewN' ?_ _) | (simp; omega) | (simp; done)))))
  have b0 : Blk W1 (w.heap.size) 28 TV.z.cs := by rw [hW]; exact Blk.newAt rfl
  clear hW
  obtain ⟨r0, hr0⟩ : ∃ r, r = w.heap.size := ⟨_, rfl⟩
  rw [← hr0] at b0
  try rw [← hr0]
  have q0 : w.heap.size ≤ r0 := by omega
  clear hr0
  have qz : r0 < W1.heap.size := b0.lt
  go_upto_region 1 with fail
  refine wp_region_lit ?_
  refine wpList_plain rfl (fun K hK => ?_)
  go_simp
  (try dsimp only); refine hK _ _ ?_; clear hK K; (try simp only [Act.put, List.setIfInBounds_toArray, List.set_cons_zero, List.set_cons_succ])
  refine name_wl (fun W2 hW => ?_)
  have hx : Ext W1 W2 := by rw [hW]; exact ext_alloc _ _
  have b1 : Blk W2 W1.heap.size 28 TV.z.cs := by rw [hW]; exact Blk.newAt rfl
  clear hW
  replace b0 := b0.ext hx
  replace hE := hE.trans hx
  clear hx
  obtain ⟨r1, hr⟩ : ∃ r, r = W1.heap.size := ⟨_, rfl⟩
  rw [← hr] at b1
  try rw [← hr]
  have q1 : r0 < r1 := by omega
  clear hr
  replace qz : r1 < W2.heap.size := b1.lt
  refine wpList_nil ?_
  go_upto_region 4 with fail
  obtain ⟨m, hm, hm2⟩ : ∃ m, r1 < m ∧ m = W2.heap.size := ⟨_, qz, rfl⟩
  have hm3 : m ≤ W2.heap.size := by omega
  clear hm2
  obtain ⟨A0, hA0⟩ : ∃ A0, A0 = Lo (fun _ => True) w.heap.size m := ⟨_, rfl⟩
  have hnA : ¬ A0 r1 := by rw [hA0]; exact Lo.not (by omega) (by omega)
  have hnA0 : ¬ A0 r0 := by rw [hA0]; exact Lo.not (by omega) (by omega)
  have hUp : Up A0 W2 := by rw [hA0]; exact Up.lo (fun _ _ => trivial) hE hm3
  go_loopw [6, 18] (fun vw vi wr => ∃ (k : Nat) (p : PT) (v : TV), vi = .int .i64 k ∧ k ≤ l.length ∧ Blk wr r0 28 TV.z.cs ∧ Blk wr r1 28 v.cs ∧ isT A0 wr p.bt v ∧ good p ∧ ownR wr w.heap.size vw p.flat ∧ Ext w wr ∧ Up A0 wr) (fun _ vi _ => l.length - (intOf vi).toNat)
  case atStart => exact ⟨0, .E, TV.z, rfl, by omega, b0, b1, isT_z _ _, good_E, ownR_nil _ _, hE, hUp⟩
  case round =>
    clear b0 b1 hE qz hUp
    obtain ⟨k, p, v, rfl, hk, b0, b1, tv, hp, hown, hE, hUp⟩ := hrel
    obtain ⟨W0, rfl⟩ : ∃ W0, W0 = wr := ⟨_, rfl⟩
    have qz : r1 < W0.heap.size := b1.lt
    obtain ⟨ua, uc, rfl⟩ := hown.shape
    have hlen := good_len hp
    by_cases hlt : k < l.length
    · obtain ⟨b, o, rfl, hc1, hc2, hbw0, hra⟩ := ol_at HS.out hlt
      have hbw : b < W0.heap.size := Nat.lt_of_lt_of_le hbw0 hE.below.size
      replace hra := rangeAt.ext hra hbw0 hE
      obtain ⟨q, hq⟩ : ∃ q, q = l[k] := ⟨_, rfl⟩
      rw [← hq] at hra
      clear hq
      obtain ⟨W0', hW0'⟩ : ∃ X, X = W0 := ⟨_, rfl⟩
      have hE1 : Ext W0' W0 := by rw [hW0']; exact Ext.refl _
      have hUp0 : Up A0 W0' := by rw [hW0']; exact hUp
      replace tv : isT (Lw A0 W0'.heap.size) W0 p.bt v := by rw [hW0']; exact tv.lw
      go_upto_region 5 with fail
      refine wp_region_lit ?_
      refine wpList_plain rfl (fun K hK => ?_)
      go_simp
      (try dsimp only); refine hK _ _ ?_; clear hK K; (try simp only [Act.put, List.setIfInBounds_toArray, List.set_cons_zero, List.set_cons_succ])
      refine wpList_plain rfl (fun K hK => ?_)
      (first | (refine wp_ld 38 _ (hra) (by rfl) (by rfl) Try.underlying38 rfl (by exact Try.infoO) ?_))
      (try dsimp only); refine hK _ _ ?_; clear hK K; (try simp only [Act.put, List.setIfInBounds_toArray, List.set_cons_zero, List.set_cons_succ])
      refine wpList_plain rfl (fun K hK => ?_)
      have qb : W0'.heap.size ≤ W0.heap.size := hE1.below.size
      go_simp
      (try dsimp only); refine hK _ _ ?_; clear hK K; (try simp only [Act.put, List.setIfInBounds_toArray, List.set_cons_zero, List.set_cons_succ])
      refine name_wl (fun W101 hW => ?_)
      have hx : Ext W0 W101 := by rw [hW]; exact ext_alloc _ _
      have b2 : Blk W101 W0.heap.size 38 OV.z.cs := by rw [hW]; exact Blk.newAt rfl
      clear hW
      replace b0 := b0.ext hx
      replace b1 := b1.ext hx
      replace hra := rangeAt.ext hra hbw hx
      replace hbw := Nat.lt_of_lt_of_le hbw hx.below.size
      replace tv := isT.ext hx tv
      replace hE1 := hE1.trans hx
      replace hUp := hUp.ext hx
      replace hown := hown.ext hx
      replace hE := hE.trans hx
      clear hx
      obtain ⟨r2, hr⟩ : ∃ r, r = W0.heap.size := ⟨_, rfl⟩
      rw [← hr] at b2
      try rw [← hr]
      have q2 : r1 < r2 := by omega
      have qb2 : W0'.heap.size ≤ r2 := by omega
      clear hr
      replace qz : r2 < W101.heap.size := b2.lt
      refine wpList_plain rfl (fun K hK => ?_)
      refine wp_store_box 38 _ _ (by rfl) b2 (by rfl) (by rfl) (by exact Try.infoO) (by first | exact RV.one _ | exact TV.one _ rfl | exact OV.one _ | exact TV.one TV.z rfl | exact TV.one _ (isT.one tv)) (by rfl) (fun W102 hg bn => ?_)
      replace b0 := b0.kept hg (by simp only [ne_eq, Option.some.injEq]; omega)
      replace b1 := b1.kept hg (by simp only [ne_eq, Option.some.injEq]; omega)
      replace hra := rangeAt.kept hra hbw hg (by simp only [ne_eq, Option.some.injEq]; omega)
      replace hbw := Nat.lt_of_lt_of_le hbw hg.size
      replace tv := isT.kept hg (Lw.not (by omega)) tv
      replace hE1 := ext_grow hE1 hg (fun q hq => by cases hq; omega)
      replace hUp := hUp.grown hg
      replace hown := hown.kept hg (.inr (hown.ne b2 (by decide)))
      replace hE := ext_grow hE hg (fun q hq => by cases hq; omega)
      clear b2 hg
      have b2 := bn
      clear bn
      (try dsimp only); refine hK _ _ ?_; clear hK K; (try simp only [Act.put, List.setIfInBounds_toArray, List.set_cons_zero, List.set_cons_succ])
      replace qz : r2 < W102.heap.size := b2.lt
      refine wpList_nil ?_
      clear hra hbw
      have hdec : ∀ (x : Bool), x = true ∨ x = false := by decide
      go_upto_region 6 with fail
      refine wp_region_lit ?_
      refine wpList_plain rfl (fun K hK => ?_)
      go_simp
      (try dsimp only); refine hK _ _ ?_; clear hK K; (try simp only [Act.put, List.setIfInBounds_toArray, List.set_cons_zero, List.set_cons_succ])
      refine wpList_plain rfl (fun K hK => ?_)
      go_simp
      (try dsimp only); refine hK _ _ ?_; clear hK K; (try simp only [Act.put, List.setIfInBounds_toArray, List.set_cons_zero, List.set_cons_succ])
      refine wpList_nil ?_
      go_upto_region 7 with fail
      go_loopw [9] (fun va wr => ∃ j : Nat, va = .int .i64 j ∧ j ≤ p.flat.length ∧ (∀ x ∈ p.flat.take j, x.s < q.x.s) ∧ Ext W102 wr) (fun va _ => p.flat.length - (intOf va).toNat)
      case atStart => exact ⟨0, rfl, by omega, by simp, Ext.refl _⟩
      case round =>
        obtain ⟨j, rfl, hj, hlow, hX⟩ := hrel
        obtain ⟨Wj, rfl⟩ : ∃ W, W = wr := ⟨_, rfl⟩
        have hx := hX
        replace b0 := b0.ext hx
        replace b1 := b1.ext hx
        replace b2 := b2.ext hx
        replace tv := isT.ext hx tv
        replace hE1 := hE1.trans hx
        replace hUp := hUp.ext hx
        replace hown := hown.ext hx
        replace hE := hE.trans hx
        clear hx
        replace qz : r2 < Wj.heap.size := b2.lt
        go_upto_region 7 with fail
        go_cut [36] (fun v wc => v = .bool (tB p.flat j q.x.s) ∧ Ext Wj wc)
        case first =>
          by_cases hjl : j < p.flat.length
          · obtain ⟨gw, ow, rfl, hd1, hd2, hgw, hrw⟩ := sl_at hown.isSl hjl
            have cw : Wj.cell? ⟨gw, ow + j * 6, none⟩ = some (.int .i64 (p.flat[j]).s) := hrw 0 _ rfl
            have hjb : decide ((j : Int) < (p.flat.length : Int)) = true := by simpa using hjl
            have hjc : decide (j < p.flat.length) = true := by simpa using hjl
            have hEz : Ext Wj Wj := Ext.refl _
            have x0 := b0
            have x1 := b1
            have x2 := b2
            have hS : GrownX Wj [] Wj := GrownX.refl _ _
            refine wp_region_S (GrownX Wj []) (by kernel_rfl) ?_
            refine name_wd (fun W221 hW => ?_)
            have hx : Ext Wj W221 := by rw [hW]; exact ext_drew _
            clear hW
            replace hS := hS.ext hx
            replace b0 := b0.ext hx
            replace b1 := b1.ext hx
            replace b2 := b2.ext hx
            replace tv := isT.ext hx tv
            replace hE1 := hE1.trans hx
            replace hUp := hUp.ext hx
            replace hown := hown.ext hx
            replace hEz := hEz.trans hx
            replace hE := hE.trans hx
            clear hx
            replace qz : r2 < W221.heap.size := b2.lt
            refine wpAnyD_takeSL (i := 0) rfl (by kernel_rfl) (fun _ _ _ _ h => h) hS ?_
            apply Exists.intro
            refine ⟨Or.inl ⟨by rfl, ?_⟩, ?_⟩
            (focus (intro wz hz; go_simp; (try with_reducible rfl); done))
            (try simp only [Act.put, List.setIfInBounds_toArray, List.set_cons_zero, List.set_cons_succ])
            refine wpAnyD_takeSL (i := 1) rfl (by kernel_rfl) (fun _ _ _ _ h => h) hS ?_
            apply Exists.intro
            refine ⟨Or.inl ⟨by rfl, ?_⟩, ?_⟩
            (focus (intro wz hz; go_simp; (try with_reducible rfl); done))
            (try simp only [Act.put, List.setIfInBounds_toArray, List.set_cons_zero, List.set_cons_succ])
            refine wpAnyD_takeSL (i := 2) rfl (by kernel_rfl) (fun _ _ _ _ h => h) hS ?_
            apply Exists.intro
            refine ⟨Or.inl ⟨by rfl, ?_⟩, ?_⟩
            (focus (intro wz hz; go_simp; (try with_reducible rfl); done))
            (try simp only [Act.put, List.setIfInBounds_toArray, List.set_cons_zero, List.set_cons_succ])
            refine wpAnyD_takeSL (i := 3) rfl (by kernel_rfl) (fun _ _ _ _ h => h) hS ?_
            apply Exists.intro
            refine ⟨Or.inl ⟨by rfl, ?_⟩, ?_⟩
            (focus (intro wz hz; go_simp; (try simp (disch := omega) only [IntWalk.i64_in, IntWalk.wrap64_in]); (try simp only [hjb, hjc]); (try with_reducible rfl); done))
            (try simp only [Act.put, List.setIfInBounds_toArray, List.set_cons_zero, List.set_cons_succ])
            refine wpAnyD_takeSL (i := 4) rfl (by kernel_rfl) (fun _ _ _ _ h => h) hS ?_
            apply Exists.intro
            refine ⟨Or.inl ⟨by rfl, ?_⟩, ?_⟩
            (focus (intro wz hz; go_simp; (try with_reducible rfl); done))
            (try simp only [Act.put, List.setIfInBounds_toArray, List.set_cons_zero, List.set_cons_succ])
            refine wpAnyD_takeSL (i := 5) rfl (by kernel_rfl) (fun _ _ _ _ h => h) hS ?_
            apply Exists.intro
            refine ⟨Or.inl ⟨by rfl, ?_⟩, ?_⟩
            (focus (intro wz hz; go_simp; (try with_reducible rfl); done))
            (try simp only [Act.put, List.setIfInBounds_toArray, List.set_cons_zero, List.set_cons_succ])
            refine wpAnyD_takeSL (i := 6) rfl (by kernel_rfl) (fun _ _ _ _ h => h) hS ?_
            apply Exists.intro
            refine ⟨Or.inl ⟨by rfl, ?_⟩, ?_⟩
            (focus (intro wz hz; go_simp; (try with_reducible rfl); done))
            (try simp only [Act.put, List.setIfInBounds_toArray, List.set_cons_zero, List.set_cons_succ])
            refine wpAnyD_takeSL (i := 7) rfl (by kernel_rfl) (fun _ _ _ _ h => h) hS ?_
            apply Exists.intro
            refine ⟨Or.inl ⟨by rfl, ?_⟩, ?_⟩
            (focus (intro wz hz; go_simp; (try with_reducible rfl); done))
            (try simp only [Act.put, List.setIfInBounds_toArray, List.set_cons_zero, List.set_cons_succ])
            refine wpAnyD_takeSL (i := 8) rfl (by kernel_rfl) (fun _ _ _ _ h => h) hS ?_
            apply Exists.intro
            refine ⟨Or.inl ⟨by rfl, ?_⟩, ?_⟩
            (focus (intro wz hz; go_simp; (try with_reducible rfl); done))
            (try simp only [Act.put, List.setIfInBounds_toArray, List.set_cons_zero, List.set_cons_succ])
            refine wpAnyD_takeSL (i := 9) rfl (by kernel_rfl) (fun _ _ _ _ h => h) hS ?_
            apply Exists.intro
            refine ⟨Or.inl ⟨by rfl, ?_⟩, ?_⟩
            (focus (intro wz hz; have zc0 := GrownX.cell hz cw hgw (by first | decide | (simp; done) | (simp; omega) | omega); go_simp; (try with_reducible rfl); done))
            (try simp only [Act.put, List.setIfInBounds_toArray, List.set_cons_zero, List.set_cons_succ])
            refine wpAnyD_takeSL (i := 10) rfl (by kernel_rfl) (fun _ _ _ _ h => h) hS ?_
            apply Exists.intro
            refine ⟨Or.inl ⟨by rfl, ?_⟩, ?_⟩
            (focus (intro wz hz; go_simp; (try with_reducible rfl); done))
            (try simp only [Act.put, List.setIfInBounds_toArray, List.set_cons_zero, List.set_cons_succ])
            refine wpAnyD_takeSL (i := 11) rfl (by kernel_rfl) (fun _ _ _ _ h => h) hS ?_
            apply Exists.intro
            refine ⟨Or.inl ⟨by rfl, ?_⟩, ?_⟩
            (focus (intro wz hz; go_simp; (try with_reducible rfl); done))
            (try simp only [Act.put, List.setIfInBounds_toArray, List.set_cons_zero, List.set_cons_succ])
            refine wpAnyD_takeSL (i := 12) rfl (by kernel_rfl) (fun _ _ _ _ h => h) hS ?_
            apply Exists.intro
            refine ⟨Or.inl ⟨by rfl, ?_⟩, ?_⟩
            (focus (intro wz hz; have zc := (GrownX.blk hz x2 (by first | decide | (simp; done) | (simp; omega) | omega)).cell 1; go_simp; (try with_reducible rfl); done))
            (try simp only [Act.put, List.setIfInBounds_toArray, List.set_cons_zero, List.set_cons_succ])
            refine wpAnyD_takeSL (i := 13) rfl (by kernel_rfl) (fun _ _ _ _ h => h) hS ?_
            apply Exists.intro
            refine ⟨Or.inl ⟨by rfl, ?_⟩, ?_⟩
            (focus (intro wz hz; go_simp; (try simp (disch := omega) only [IntWalk.i64_in, IntWalk.wrap64_in]); (try simp only [hjb, hjc]); (try with_reducible rfl); done))
            (try simp only [Act.put, List.setIfInBounds_toArray, List.set_cons_zero, List.set_cons_succ])
            refine wpAnyD_takeSL (i := 14) rfl (by kernel_rfl) (fun _ _ _ _ h => h) hS ?_
            apply Exists.intro
            refine ⟨Or.inl ⟨by rfl, ?_⟩, ?_⟩
            (focus (intro wz hz; go_simp; (try with_reducible rfl); done))
            (try simp only [Act.put, List.setIfInBounds_toArray, List.set_cons_zero, List.set_cons_succ])
            refine wpAnyD_done (by kernel_rfl) ?_ _
            clear hS x0 x1 x2
            simp only [Exit.then]; go_step; go_meet
            exact ⟨by rw [tB_in hjl], hEz⟩
          · have hjb : decide ((j : Int) < (p.flat.length : Int)) = false := by simpa using hjl
            have hjc : decide (j < p.flat.length) = false := by simpa using hjl
            have hEz : Ext Wj Wj := Ext.refl _
            have x0 := b0
            have x1 := b1
            have x2 := b2
            have hS : GrownX Wj [] Wj := GrownX.refl _ _
            refine wp_region_S (GrownX Wj []) (by kernel_rfl) ?_
            refine name_wd (fun W241 hW => ?_)
            have hx : Ext Wj W241 := by rw [hW]; exact ext_drew _
            clear hW
            replace hS := hS.ext hx
            replace b0 := b0.ext hx
            replace b1 := b1.ext hx
            replace b2 := b2.ext hx
            replace tv := isT.ext hx tv
            replace hE1 := hE1.trans hx
            replace hUp := hUp.ext hx
            replace hown := hown.ext hx
            replace hEz := hEz.trans hx
            replace hE := hE.trans hx
            clear hx
            replace qz : r2 < W241.heap.size := b2.lt
            refine wpAnyD_takeSL (i := 0) rfl (by kernel_rfl) (fun _ _ _ _ h => h) hS ?_
            apply Exists.intro
            refine ⟨Or.inl ⟨by rfl, ?_⟩, ?_⟩
            (focus (intro wz hz; go_simp; (try with_reducible rfl); done))
            (try simp only [Act.put, List.setIfInBounds_toArray, List.set_cons_zero, List.set_cons_succ])
            refine wpAnyD_takeSL (i := 1) rfl (by kernel_rfl) (fun _ _ _ _ h => h) hS ?_
            apply Exists.intro
            refine ⟨Or.inl ⟨by rfl, ?_⟩, ?_⟩
            (focus (intro wz hz; go_simp; (try with_reducible rfl); done))
            (try simp only [Act.put, List.setIfInBounds_toArray, List.set_cons_zero, List.set_cons_succ])
            refine wpAnyD_takeSL (i := 2) rfl (by kernel_rfl) (fun _ _ _ _ h => h) hS ?_
            apply Exists.intro
            refine ⟨Or.inl ⟨by rfl, ?_⟩, ?_⟩
            (focus (intro wz hz; go_simp; (try with_reducible rfl); done))
            (try simp only [Act.put, List.setIfInBounds_toArray, List.set_cons_zero, List.set_cons_succ])
            refine wpAnyD_takeSL (i := 3) rfl (by kernel_rfl) (fun _ _ _ _ h => h) hS ?_
            apply Exists.intro
            refine ⟨Or.inl ⟨by rfl, ?_⟩, ?_⟩
            (focus (intro wz hz; go_simp; (try simp (disch := omega) only [IntWalk.i64_in, IntWalk.wrap64_in]); (try simp only [hjb, hjc]); (try with_reducible rfl); done))
            (try simp only [Act.put, List.setIfInBounds_toArray, List.set_cons_zero, List.set_cons_succ])
            refine wpAnyD_takeSL (i := 4) rfl (by kernel_rfl) (fun _ _ _ _ h => h) hS ?_
            apply Exists.intro
            refine ⟨Or.inl ⟨by rfl, ?_⟩, ?_⟩
            (focus (intro wz hz; go_simp; (try with_reducible rfl); done))
            (try simp only [Act.put, List.setIfInBounds_toArray, List.set_cons_zero, List.set_cons_succ])
            refine wpAnyD_takeSL (i := 5) rfl (by kernel_rfl) (fun _ _ _ _ h => h) hS ?_
            apply Exists.intro
            refine ⟨Or.inr ⟨by rfl, rfl⟩, ?_⟩
            (try simp only [Act.put, List.setIfInBounds_toArray, List.set_cons_zero, List.set_cons_succ])
            refine wpAnyD_takeSL (i := 6) rfl (by kernel_rfl) (fun _ _ _ _ h => h) hS ?_
            apply Exists.intro
            refine ⟨Or.inr ⟨by rfl, rfl⟩, ?_⟩
            (try simp only [Act.put, List.setIfInBounds_toArray, List.set_cons_zero, List.set_cons_succ])
            refine wpAnyD_takeSL (i := 7) rfl (by kernel_rfl) (fun _ _ _ _ h => h) hS ?_
            apply Exists.intro
            refine ⟨Or.inr ⟨by rfl, rfl⟩, ?_⟩
            (try simp only [Act.put, List.setIfInBounds_toArray, List.set_cons_zero, List.set_cons_succ])
            refine wpAnyD_takeSL (i := 8) rfl (by kernel_rfl) (fun _ _ _ _ h => h) hS ?_
            apply Exists.intro
            refine ⟨Or.inr ⟨by rfl, rfl⟩, ?_⟩
            (try simp only [Act.put, List.setIfInBounds_toArray, List.set_cons_zero, List.set_cons_succ])
            refine wpAnyD_takeSL (i := 9) rfl (by kernel_rfl) (fun _ _ _ _ h => h) hS ?_
            apply Exists.intro
            refine ⟨Or.inr ⟨by rfl, rfl⟩, ?_⟩
            (try simp only [Act.put, List.setIfInBounds_toArray, List.set_cons_zero, List.set_cons_succ])
            refine wpAnyD_takeSL (i := 10) rfl (by kernel_rfl) (fun _ _ _ _ h => h) hS ?_
            apply Exists.intro
            refine ⟨Or.inr ⟨by rfl, rfl⟩, ?_⟩
            (try simp only [Act.put, List.setIfInBounds_toArray, List.set_cons_zero, List.set_cons_succ])
            refine wpAnyD_takeSL (i := 11) rfl (by kernel_rfl) (fun _ _ _ _ h => h) hS ?_
            apply Exists.intro
            refine ⟨Or.inr ⟨by rfl, rfl⟩, ?_⟩
            (try simp only [Act.put, List.setIfInBounds_toArray, List.set_cons_zero, List.set_cons_succ])
            refine wpAnyD_takeSL (i := 12) rfl (by kernel_rfl) (fun _ _ _ _ h => h) hS ?_
            apply Exists.intro
            refine ⟨Or.inr ⟨by rfl, rfl⟩, ?_⟩
            (try simp only [Act.put, List.setIfInBounds_toArray, List.set_cons_zero, List.set_cons_succ])
            refine wpAnyD_takeSL (i := 13) rfl (by kernel_rfl) (fun _ _ _ _ h => h) hS ?_
            apply Exists.intro
            refine ⟨Or.inr ⟨by rfl, rfl⟩, ?_⟩
            (try simp only [Act.put, List.setIfInBounds_toArray, List.set_cons_zero, List.set_cons_succ])
            refine wpAnyD_takeSL (i := 14) rfl (by kernel_rfl) (fun _ _ _ _ h => h) hS ?_
            apply Exists.intro
            refine ⟨Or.inl ⟨by rfl, ?_⟩, ?_⟩
            (focus (intro wz hz; go_simp; (try with_reducible rfl); done))
            (try simp only [Act.put, List.setIfInBounds_toArray, List.set_cons_zero, List.set_cons_succ])
            refine wpAnyD_done (by kernel_rfl) ?_ _
            clear hS x0 x1 x2
            simp only [Exit.then]; go_step; go_meet
            exact ⟨by rw [tB_out hjl], hEz⟩
        case rest =>
          obtain ⟨rfl, hY⟩ := hcut
          obtain ⟨Wk, rfl⟩ : ∃ W, W = wc := ⟨_, rfl⟩
          replace hX := hX.trans hY
          replace b0 := b0.ext hY
          replace b1 := b1.ext hY
          replace b2 := b2.ext hY
          replace tv := isT.ext hY tv
          replace hE1 := hE1.trans hY
          replace hUp := hUp.ext hY
          replace hown := hown.ext hY
          replace hE := hE.trans hY
          clear hY
          replace qz : r2 < Wk.heap.size := b2.lt
          cases htB : tB p.flat j q.x.s with
          | true =>
            obtain ⟨hjl, hjs⟩ := tB_t htB
            go_upto_region 8 with fail
            refine wp_region_lit ?_
            refine wpList_plain rfl (fun K hK => ?_)
            go_simp
            (try dsimp only); refine hK _ _ ?_; clear hK K; (try simp only [Act.put, List.setIfInBounds_toArray, List.set_cons_zero, List.set_cons_succ])
            refine wpList_plain rfl (fun K hK => ?_)
            go_simp; (try simp (disch := omega) only [IntWalk.i64_in, IntWalk.wrap64_in])
            (try dsimp only); refine hK _ _ ?_; clear hK K; (try simp only [Act.put, List.setIfInBounds_toArray, List.set_cons_zero, List.set_cons_succ])
            refine wpList_plain rfl (fun K hK => ?_)
            go_simp
            (try dsimp only); refine hK _ _ ?_; clear hK K; (try simp only [Act.put, List.setIfInBounds_toArray, List.set_cons_zero, List.set_cons_succ])
            refine wpList_nil ?_
            go_wp2_with fail
            go_roundw
            case rel => exact ⟨j + 1, by go_num, by omega, take_next hlow hjl hjs, hX⟩
            case measure => simp [intOf]; omega
          | false =>
            go_upto_region 9 with fail
            cases hqd : q.d with
            | true =>
              refine wp_region_lit ?_
              refine wpList_plain rfl (fun K hK => ?_)
              go_simp
              (try dsimp only); refine hK _ _ ?_; clear hK K; (try simp only [Act.put, List.setIfInBounds_toArray, List.set_cons_zero, List.set_cons_succ])
              refine wpList_plain rfl (fun K hK => ?_)
              have zc := b2.cell 0; go_simp; clear zc; (try simp only [hqd])
              (try dsimp only); refine hK _ _ ?_; clear hK K; (try simp only [Act.put, List.setIfInBounds_toArray, List.set_cons_zero, List.set_cons_succ])
              refine wpList_nil ?_
              go_upto_region 10 with fail
              go_upto_region 10 with fail
              go_cut [10] (fun v wc => v = .bool (tE p.flat j q.x.s) ∧ Ext Wk wc)
              case first =>
                by_cases hjl : j < p.flat.length
                · obtain ⟨gw, ow, rfl, hd1, hd2, hgw, hrw⟩ := sl_at hown.isSl hjl
                  have cw : Wk.cell? ⟨gw, ow + j * 6, none⟩ = some (.int .i64 (p.flat[j]).s) := hrw 0 _ rfl
                  have hjb : decide ((j : Int) < (p.flat.length : Int)) = true := by simpa using hjl
                  have hjc : decide (j < p.flat.length) = true := by simpa using hjl
                  have hEz : Ext Wk Wk := Ext.refl _
                  have x0 := b0
                  have x1 := b1
                  have x2 := b2
                  have hS : GrownX Wk [] Wk := GrownX.refl _ _
                  refine wp_region_S (GrownX Wk []) (by kernel_rfl) ?_
                  refine name_wd (fun W521 hW => ?_)
                  have hx : Ext Wk W521 := by rw [hW]; exact ext_drew _
                  clear hW
                  replace hS := hS.ext hx
                  replace b0 := b0.ext hx
                  replace b1 := b1.ext hx
                  replace b2 := b2.ext hx
                  replace tv := isT.ext hx tv
                  replace hE1 := hE1.trans hx
                  replace hUp := hUp.ext hx
                  replace hown := hown.ext hx
                  replace hEz := hEz.trans hx
                  replace hE := hE.trans hx
                  clear hx
                  replace qz : r2 < W521.heap.size := b2.lt
                  refine wpAnyD_takeSL (i := 0) rfl (by kernel_rfl) (fun _ _ _ _ h => h) hS ?_
                  apply Exists.intro
                  refine ⟨Or.inl ⟨by rfl, ?_⟩, ?_⟩
                  (focus (intro wz hz; go_simp; (try with_reducible rfl); done))
                  (try simp only [Act.put, List.setIfInBounds_toArray, List.set_cons_zero, List.set_cons_succ])
                  refine wpAnyD_takeSL (i := 1) rfl (by kernel_rfl) (fun _ _ _ _ h => h) hS ?_
                  apply Exists.intro
                  refine ⟨Or.inl ⟨by rfl, ?_⟩, ?_⟩
                  (focus (intro wz hz; go_simp; (try with_reducible rfl); done))
                  (try simp only [Act.put, List.setIfInBounds_toArray, List.set_cons_zero, List.set_cons_succ])
                  refine wpAnyD_takeSL (i := 2) rfl (by kernel_rfl) (fun _ _ _ _ h => h) hS ?_
                  apply Exists.intro
                  refine ⟨Or.inl ⟨by rfl, ?_⟩, ?_⟩
                  (focus (intro wz hz; go_simp; (try with_reducible rfl); done))
                  (try simp only [Act.put, List.setIfInBounds_toArray, List.set_cons_zero, List.set_cons_succ])
                  refine wpAnyD_takeSL (i := 3) rfl (by kernel_rfl) (fun _ _ _ _ h => h) hS ?_
                  apply Exists.intro
                  refine ⟨Or.inl ⟨by rfl, ?_⟩, ?_⟩
                  (focus (intro wz hz; go_simp; (try simp (disch := omega) only [IntWalk.i64_in, IntWalk.wrap64_in]); (try simp only [hjb, hjc]); (try with_reducible rfl); done))
                  (try simp only [Act.put, List.setIfInBounds_toArray, List.set_cons_zero, List.set_cons_succ])
                  refine wpAnyD_takeSL (i := 4) rfl (by kernel_rfl) (fun _ _ _ _ h => h) hS ?_
                  apply Exists.intro
                  refine ⟨Or.inl ⟨by rfl, ?_⟩, ?_⟩
                  (focus (intro wz hz; go_simp; (try with_reducible rfl); done))
                  (try simp only [Act.put, List.setIfInBounds_toArray, List.set_cons_zero, List.set_cons_succ])
                  refine wpAnyD_takeSL (i := 5) rfl (by kernel_rfl) (fun _ _ _ _ h => h) hS ?_
                  apply Exists.intro
                  refine ⟨Or.inl ⟨by rfl, ?_⟩, ?_⟩
                  (focus (intro wz hz; go_simp; (try with_reducible rfl); done))
                  (try simp only [Act.put, List.setIfInBounds_toArray, List.set_cons_zero, List.set_cons_succ])
                  refine wpAnyD_takeSL (i := 6) rfl (by kernel_rfl) (fun _ _ _ _ h => h) hS ?_
                  apply Exists.intro
                  refine ⟨Or.inl ⟨by rfl, ?_⟩, ?_⟩
                  (focus (intro wz hz; go_simp; (try with_reducible rfl); done))
                  (try simp only [Act.put, List.setIfInBounds_toArray, List.set_cons_zero, List.set_cons_succ])
                  refine wpAnyD_takeSL (i := 7) rfl (by kernel_rfl) (fun _ _ _ _ h => h) hS ?_
                  apply Exists.intro
                  refine ⟨Or.inl ⟨by rfl, ?_⟩, ?_⟩
                  (focus (intro wz hz; go_simp; (try with_reducible rfl); done))
                  (try simp only [Act.put, List.setIfInBounds_toArray, List.set_cons_zero, List.set_cons_succ])
                  refine wpAnyD_takeSL (i := 8) rfl (by kernel_rfl) (fun _ _ _ _ h => h) hS ?_
                  apply Exists.intro
                  refine ⟨Or.inl ⟨by rfl, ?_⟩, ?_⟩
                  (focus (intro wz hz; go_simp; (try with_reducible rfl); done))
                  (try simp only [Act.put, List.setIfInBounds_toArray, List.set_cons_zero, List.set_cons_succ])
                  refine wpAnyD_takeSL (i := 9) rfl (by kernel_rfl) (fun _ _ _ _ h => h) hS ?_
                  apply Exists.intro
                  refine ⟨Or.inl ⟨by rfl, ?_⟩, ?_⟩
                  (focus (intro wz hz; have zc0 := GrownX.cell hz cw hgw (by first | decide | (simp; done) | (simp; omega) | omega); go_simp; (try with_reducible rfl); done))
                  (try simp only [Act.put, List.setIfInBounds_toArray, List.set_cons_zero, List.set_cons_succ])
                  refine wpAnyD_takeSL (i := 10) rfl (by kernel_rfl) (fun _ _ _ _ h => h) hS ?_
                  apply Exists.intro
                  refine ⟨Or.inl ⟨by rfl, ?_⟩, ?_⟩
                  (focus (intro wz hz; go_simp; (try with_reducible rfl); done))
                  (try simp only [Act.put, List.setIfInBounds_toArray, List.set_cons_zero, List.set_cons_succ])
                  refine wpAnyD_takeSL (i := 11) rfl (by kernel_rfl) (fun _ _ _ _ h => h) hS ?_
                  apply Exists.intro
                  refine ⟨Or.inl ⟨by rfl, ?_⟩, ?_⟩
                  (focus (intro wz hz; go_simp; (try with_reducible rfl); done))
                  (try simp only [Act.put, List.setIfInBounds_toArray, List.set_cons_zero, List.set_cons_succ])
                  refine wpAnyD_takeSL (i := 12) rfl (by kernel_rfl) (fun _ _ _ _ h => h) hS ?_
                  apply Exists.intro
                  refine ⟨Or.inl ⟨by rfl, ?_⟩, ?_⟩
                  (focus (intro wz hz; have zc := (GrownX.blk hz x2 (by first | decide | (simp; done) | (simp; omega) | omega)).cell 1; go_simp; (try with_reducible rfl); done))
                  (try simp only [Act.put, List.setIfInBounds_toArray, List.set_cons_zero, List.set_cons_succ])
                  refine wpAnyD_takeSL (i := 13) rfl (by kernel_rfl) (fun _ _ _ _ h => h) hS ?_
                  apply Exists.intro
                  refine ⟨Or.inl ⟨by rfl, ?_⟩, ?_⟩
                  (focus (intro wz hz; go_simp; (try simp (disch := omega) only [IntWalk.i64_in, IntWalk.wrap64_in]); (try simp only [hjb, hjc]); (try with_reducible rfl); done))
                  (try simp only [Act.put, List.setIfInBounds_toArray, List.set_cons_zero, List.set_cons_succ])
                  refine wpAnyD_takeSL (i := 14) rfl (by kernel_rfl) (fun _ _ _ _ h => h) hS ?_
                  apply Exists.intro
                  refine ⟨Or.inl ⟨by rfl, ?_⟩, ?_⟩
                  (focus (intro wz hz; go_simp; (try with_reducible rfl); done))
                  (try simp only [Act.put, List.setIfInBounds_toArray, List.set_cons_zero, List.set_cons_succ])
                  refine wpAnyD_oneL (i := 15) rfl (by kernel_rfl) (fun K hK => ?_)
                  rw [if_pos (by rfl)]
                  go_simp
                  (try dsimp only); refine hK.out _ _ (fun _ => hS) ?_; clear hK K; (try simp only [Act.put, List.setIfInBounds_toArray, List.set_cons_zero, List.set_cons_succ])
                  refine wpAnyD_done (by kernel_rfl) ?_ _
                  clear hS x0 x1 x2
                  simp only [Exit.then]; go_step; go_meet
                  exact ⟨by rw [tE_in hjl], hEz⟩
                · have hjb : decide ((j : Int) < (p.flat.length : Int)) = false := by simpa using hjl
                  have hjc : decide (j < p.flat.length) = false := by simpa using hjl
                  have hEz : Ext Wk Wk := Ext.refl _
                  have x0 := b0
                  have x1 := b1
                  have x2 := b2
                  have hS : GrownX Wk [] Wk := GrownX.refl _ _
                  refine wp_region_S (GrownX Wk []) (by kernel_rfl) ?_
                  refine name_wd (fun W541 hW => ?_)
                  have hx : Ext Wk W541 := by rw [hW]; exact ext_drew _
                  clear hW
                  replace hS := hS.ext hx
                  replace b0 := b0.ext hx
                  replace b1 := b1.ext hx
                  replace b2 := b2.ext hx
                  replace tv := isT.ext hx tv
                  replace hE1 := hE1.trans hx
                  replace hUp := hUp.ext hx
                  replace hown := hown.ext hx
                  replace hEz := hEz.trans hx
                  replace hE := hE.trans hx
                  clear hx
                  replace qz : r2 < W541.heap.size := b2.lt
                  refine wpAnyD_takeSL (i := 0) rfl (by kernel_rfl) (fun _ _ _ _ h => h) hS ?_
                  apply Exists.intro
                  refine ⟨Or.inl ⟨by rfl, ?_⟩, ?_⟩
                  (focus (intro wz hz; go_simp; (try with_reducible rfl); done))
                  (try simp only [Act.put, List.setIfInBounds_toArray, List.set_cons_zero, List.set_cons_succ])
                  refine wpAnyD_takeSL (i := 1) rfl (by kernel_rfl) (fun _ _ _ _ h => h) hS ?_
                  apply Exists.intro
                  refine ⟨Or.inl ⟨by rfl, ?_⟩, ?_⟩
                  (focus (intro wz hz; go_simp; (try with_reducible rfl); done))
                  (try simp only [Act.put, List.setIfInBounds_toArray, List.set_cons_zero, List.set_cons_succ])
                  refine wpAnyD_takeSL (i := 2) rfl (by kernel_rfl) (fun _ _ _ _ h => h) hS ?_
                  apply Exists.intro
                  refine ⟨Or.inl ⟨by rfl, ?_⟩, ?_⟩
                  (focus (intro wz hz; go_simp; (try with_reducible rfl); done))
                  (try simp only [Act.put, List.setIfInBounds_toArray, List.set_cons_zero, List.set_cons_succ])
                  refine wpAnyD_takeSL (i := 3) rfl (by kernel_rfl) (fun _ _ _ _ h => h) hS ?_
                  apply Exists.intro
                  refine ⟨Or.inl ⟨by rfl, ?_⟩, ?_⟩
                  (focus (intro wz hz; go_simp; (try simp (disch := omega) only [IntWalk.i64_in, IntWalk.wrap64_in]); (try simp only [hjb, hjc]); (try with_reducible rfl); done))
                  (try simp only [Act.put, List.setIfInBounds_toArray, List.set_cons_zero, List.set_cons_succ])
                  refine wpAnyD_takeSL (i := 4) rfl (by kernel_rfl) (fun _ _ _ _ h => h) hS ?_
                  apply Exists.intro
                  refine ⟨Or.inl ⟨by rfl, ?_⟩, ?_⟩
                  (focus (intro wz hz; go_simp; (try with_reducible rfl); done))
                  (try simp only [Act.put, List.setIfInBounds_toArray, List.set_cons_zero, List.set_cons_succ])
                  refine wpAnyD_takeSL (i := 5) rfl (by kernel_rfl) (fun _ _ _ _ h => h) hS ?_
                  apply Exists.intro
                  refine ⟨Or.inr ⟨by rfl, rfl⟩, ?_⟩
                  (try simp only [Act.put, List.setIfInBounds_toArray, List.set_cons_zero, List.set_cons_succ])
                  refine wpAnyD_takeSL (i := 6) rfl (by kernel_rfl) (fun _ _ _ _ h => h) hS ?_
                  apply Exists.intro
                  refine ⟨Or.inr ⟨by rfl, rfl⟩, ?_⟩
                  (try simp only [Act.put, List.setIfInBounds_toArray, List.set_cons_zero, List.set_cons_succ])
                  refine wpAnyD_takeSL (i := 7) rfl (by kernel_rfl) (fun _ _ _ _ h => h) hS ?_
                  apply Exists.intro
                  refine ⟨Or.inr ⟨by rfl, rfl⟩, ?_⟩
                  (try simp only [Act.put, List.setIfInBounds_toArray, List.set_cons_zero, List.set_cons_succ])
                  refine wpAnyD_takeSL (i := 8) rfl (by kernel_rfl) (fun _ _ _ _ h => h) hS ?_
                  apply Exists.intro
                  refine ⟨Or.inr ⟨by rfl, rfl⟩, ?_⟩
                  (try simp only [Act.put, List.setIfInBounds_toArray, List.set_cons_zero, List.set_cons_succ])
                  refine wpAnyD_takeSL (i := 9) rfl (by kernel_rfl) (fun _ _ _ _ h => h) hS ?_
                  apply Exists.intro
                  refine ⟨Or.inr ⟨by rfl, rfl⟩, ?_⟩
                  (try simp only [Act.put, List.setIfInBounds_toArray, List.set_cons_zero, List.set_cons_succ])
                  refine wpAnyD_takeSL (i := 10) rfl (by kernel_rfl) (fun _ _ _ _ h => h) hS ?_
                  apply Exists.intro
                  refine ⟨Or.inr ⟨by rfl, rfl⟩, ?_⟩
                  (try simp only [Act.put, List.setIfInBounds_toArray, List.set_cons_zero, List.set_cons_succ])
                  refine wpAnyD_takeSL (i := 11) rfl (by kernel_rfl) (fun _ _ _ _ h => h) hS ?_
                  apply Exists.intro
                  refine ⟨Or.inr ⟨by rfl, rfl⟩, ?_⟩
                  (try simp only [Act.put, List.setIfInBounds_toArray, List.set_cons_zero, List.set_cons_succ])
                  refine wpAnyD_takeSL (i := 12) rfl (by kernel_rfl) (fun _ _ _ _ h => h) hS ?_
                  apply Exists.intro
                  refine ⟨Or.inr ⟨by rfl, rfl⟩, ?_⟩
                  (try simp only [Act.put, List.setIfInBounds_toArray, List.set_cons_zero, List.set_cons_succ])
                  refine wpAnyD_takeSL (i := 13) rfl (by kernel_rfl) (fun _ _ _ _ h => h) hS ?_
                  apply Exists.intro
                  refine ⟨Or.inr ⟨by rfl, rfl⟩, ?_⟩
                  (try simp only [Act.put, List.setIfInBounds_toArray, List.set_cons_zero, List.set_cons_succ])
                  refine wpAnyD_takeSL (i := 14) rfl (by kernel_rfl) (fun _ _ _ _ h => h) hS ?_
                  apply Exists.intro
                  refine ⟨Or.inl ⟨by rfl, ?_⟩, ?_⟩
                  (focus (intro wz hz; go_simp; (try with_reducible rfl); done))
                  (try simp only [Act.put, List.setIfInBounds_toArray, List.set_cons_zero, List.set_cons_succ])
                  refine wpAnyD_oneL (i := 15) rfl (by kernel_rfl) (fun K hK => ?_)
                  rw [if_pos (by rfl)]
                  go_simp
                  (try dsimp only); refine hK.out _ _ (fun _ => hS) ?_; clear hK K; (try simp only [Act.put, List.setIfInBounds_toArray, List.set_cons_zero, List.set_cons_succ])
                  refine wpAnyD_done (by kernel_rfl) ?_ _
                  clear hS x0 x1 x2
                  simp only [Exit.then]; go_step; go_meet
                  exact ⟨by rw [tE_out hjl], hEz⟩
              case rest =>
                obtain ⟨rfl, hY⟩ := hcut
                obtain ⟨Wl, rfl⟩ : ∃ W, W = wc := ⟨_, rfl⟩
                replace b0 := b0.ext hY
                replace b1 := b1.ext hY
                replace b2 := b2.ext hY
                replace tv := isT.ext hY tv
                replace hE1 := hE1.trans hY
                replace hUp := hUp.ext hY
                replace hown := hown.ext hY
                replace hE := hE.trans hY
                clear hY
                replace qz : r2 < Wl.heap.size := b2.lt
                cases htE : tE p.flat j q.x.s with
                | true =>
                  obtain ⟨hjl, hjs⟩ := tE_t htE
                  obtain ⟨hF, hg2, hfl⟩ := del_hitP hp hjl hjs
                  go_upto_region 11 with fail
                  obtain ⟨m2, hm4, hm5⟩ : ∃ m2, r2 < m2 ∧ m2 = Wl.heap.size := ⟨_, qz, rfl⟩
                  have hm6 : m2 ≤ Wl.heap.size := by omega
                  clear hm5
                  refine wp_region_lit ?_
                  refine wpList_plain rfl (fun K hK => ?_)
                  (first | (refine wp_ld 28 _ (b1.range) (by rfl) (by rfl) Try.underlying28 rfl (by exact Try.infoT) ?_))
                  (try dsimp only); refine hK _ _ ?_; clear hK K; (try simp only [Act.put, List.setIfInBounds_toArray, List.set_cons_zero, List.set_cons_succ])
                  refine wpList_plain rfl (fun K hK => ?_)
                  go_simp
                  (try dsimp only); refine hK _ _ ?_; clear hK K; (try simp only [Act.put, List.setIfInBounds_toArray, List.set_cons_zero, List.set_cons_succ])
                  refine wpList_plain rfl (fun K hK => ?_)
                  go_simp
                  (try dsimp only); refine hK _ _ ?_; clear hK K; (try simp only [Act.put, List.setIfInBounds_toArray, List.set_cons_zero, List.set_cons_succ])
                  refine wpList_plain rfl (fun K hK => ?_)
                  have zc := b2.cell 1; go_simp; clear zc
                  (try dsimp only); refine hK _ _ ?_; clear hK K; (try simp only [Act.put, List.setIfInBounds_toArray, List.set_cons_zero, List.set_cons_succ])
                  refine wpList_plain rfl (fun K hK => ?_)
                  go_simp
                  (go_at_call 20; refine (delete_is p q.x.s v _ _ _ hF (A := Lo A0 W0'.heap.size m2) (Up.lo hUp0 hE1 hm6) hp tv.up).mono ?_; intro e W601 hpp; obtain ⟨v2, rfl, t2, hx⟩ := hpp)
                  (try dsimp only); refine hK _ _ ?_; clear hK K; (try simp only [Act.put, List.setIfInBounds_toArray, List.set_cons_zero, List.set_cons_succ])
                  replace b0 := b0.ext hx
                  replace b1 := b1.ext hx
                  replace b2 := b2.ext hx
                  replace tv := isT.ext hx tv
                  replace hE1 := hE1.trans hx
                  replace hUp := hUp.ext hx
                  replace hown := hown.ext hx
                  replace hm6 := Nat.le_trans hm6 hx.below.size
                  replace hE := hE.trans hx
                  clear hx
                  replace qz : r2 < W601.heap.size := b2.lt
                  replace t2 := isT.lw (isT.hi t2)
                  obtain ⟨m3, hm8⟩ : ∃ m, m = W601.heap.size := ⟨_, rfl⟩
                  rw [← hm8] at t2
                  have hm7 : m3 ≤ W601.heap.size := by omega
                  clear hm8
                  refine wpList_plain rfl (fun K hK => ?_)
                  go_simp
                  (try dsimp only); refine hK _ _ ?_; clear hK K; (try simp only [Act.put, List.setIfInBounds_toArray, List.set_cons_zero, List.set_cons_succ])
                  refine wpList_plain rfl (fun K hK => ?_)
                  go_simp
                  (try dsimp only); refine hK _ _ ?_; clear hK K; (try simp only [Act.put, List.setIfInBounds_toArray, List.set_cons_zero, List.set_cons_succ])
                  refine wpList_plain rfl (fun K hK => ?_)
                  go_simp
                  (try dsimp only); refine hK _ _ ?_; clear hK K; (try simp only [Act.put, List.setIfInBounds_toArray, List.set_cons_zero, List.set_cons_succ])
                  refine wpList_plain rfl (fun K hK => ?_)
                  have qb : m3 ≤ W601.heap.size := hm7
                  go_simp
                  (try dsimp only); refine hK _ _ ?_; clear hK K; (try simp only [Act.put, List.setIfInBounds_toArray, List.set_cons_zero, List.set_cons_succ])
                  refine name_wl (fun W602 hW => ?_)
                  have hx : Ext W601 W602 := by rw [hW]; exact ext_alloc _ _
                  have b3 : Blk W602 W601.heap.size 28 TV.z.cs := by rw [hW]; exact Blk.newAt rfl
                  clear hW
                  replace b0 := b0.ext hx
                  replace b1 := b1.ext hx
                  replace b2 := b2.ext hx
                  replace tv := isT.ext hx tv
                  replace hE1 := hE1.trans hx
                  replace hUp := hUp.ext hx
                  replace hown := hown.ext hx
                  replace hm6 := Nat.le_trans hm6 hx.below.size
                  replace t2 := isT.ext hx t2
                  replace hm7 := Nat.le_trans hm7 hx.below.size
                  replace hE := hE.trans hx
                  clear hx
                  obtain ⟨r3, hr⟩ : ∃ r, r = W601.heap.size := ⟨_, rfl⟩
                  rw [← hr] at b3
                  try rw [← hr]
                  have q3 : r2 < r3 := by omega
                  have qb3 : m3 ≤ r3 := by omega
                  clear hr
                  replace qz : r3 < W602.heap.size := b3.lt
                  refine wpList_plain rfl (fun K hK => ?_)
                  refine wp_store_box 28 _ _ (by rfl) b3 (by rfl) (by rfl) (by exact Try.infoT) (by first | exact RV.one _ | exact TV.one _ rfl | exact OV.one _ | exact TV.one TV.z rfl | exact TV.one _ (isT.one tv) | exact TV.one _ (isT.one t2)) (by rfl) (fun W603 hg bn => ?_)
                  replace b0 := b0.kept hg (by simp only [ne_eq, Option.some.injEq]; omega)
                  replace b1 := b1.kept hg (by simp only [ne_eq, Option.some.injEq]; omega)
                  replace b2 := b2.kept hg (by simp only [ne_eq, Option.some.injEq]; omega)
                  replace tv := isT.kept hg (Lw.not (by omega)) tv
                  replace hE1 := ext_grow hE1 hg (fun q hq => by cases hq; omega)
                  replace hUp := hUp.grown hg
                  replace hown := hown.kept hg (.inr (hown.ne b3 (by decide)))
                  replace hm6 := Nat.le_trans hm6 hg.size
                  replace t2 := isT.kept hg (Lw.not (by omega)) t2
                  replace hm7 := Nat.le_trans hm7 hg.size
                  replace hE := ext_grow hE hg (fun q hq => by cases hq; omega)
                  clear b3 hg
                  have b3 := bn
                  clear bn
                  (try dsimp only); refine hK _ _ ?_; clear hK K; (try simp only [Act.put, List.setIfInBounds_toArray, List.set_cons_zero, List.set_cons_succ])
                  replace qz : r3 < W603.heap.size := b3.lt
                  refine wpList_plain rfl (fun K hK => ?_)
                  go_simp
                  (try dsimp only); refine hK _ _ ?_; clear hK K; (try simp only [Act.put, List.setIfInBounds_toArray, List.set_cons_zero, List.set_cons_succ])
                  refine wpList_nil ?_
                  clear hE1 hm6
                  go_upto_region 12 with fail
                  refine wp_region_lit ?_
                  refine wpList_plain rfl (fun K hK => ?_)
                  go_simp
                  (try dsimp only); refine hK _ _ ?_; clear hK K; (try simp only [Act.put, List.setIfInBounds_toArray, List.set_cons_zero, List.set_cons_succ])
                  refine wpList_plain rfl (fun K hK => ?_)
                  go_simp
                  (try dsimp only); refine hK _ _ ?_; clear hK K; (try simp only [Act.put, List.setIfInBounds_toArray, List.set_cons_zero, List.set_cons_succ])
                  refine wpList_plain rfl (fun K hK => ?_)
                  go_simp; (try simp (disch := omega) only [IntWalk.i64_in, IntWalk.wrap64_in])
                  (try dsimp only); refine hK _ _ ?_; clear hK K; (try simp only [Act.put, List.setIfInBounds_toArray, List.set_cons_zero, List.set_cons_succ])
                  refine wpList_plain rfl (fun K hK => ?_)
                  go_simp; (try simp (disch := omega) only [IntWalk.i64_in, IntWalk.wrap64_in])
                  (try dsimp only); refine hK _ _ ?_; clear hK K; (try simp only [Act.put, List.setIfInBounds_toArray, List.set_cons_zero, List.set_cons_succ])
                  refine wpList_nil ?_
                  go_upto_region 14 with fail
                  refine wp_region_lit ?_
                  refine wpList_plain rfl (fun K hK => ?_)
                  go_simp
                  (try dsimp only); refine hK _ _ ?_; clear hK K; (try simp only [Act.put, List.setIfInBounds_toArray, List.set_cons_zero, List.set_cons_succ])
                  refine wpList_nil ?_
                  go_upto_region 15 with fail
                  refine wp_region_lit ?_
                  refine wpList_plain rfl (fun K hK => ?_)
                  (first | (refine wp_ld 28 _ (b3.range) (by rfl) (by rfl) Try.underlying28 rfl (by exact Try.infoT) ?_))
                  (try dsimp only); refine hK _ _ ?_; clear hK K; (try simp only [Act.put, List.setIfInBounds_toArray, List.set_cons_zero, List.set_cons_succ])
                  refine wpList_plain rfl (fun K hK => ?_)
                  refine wp_store_box 28 _ _ (by rfl) b1 (by rfl) (by rfl) (by exact Try.infoT) (by first | exact RV.one _ | exact TV.one _ rfl | exact OV.one _ | exact TV.one TV.z rfl | exact TV.one _ (isT.one tv) | exact TV.one _ (isT.one t2)) (by rfl) (fun W604 hg bn => ?_)
                  replace b0 := b0.kept hg (by simp only [ne_eq, Option.some.injEq]; omega)
                  replace b2 := b2.kept hg (by simp only [ne_eq, Option.some.injEq]; omega)
                  replace b3 := b3.kept hg (by simp only [ne_eq, Option.some.injEq]; omega)
                  replace tv := isT.kept hg (fun h => hnA h.1) tv
                  replace hUp := hUp.grown hg
                  replace hown := hown.kept hg (.inr (hown.ne b1 (by decide)))
                  replace t2 := isT.kept hg (fun h => hnA h.1) t2
                  replace hm7 := Nat.le_trans hm7 hg.size
                  replace hE := ext_grow hE hg (fun q hq => by cases hq; omega)
                  clear b1 hg
                  have b1 := bn
                  clear bn
                  (try dsimp only); refine hK _ _ ?_; clear hK K; (try simp only [Act.put, List.setIfInBounds_toArray, List.set_cons_zero, List.set_cons_succ])
                  replace qz : r3 < W604.heap.size := b3.lt
                  refine wpList_nil ?_
                  go_upto_region 16 with fail
                  go_cut [6] (fun v wc => ownR wc w.heap.size v (p.flat.take j ++ p.flat.drop (j + 1)) ∧ Ext W604 wc)
                  case first =>
                    have hsl := hown.isSl
                    clear tv hown t2
                    have x0 := b0
                    have x1 := b1
                    have x2 := b2
                    have x3 := b3
                    obtain ⟨mX, hmX⟩ : ∃ m, m = W604.heap.size := ⟨_, rfl⟩
                    refine wp_region_S (GrownX W604 []) (by kernel_rfl) ?_
                    refine name_wd (fun W635 hW => ?_)
                    have hEX : Ext W604 W635 := by rw [hW]; exact ext_drew _
                    clear hW
                    have hS : GrownX W604 [] W635 := GrownX.of_ext hEX
                    refine wpAnyD_takeSL (i := 1) rfl (by kernel_rfl) (fun _ _ _ _ h => h) hS ?_
                    apply Exists.intro
                    refine ⟨Or.inl ⟨by rfl, ?_⟩, ?_⟩
                    (focus (intro wz hz; go_simp; (try with_reducible rfl); done))
                    (try simp only [Act.put, List.setIfInBounds_toArray, List.set_cons_zero, List.set_cons_succ])
                    refine wpAnyD_takeSL (i := 2) rfl (by kernel_rfl) (fun _ _ _ _ h => h) hS ?_
                    apply Exists.intro
                    refine ⟨Or.inl ⟨by rfl, ?_⟩, ?_⟩
                    (focus (intro wz hz; go_simp; (try with_reducible rfl); done))
                    (try simp only [Act.put, List.setIfInBounds_toArray, List.set_cons_zero, List.set_cons_succ])
                    refine wpAnyD_takeSL (i := 3) rfl (by kernel_rfl) (fun _ _ _ _ h => h) hS ?_
                    apply Exists.intro
                    refine ⟨Or.inl ⟨by rfl, ?_⟩, ?_⟩
                    (focus (intro wz hz; (first | exact exec_takeV _ _ (by rfl) hsl (by rfl) (by rfl) (by omega) | exact exec_dropV _ _ (by rfl) hsl (j + 1) (by rfl) (by rfl) (by omega) (by omega))))
                    (try simp only [Act.put, List.setIfInBounds_toArray, List.set_cons_zero, List.set_cons_succ])
                    refine wpAnyD_takeSL (i := 5) rfl (by kernel_rfl) (fun _ _ _ _ h => h) hS ?_
                    apply Exists.intro
                    refine ⟨Or.inl ⟨by rfl, ?_⟩, ?_⟩
                    (focus (intro wz hz; go_simp; (try with_reducible rfl); done))
                    (try simp only [Act.put, List.setIfInBounds_toArray, List.set_cons_zero, List.set_cons_succ])
                    refine wpAnyD_takeSL (i := 6) rfl (by kernel_rfl) (fun _ _ _ _ h => h) hS ?_
                    apply Exists.intro
                    refine ⟨Or.inl ⟨by rfl, ?_⟩, ?_⟩
                    (focus (intro wz hz; go_simp; (try with_reducible rfl); done))
                    (try simp only [Act.put, List.setIfInBounds_toArray, List.set_cons_zero, List.set_cons_succ])
                    refine wpAnyD_takeSL (i := 7) rfl (by kernel_rfl) (fun _ _ _ _ h => h) hS ?_
                    apply Exists.intro
                    refine ⟨Or.inl ⟨by rfl, ?_⟩, ?_⟩
                    (focus (intro wz hz; go_simp; (try simp (disch := omega) only [IntWalk.i64_in, IntWalk.wrap64_in]); (try with_reducible rfl); done))
                    (try simp only [Act.put, List.setIfInBounds_toArray, List.set_cons_zero, List.set_cons_succ])
                    refine wpAnyD_takeSL (i := 8) rfl (by kernel_rfl) (fun _ _ _ _ h => h) hS ?_
                    apply Exists.intro
                    refine ⟨Or.inl ⟨by rfl, ?_⟩, ?_⟩
                    (focus (intro wz hz; (first | exact exec_takeV _ _ (by rfl) hsl (by rfl) (by rfl) (by omega) | exact exec_dropV _ _ (by rfl) hsl (j + 1) (by rfl) (by rfl) (by omega) (by omega))))
                    (try simp only [Act.put, List.setIfInBounds_toArray, List.set_cons_zero, List.set_cons_succ])
                    refine wpAnyD_oneL (i := 0) rfl (by kernel_rfl) (fun K hK => ?_)
                    rw [if_pos (by rfl)]
                    refine wp_bs0 (by rfl) ?_
                    replace hS : GrownX W604 [] (W635.alloc (.cells #[] 25)) := GrownX.of_ext (hEX.trans (ext_alloc _ _))
                    (try dsimp only); refine hK.out _ _ (fun _ => hS) ?_; clear hK K; (try simp only [Act.put, List.setIfInBounds_toArray, List.set_cons_zero, List.set_cons_succ])
                    obtain ⟨g72, hg72⟩ : ∃ g, g = W635.heap.size := ⟨_, rfl⟩
                    have f72 := ownR_bs0 (W := W635) (base := mX) (by rw [hmX]; exact hEX.below.size)
                    rw [← hg72] at f72
                    try rw [← hg72]
                    have hlt72 : W635.heap.size ≤ g72 := by omega
                    refine name_wd (fun W636 hW => ?_)
                    rw [← hW] at f72 hS
                    replace hEX : Ext W604 W636 := by rw [hW]; exact hEX.trans (ext_alloc _ _)
                    have hsz72 : g72 < W636.heap.size := by rw [hW, hg72]; simp
                    clear hW
                    refine wpAnyD_oneL (i := 4) rfl (by kernel_rfl) (fun K hK => ?_)
                    rw [if_pos (by rfl)]
                    have hms : mX ≤ W636.heap.size := by rw [hmX]; exact hEX.below.size
                    refine wp_appS _ _ (by rfl) (by rfl) f72 (by rfl) (ys := p.flat.take j) ((isSl_takeV hsl (by omega)).ext hEX) (by simp only [List.length_append, List.length_nil, List.length_cons, List.length_take, List.length_drop]; omega) hms (fun v76 W637 f76 hgr => ?_)
                    replace hEX : Ext W604 W637 := ext_grow hEX hgr (fun q hq => by rw [← hmX]; exact (f72.lt q hq).1)
                    replace hS : GrownX W604 [] W637 := GrownX.of_ext hEX
                    (try dsimp only); refine hK.out _ _ (fun _ => hS) ?_; clear hK K; (try simp only [Act.put, List.setIfInBounds_toArray, List.set_cons_zero, List.set_cons_succ])
                    clear hgr
                    refine wpAnyD_oneL (i := 9) rfl (by kernel_rfl) (fun K hK => ?_)
                    rw [if_pos (by rfl)]
                    have hms : mX ≤ W637.heap.size := by rw [hmX]; exact hEX.below.size
                    refine wp_appS _ _ (by rfl) (by rfl) f76 (by rfl) (ys := p.flat.drop (j + 1)) ((isSl_dropV hsl (by omega)).ext hEX) (by simp only [List.length_append, List.length_nil, List.length_cons, List.length_take, List.length_drop]; omega) hms (fun v81 W638 f81 hgr => ?_)
                    replace hEX : Ext W604 W638 := ext_grow hEX hgr (fun q hq => by rw [← hmX]; exact (f76.lt q hq).1)
                    replace hS : GrownX W604 [] W638 := GrownX.of_ext hEX
                    (try dsimp only); refine hK.out _ _ (fun _ => hS) ?_; clear hK K; (try simp only [Act.put, List.setIfInBounds_toArray, List.set_cons_zero, List.set_cons_succ])
                    clear hgr
                    refine wpAnyD_oneL (i := 10) rfl (by kernel_rfl) (fun K hK => ?_)
                    rw [if_pos (by rfl)]
                    go_simp
                    (try dsimp only); refine hK.out _ _ (fun _ => hS) ?_; clear hK K; (try simp only [Act.put, List.setIfInBounds_toArray, List.set_cons_zero, List.set_cons_succ])
                    refine wpAnyD_done (by kernel_rfl) ?_ _
                    simp only [Exit.then]; go_step; go_meet
                    exact ⟨ownR_base (by simpa using f81) (by rw [hmX]; exact hE.below.size), hEX⟩
                  case rest =>
                    obtain ⟨hown2, hY⟩ := hcut
                    obtain ⟨Wm, rfl⟩ : ∃ W, W = wc := ⟨_, rfl⟩
                    replace b0 := b0.ext hY
                    replace b1 := b1.ext hY
                    replace b2 := b2.ext hY
                    replace b3 := b3.ext hY
                    replace tv := isT.ext hY tv
                    replace hUp := hUp.ext hY
                    replace hown := hown.ext hY
                    replace t2 := isT.ext hY t2
                    replace hm7 := Nat.le_trans hm7 hY.below.size
                    replace hE := hE.trans hY
                    clear hY
                    replace qz : r3 < Wm.heap.size := b3.lt
                    rw [← hfl] at hown2
                    go_upto_region 28 with fail
                    refine wp_region_lit ?_
                    refine wpList_plain rfl (fun K hK => ?_)
                    go_simp; (try simp (disch := omega) only [IntWalk.i64_in, IntWalk.wrap64_in])
                    (try dsimp only); refine hK _ _ ?_; clear hK K; (try simp only [Act.put, List.setIfInBounds_toArray, List.set_cons_zero, List.set_cons_succ])
                    refine wpList_plain rfl (fun K hK => ?_)
                    go_simp
                    (try dsimp only); refine hK _ _ ?_; clear hK K; (try simp only [Act.put, List.setIfInBounds_toArray, List.set_cons_zero, List.set_cons_succ])
                    refine wpList_nil ?_
                    go_wp2_with fail
                    go_roundw
                    case rel => exact ⟨k + 1, remP p q.x.s, v2, by go_num, by omega, b0, b1, isT.low t2, hg2, hown2, hE, hUp⟩
                    case measure => simp [intOf]; omega
                | false =>
                  have hF := del_missP (none_at hp.o hlow htB htE)
                  go_upto_region 11 with fail
                  obtain ⟨m2, hm4, hm5⟩ : ∃ m2, r2 < m2 ∧ m2 = Wl.heap.size := ⟨_, qz, rfl⟩
                  have hm6 : m2 ≤ Wl.heap.size := by omega
                  clear hm5
                  refine wp_region_lit ?_
                  refine wpList_plain rfl (fun K hK => ?_)
                  (first | (refine wp_ld 28 _ (b1.range) (by rfl) (by rfl) Try.underlying28 rfl (by exact Try.infoT) ?_))
                  (try dsimp only); refine hK _ _ ?_; clear hK K; (try simp only [Act.put, List.setIfInBounds_toArray, List.set_cons_zero, List.set_cons_succ])
                  refine wpList_plain rfl (fun K hK => ?_)
                  go_simp
                  (try dsimp only); refine hK _ _ ?_; clear hK K; (try simp only [Act.put, List.setIfInBounds_toArray, List.set_cons_zero, List.set_cons_succ])
                  refine wpList_plain rfl (fun K hK => ?_)
                  go_simp
                  (try dsimp only); refine hK _ _ ?_; clear hK K; (try simp only [Act.put, List.setIfInBounds_toArray, List.set_cons_zero, List.set_cons_succ])
                  refine wpList_plain rfl (fun K hK => ?_)
                  have zc := b2.cell 1; go_simp; clear zc
                  (try dsimp only); refine hK _ _ ?_; clear hK K; (try simp only [Act.put, List.setIfInBounds_toArray, List.set_cons_zero, List.set_cons_succ])
                  refine wpList_plain rfl (fun K hK => ?_)
                  go_simp
                  (go_at_call 20; refine (delete_is p q.x.s v _ _ _ hF (A := Lo A0 W0'.heap.size m2) (Up.lo hUp0 hE1 hm6) hp tv.up).mono ?_; intro e W801 hpp; obtain ⟨v2, rfl, t2, hx⟩ := hpp)
                  (try dsimp only); refine hK _ _ ?_; clear hK K; (try simp only [Act.put, List.setIfInBounds_toArray, List.set_cons_zero, List.set_cons_succ])
                  replace b0 := b0.ext hx
                  replace b1 := b1.ext hx
                  replace b2 := b2.ext hx
                  replace tv := isT.ext hx tv
                  replace hE1 := hE1.trans hx
                  replace hUp := hUp.ext hx
                  replace hown := hown.ext hx
                  replace hm6 := Nat.le_trans hm6 hx.below.size
                  replace hE := hE.trans hx
                  clear hx
                  replace qz : r2 < W801.heap.size := b2.lt
                  replace t2 := isT.lw (isT.hi t2)
                  obtain ⟨m3, hm8⟩ : ∃ m, m = W801.heap.size := ⟨_, rfl⟩
                  rw [← hm8] at t2
                  have hm7 : m3 ≤ W801.heap.size := by omega
                  clear hm8
                  refine wpList_plain rfl (fun K hK => ?_)
                  go_simp
                  (try dsimp only); refine hK _ _ ?_; clear hK K; (try simp only [Act.put, List.setIfInBounds_toArray, List.set_cons_zero, List.set_cons_succ])
                  refine wpList_plain rfl (fun K hK => ?_)
                  go_simp
                  (try dsimp only); refine hK _ _ ?_; clear hK K; (try simp only [Act.put, List.setIfInBounds_toArray, List.set_cons_zero, List.set_cons_succ])
                  refine wpList_plain rfl (fun K hK => ?_)
                  go_simp
                  (try dsimp only); refine hK _ _ ?_; clear hK K; (try simp only [Act.put, List.setIfInBounds_toArray, List.set_cons_zero, List.set_cons_succ])
                  refine wpList_plain rfl (fun K hK => ?_)
                  have qb : m3 ≤ W801.heap.size := hm7
                  go_simp
                  (try dsimp only); refine hK _ _ ?_; clear hK K; (try simp only [Act.put, List.setIfInBounds_toArray, List.set_cons_zero, List.set_cons_succ])
                  refine name_wl (fun W802 hW => ?_)
                  have hx : Ext W801 W802 := by rw [hW]; exact ext_alloc _ _
                  have b3 : Blk W802 W801.heap.size 28 TV.z.cs := by rw [hW]; exact Blk.newAt rfl
                  clear hW
                  replace b0 := b0.ext hx
                  replace b1 := b1.ext hx
                  replace b2 := b2.ext hx
                  replace tv := isT.ext hx tv
                  replace hE1 := hE1.trans hx
                  replace hUp := hUp.ext hx
                  replace hown := hown.ext hx
                  replace hm6 := Nat.le_trans hm6 hx.below.size
                  replace t2 := isT.ext hx t2
                  replace hm7 := Nat.le_trans hm7 hx.below.size
                  replace hE := hE.trans hx
                  clear hx
                  obtain ⟨r3, hr⟩ : ∃ r, r = W801.heap.size := ⟨_, rfl⟩
                  rw [← hr] at b3
                  try rw [← hr]
                  have q3 : r2 < r3 := by omega
                  have qb3 : m3 ≤ r3 := by omega
                  clear hr
                  replace qz : r3 < W802.heap.size := b3.lt
                  refine wpList_plain rfl (fun K hK => ?_)
                  refine wp_store_box 28 _ _ (by rfl) b3 (by rfl) (by rfl) (by exact Try.infoT) (by first | exact RV.one _ | exact TV.one _ rfl | exact OV.one _ | exact TV.one TV.z rfl | exact TV.one _ (isT.one tv) | exact TV.one _ (isT.one t2)) (by rfl) (fun W803 hg bn => ?_)
                  replace b0 := b0.kept hg (by simp only [ne_eq, Option.some.injEq]; omega)
                  replace b1 := b1.kept hg (by simp only [ne_eq, Option.some.injEq]; omega)
                  replace b2 := b2.kept hg (by simp only [ne_eq, Option.some.injEq]; omega)
                  replace tv := isT.kept hg (Lw.not (by omega)) tv
                  replace hE1 := ext_grow hE1 hg (fun q hq => by cases hq; omega)
                  replace hUp := hUp.grown hg
                  replace hown := hown.kept hg (.inr (hown.ne b3 (by decide)))
                  replace hm6 := Nat.le_trans hm6 hg.size
                  replace t2 := isT.kept hg (Lw.not (by omega)) t2
                  replace hm7 := Nat.le_trans hm7 hg.size
                  replace hE := ext_grow hE hg (fun q hq => by cases hq; omega)
                  clear b3 hg
                  have b3 := bn
                  clear bn
                  (try dsimp only); refine hK _ _ ?_; clear hK K; (try simp only [Act.put, List.setIfInBounds_toArray, List.set_cons_zero, List.set_cons_succ])
                  replace qz : r3 < W803.heap.size := b3.lt
                  refine wpList_plain rfl (fun K hK => ?_)
                  go_simp
                  (try dsimp only); refine hK _ _ ?_; clear hK K; (try simp only [Act.put, List.setIfInBounds_toArray, List.set_cons_zero, List.set_cons_succ])
                  refine wpList_nil ?_
                  go_upto_region 12 with fail
                  refine wp_region_lit ?_
                  refine wpList_plain rfl (fun K hK => ?_)
                  go_simp
                  (try dsimp only); refine hK _ _ ?_; clear hK K; (try simp only [Act.put, List.setIfInBounds_toArray, List.set_cons_zero, List.set_cons_succ])
                  refine wpList_plain rfl (fun K hK => ?_)
                  go_simp
                  (try dsimp only); refine hK _ _ ?_; clear hK K; (try simp only [Act.put, List.setIfInBounds_toArray, List.set_cons_zero, List.set_cons_succ])
                  refine wpList_plain rfl (fun K hK => ?_)
                  go_simp; (try simp (disch := omega) only [IntWalk.i64_in, IntWalk.wrap64_in])
                  (try dsimp only); refine hK _ _ ?_; clear hK K; (try simp only [Act.put, List.setIfInBounds_toArray, List.set_cons_zero, List.set_cons_succ])
                  refine wpList_plain rfl (fun K hK => ?_)
                  go_simp; (try simp (disch := omega) only [IntWalk.i64_in, IntWalk.wrap64_in])
                  (try dsimp only); refine hK _ _ ?_; clear hK K; (try simp only [Act.put, List.setIfInBounds_toArray, List.set_cons_zero, List.set_cons_succ])
                  refine wpList_nil ?_
                  go_upto_region 14 with fail
                  refine wp_region_lit ?_
                  refine wpList_plain rfl (fun K hK => ?_)
                  go_simp
                  (try dsimp only); refine hK _ _ ?_; clear hK K; (try simp only [Act.put, List.setIfInBounds_toArray, List.set_cons_zero, List.set_cons_succ])
                  refine wpList_nil ?_
                  go_upto_region 28 with fail
                  refine wp_region_lit ?_
                  refine wpList_plain rfl (fun K hK => ?_)
                  go_simp; (try simp (disch := omega) only [IntWalk.i64_in, IntWalk.wrap64_in])
                  (try dsimp only); refine hK _ _ ?_; clear hK K; (try simp only [Act.put, List.setIfInBounds_toArray, List.set_cons_zero, List.set_cons_succ])
                  refine wpList_plain rfl (fun K hK => ?_)
                  go_simp
                  (try dsimp only); refine hK _ _ ?_; clear hK K; (try simp only [Act.put, List.setIfInBounds_toArray, List.set_cons_zero, List.set_cons_succ])
                  refine wpList_nil ?_
                  go_wp2_with fail
                  go_roundw
                  case rel => exact ⟨k + 1, p, v, by go_num, by omega, b0, b1, isT.low tv, hp, hown, hE, hUp⟩
                  case measure => simp [intOf]; omega
            | false =>
              refine wp_region_lit ?_
              refine wpList_plain rfl (fun K hK => ?_)
              go_simp
              (try dsimp only); refine hK _ _ ?_; clear hK K; (try simp only [Act.put, List.setIfInBounds_toArray, List.set_cons_zero, List.set_cons_succ])
              refine wpList_plain rfl (fun K hK => ?_)
              have zc := b2.cell 0; go_simp; clear zc; (try simp only [hqd])
              (try dsimp only); refine hK _ _ ?_; clear hK K; (try simp only [Act.put, List.setIfInBounds_toArray, List.set_cons_zero, List.set_cons_succ])
              refine wpList_nil ?_
              go_upto_region 17 with fail
              refine wp_region_lit ?_
              refine wpList_plain rfl (fun K hK => ?_)
              go_simp
              (try dsimp only); refine hK _ _ ?_; clear hK K; (try simp only [Act.put, List.setIfInBounds_toArray, List.set_cons_zero, List.set_cons_succ])
              refine wpList_plain rfl (fun K hK => ?_)
              (first | (refine wp_ld 25 _ (Blk.opr b2) (by rfl) (by rfl) Try.underlying25 rfl (by exact Try.infoR) ?_))
              (try dsimp only); refine hK _ _ ?_; clear hK K; (try simp only [Act.put, List.setIfInBounds_toArray, List.set_cons_zero, List.set_cons_succ])
              refine wpList_plain rfl (fun K hK => ?_)
              go_simp
              (go_at_call 38; refine (rvalid_any q.x _).mono ?_; intro e W901 hpp; obtain ⟨rfl, hx⟩ := hpp)
              (try dsimp only); refine hK _ _ ?_; clear hK K; (try simp only [Act.put, List.setIfInBounds_toArray, List.set_cons_zero, List.set_cons_succ])
              replace b0 := b0.ext hx
              replace b1 := b1.ext hx
              replace b2 := b2.ext hx
              replace tv := isT.ext hx tv
              replace hE1 := hE1.trans hx
              replace hUp := hUp.ext hx
              replace hown := hown.ext hx
              replace hE := hE.trans hx
              clear hx
              replace qz : r2 < W901.heap.size := b2.lt
              refine wpList_plain rfl (fun K hK => ?_)
              go_simp
              (try dsimp only); refine hK _ _ ?_; clear hK K; (try simp only [Act.put, List.setIfInBounds_toArray, List.set_cons_zero, List.set_cons_succ])
              refine wpList_plain rfl (fun K hK => ?_)
              go_simp
              (try dsimp only); refine hK _ _ ?_; clear hK K; (try simp only [Act.put, List.setIfInBounds_toArray, List.set_cons_zero, List.set_cons_succ])
              refine wpList_nil ?_
              go_upto_region 19 with fail
              go_loopw [10, 13] (fun vh vi wr => ∃ (i : Nat) (h : Bool), vh = .bool h ∧ vi = .int .i64 i ∧ i ≤ p.flat.length ∧ Scan p.flat q.x i h ∧ Ext W901 wr) (fun _ vi _ => p.flat.length - (intOf vi).toNat)
              case atStart => exact ⟨0, _, rfl, rfl, by omega, Scan.zero _ _, Ext.refl _⟩
              case round =>
                obtain ⟨i, h, rfl, rfl, hi, hsc, hX⟩ := hrel
                obtain ⟨Wj, rfl⟩ : ∃ W, W = wr := ⟨_, rfl⟩
                have hx := hX
                replace b0 := b0.ext hx
                replace b1 := b1.ext hx
                replace b2 := b2.ext hx
                replace tv := isT.ext hx tv
                replace hE1 := hE1.trans hx
                replace hUp := hUp.ext hx
                replace hown := hown.ext hx
                replace hE := hE.trans hx
                clear hx
                replace qz : r2 < Wj.heap.size := b2.lt
                cases h with
                | false =>
                  by_cases hil : i < p.flat.length
                  · have hib : decide ((i : Int) < (p.flat.length : Int)) = true := by simpa using hil
                    have hic : decide (i < p.flat.length) = true := by simpa using hil
                    go_upto_region 19 with fail
                    refine wp_region_lit ?_
                    refine wpList_plain rfl (fun K hK => ?_)
                    go_simp
                    (try dsimp only); refine hK _ _ ?_; clear hK K; (try simp only [Act.put, List.setIfInBounds_toArray, List.set_cons_zero, List.set_cons_succ])
                    refine wpList_plain rfl (fun K hK => ?_)
                    go_simp; (try simp only [hib, hic])
                    (try dsimp only); refine hK _ _ ?_; clear hK K; (try simp only [Act.put, List.setIfInBounds_toArray, List.set_cons_zero, List.set_cons_succ])
                    refine wpList_plain rfl (fun K hK => ?_)
                    go_simp
                    (try dsimp only); refine hK _ _ ?_; clear hK K; (try simp only [Act.put, List.setIfInBounds_toArray, List.set_cons_zero, List.set_cons_succ])
                    refine wpList_step (fun K hK => ?_)
                    rw [if_pos (by rfl)]
                    go_simp
                    (try dsimp only); refine hK _ _ ?_; clear hK K; (try simp only [Act.put, List.setIfInBounds_toArray, List.set_cons_zero, List.set_cons_succ])
                    refine wpList_step (fun K hK => ?_)
                    rw [if_pos (by rfl)]
                    go_simp
                    (try dsimp only); refine hK _ _ ?_; clear hK K; (try simp only [Act.put, List.setIfInBounds_toArray, List.set_cons_zero, List.set_cons_succ])
                    refine wpList_step (fun K hK => ?_)
                    rw [if_pos (by rfl)]
                    go_simp
                    (try dsimp only); refine hK _ _ ?_; clear hK K; (try simp only [Act.put, List.setIfInBounds_toArray, List.set_cons_zero, List.set_cons_succ])
                    refine wpList_step (fun K hK => ?_)
                    rw [if_pos (by rfl)]
                    go_simp; (try simp (disch := omega) only [IntWalk.i64_in, IntWalk.wrap64_in]); (try simp only [hib, hic])
                    (try dsimp only); refine hK _ _ ?_; clear hK K; (try simp only [Act.put, List.setIfInBounds_toArray, List.set_cons_zero, List.set_cons_succ])
                    refine wpList_plain rfl (fun K hK => ?_)
                    go_simp
                    (try dsimp only); refine hK _ _ ?_; clear hK K; (try simp only [Act.put, List.setIfInBounds_toArray, List.set_cons_zero, List.set_cons_succ])
                    refine wpList_nil ?_
                    obtain ⟨gw, ow, rfl, hd1, hd2, hgw, hrw⟩ := sl_at hown.isSl hil
                    have hvi := hp.o.v _ (List.getElem_mem hil)
                    have hvq : vld q.x := (vldB_iff _).1 (hsc.f rfl).1
                    have y1 := hrw
                    have hy1 := hgw
                    go_upto_region 21 with fail
                    have x0 := b0
                    have x1 := b1
                    have x2 := b2
                    have hS : GrownX Wj [] Wj := GrownX.refl _ _
                    refine wp_region_S (GrownX Wj []) (by kernel_rfl) ?_
                    refine name_wd (fun W1001 hW => ?_)
                    have hx : Ext Wj W1001 := by rw [hW]; exact ext_drew _
                    clear hW
                    replace hS := hS.ext hx
                    replace b0 := b0.ext hx
                    replace b1 := b1.ext hx
                    replace b2 := b2.ext hx
                    replace tv := isT.ext hx tv
                    replace hE1 := hE1.trans hx
                    replace hUp := hUp.ext hx
                    replace hown := hown.ext hx
                    replace hX := hX.trans hx
                    replace hrw := rangeAt.ext hrw hgw hx
                    replace hgw := Nat.lt_of_lt_of_le hgw hx.below.size
                    replace hE := hE.trans hx
                    clear hx
                    replace qz : r2 < W1001.heap.size := b2.lt
                    refine wpAnyD_takeSL (i := 0) rfl (by kernel_rfl) (fun _ _ _ _ h => h) hS ?_
                    apply Exists.intro
                    refine ⟨Or.inl ⟨by rfl, ?_⟩, ?_⟩
                    (focus (intro wz hz; go_simp; (try with_reducible rfl); done))
                    (try simp only [Act.put, List.setIfInBounds_toArray, List.set_cons_zero, List.set_cons_succ])
                    refine wpAnyD_takeSL (i := 1) rfl (by kernel_rfl) (fun _ _ _ _ h => h) hS ?_
                    apply Exists.intro
                    refine ⟨Or.inl ⟨by rfl, ?_⟩, ?_⟩
                    (focus (intro wz hz; go_simp; (try with_reducible rfl); done))
                    (try simp only [Act.put, List.setIfInBounds_toArray, List.set_cons_zero, List.set_cons_succ])
                    refine wpAnyD_takeSL (i := 2) rfl (by kernel_rfl) (fun _ _ _ _ h => h) hS ?_
                    apply Exists.intro
                    refine ⟨Or.inl ⟨by rfl, ?_⟩, ?_⟩
                    (focus (intro wz hz; go_simp; (try with_reducible rfl); done))
                    (try simp only [Act.put, List.setIfInBounds_toArray, List.set_cons_zero, List.set_cons_succ])
                    refine wpAnyD_takeSL (i := 3) rfl (by kernel_rfl) (fun _ _ _ _ h => h) hS ?_
                    apply Exists.intro
                    refine ⟨Or.inl ⟨by rfl, ?_⟩, ?_⟩
                    (focus (intro wz hz; (first | exact exec_ld 25 _ rfl rfl (GrownX.range hz (y1) (hy1) (by first | decide | (simp; done) | (simp; omega) | omega)) Try.underlying25 rfl (by exact Try.infoR))))
                    (try simp only [Act.put, List.setIfInBounds_toArray, List.set_cons_zero, List.set_cons_succ])
                    refine wpAnyD_takeSL (i := 4) rfl (by kernel_rfl) (fun _ _ _ _ h => h) hS ?_
                    apply Exists.intro
                    refine ⟨Or.inl ⟨by rfl, ?_⟩, ?_⟩
                    (focus (intro wz hz; go_simp; (try with_reducible rfl); done))
                    (try simp only [Act.put, List.setIfInBounds_toArray, List.set_cons_zero, List.set_cons_succ])
                    refine wpAnyD_takeSL (i := 5) rfl (by kernel_rfl) (fun _ _ _ _ h => h) hS ?_
                    apply Exists.intro
                    refine ⟨Or.inl ⟨by rfl, ?_⟩, ?_⟩
                    (focus (intro wz hz; (first | exact exec_ld 25 _ rfl rfl (Blk.opr (GrownX.blk hz x2 (by first | decide | (simp; done) | (simp; omega) | omega))) Try.underlying25 rfl (by exact Try.infoR))))
                    (try simp only [Act.put, List.setIfInBounds_toArray, List.set_cons_zero, List.set_cons_succ])
                    refine wpAnyD_oneL (i := 6) rfl (by kernel_rfl) (fun K hK => ?_)
                    rw [if_pos (by rfl)]
                    go_simp
                    (go_at_call 39; refine (rovl_any _ _ _ hvi hvq).mono ?_; intro e W1002 hpp; obtain ⟨rfl, hx⟩ := hpp)
                    replace hS := hS.ext hx; (try dsimp only); refine hK.out _ _ (fun _ => hS) ?_; clear hK K; (try simp only [Act.put, List.setIfInBounds_toArray, List.set_cons_zero, List.set_cons_succ])
                    replace b0 := b0.ext hx
                    replace b1 := b1.ext hx
                    replace b2 := b2.ext hx
                    replace tv := isT.ext hx tv
                    replace hE1 := hE1.trans hx
                    replace hUp := hUp.ext hx
                    replace hown := hown.ext hx
                    replace hX := hX.trans hx
                    replace hrw := rangeAt.ext hrw hgw hx
                    replace hgw := Nat.lt_of_lt_of_le hgw hx.below.size
                    replace hE := hE.trans hx
                    clear hx
                    replace qz : r2 < W1002.heap.size := b2.lt
                    refine wpAnyD_oneL (i := 7) rfl (by kernel_rfl) (fun K hK => ?_)
                    rw [if_pos (by rfl)]
                    go_simp
                    (try dsimp only); refine hK.out _ _ (fun _ => hS) ?_; clear hK K; (try simp only [Act.put, List.setIfInBounds_toArray, List.set_cons_zero, List.set_cons_succ])
                    refine wpAnyD_done (by kernel_rfl) ?_ _
                    clear hS x0 x1 x2
                    go_upto_region 20 with fail
                    refine wp_region_lit ?_
                    refine wpList_plain rfl (fun K hK => ?_)
                    go_simp
                    (try dsimp only); refine hK _ _ ?_; clear hK K; (try simp only [Act.put, List.setIfInBounds_toArray, List.set_cons_zero, List.set_cons_succ])
                    refine wpList_plain rfl (fun K hK => ?_)
                    go_simp; (try simp (disch := omega) only [IntWalk.i64_in, IntWalk.wrap64_in])
                    (try dsimp only); refine hK _ _ ?_; clear hK K; (try simp only [Act.put, List.setIfInBounds_toArray, List.set_cons_zero, List.set_cons_succ])
                    refine wpList_plain rfl (fun K hK => ?_)
                    go_simp
                    (try dsimp only); refine hK _ _ ?_; clear hK K; (try simp only [Act.put, List.setIfInBounds_toArray, List.set_cons_zero, List.set_cons_succ])
                    refine wpList_nil ?_
                    go_wp2_with fail
                    go_roundw
                    case rel => exact ⟨i + 1, _, rfl, by go_num, by omega, hsc.next hil, hX⟩
                    case measure => simp [intOf]; omega
                  · have hib : decide ((i : Int) < (p.flat.length : Int)) = false := by simpa using hil
                    have hic : decide (i < p.flat.length) = false := by simpa using hil
                    go_upto_region 19 with fail
                    refine wp_region_lit ?_
                    refine wpList_plain rfl (fun K hK => ?_)
                    go_simp
                    (try dsimp only); refine hK _ _ ?_; clear hK K; (try simp only [Act.put, List.setIfInBounds_toArray, List.set_cons_zero, List.set_cons_succ])
                    refine wpList_plain rfl (fun K hK => ?_)
                    go_simp; (try simp only [hib, hic])
                    (try dsimp only); refine hK _ _ ?_; clear hK K; (try simp only [Act.put, List.setIfInBounds_toArray, List.set_cons_zero, List.set_cons_succ])
                    refine wpList_plain rfl (fun K hK => ?_)
                    go_simp
                    (try dsimp only); refine hK _ _ ?_; clear hK K; (try simp only [Act.put, List.setIfInBounds_toArray, List.set_cons_zero, List.set_cons_succ])
                    refine wpList_step (fun K hK => ?_)
                    rw [if_pos (by rfl)]
                    go_simp
                    (try dsimp only); refine hK _ _ ?_; clear hK K; (try simp only [Act.put, List.setIfInBounds_toArray, List.set_cons_zero, List.set_cons_succ])
                    refine wpList_step (fun K hK => ?_)
                    rw [if_pos (by rfl)]
                    go_simp
                    (try dsimp only); refine hK _ _ ?_; clear hK K; (try simp only [Act.put, List.setIfInBounds_toArray, List.set_cons_zero, List.set_cons_succ])
                    refine wpList_step (fun K hK => ?_)
                    rw [if_pos (by rfl)]
                    go_simp
                    (try dsimp only); refine hK _ _ ?_; clear hK K; (try simp only [Act.put, List.setIfInBounds_toArray, List.set_cons_zero, List.set_cons_succ])
                    refine wpList_step (fun K hK => ?_)
                    rw [if_pos (by rfl)]
                    go_simp; (try simp (disch := omega) only [IntWalk.i64_in, IntWalk.wrap64_in]); (try simp only [hib, hic])
                    (try dsimp only); refine hK _ _ ?_; clear hK K; (try simp only [Act.put, List.setIfInBounds_toArray, List.set_cons_zero, List.set_cons_succ])
                    refine wpList_plain rfl (fun K hK => ?_)
                    go_simp
                    (try dsimp only); refine hK _ _ ?_; clear hK K; (try simp only [Act.put, List.setIfInBounds_toArray, List.set_cons_zero, List.set_cons_succ])
                    refine wpList_nil ?_
                    obtain ⟨hF, hg2, hfl⟩ := hsc.miss hp hil hlow htB
                    go_upto_region 22 with fail
                    obtain ⟨m2, hm4, hm5⟩ : ∃ m2, r2 < m2 ∧ m2 = Wj.heap.size := ⟨_, qz, rfl⟩
                    have hm6 : m2 ≤ Wj.heap.size := by omega
                    clear hm5
                    refine wp_region_lit ?_
                    refine wpList_plain rfl (fun K hK => ?_)
                    (first | (refine wp_ld 28 _ (b1.range) (by rfl) (by rfl) Try.underlying28 rfl (by exact Try.infoT) ?_))
                    (try dsimp only); refine hK _ _ ?_; clear hK K; (try simp only [Act.put, List.setIfInBounds_toArray, List.set_cons_zero, List.set_cons_succ])
                    refine wpList_plain rfl (fun K hK => ?_)
                    go_simp
                    (try dsimp only); refine hK _ _ ?_; clear hK K; (try simp only [Act.put, List.setIfInBounds_toArray, List.set_cons_zero, List.set_cons_succ])
                    refine wpList_plain rfl (fun K hK => ?_)
                    (first | (refine wp_ld 25 _ (Blk.opr b2) (by rfl) (by rfl) Try.underlying25 rfl (by exact Try.infoR) ?_))
                    (try dsimp only); refine hK _ _ ?_; clear hK K; (try simp only [Act.put, List.setIfInBounds_toArray, List.set_cons_zero, List.set_cons_succ])
                    refine wpList_plain rfl (fun K hK => ?_)
                    go_simp
                    (go_at_call 15; refine (insert_is p q.x v _ _ _ hF (A := Lo A0 W0'.heap.size m2) (Up.lo hUp0 hE1 hm6) hp tv.up).mono ?_; intro e W1101 hpp; obtain ⟨v2, rfl, t2, hx⟩ := hpp)
                    (try dsimp only); refine hK _ _ ?_; clear hK K; (try simp only [Act.put, List.setIfInBounds_toArray, List.set_cons_zero, List.set_cons_succ])
                    replace b0 := b0.ext hx
                    replace b1 := b1.ext hx
                    replace b2 := b2.ext hx
                    replace tv := isT.ext hx tv
                    replace hE1 := hE1.trans hx
                    replace hUp := hUp.ext hx
                    replace hown := hown.ext hx
                    replace hm6 := Nat.le_trans hm6 hx.below.size
                    replace hE := hE.trans hx
                    clear hx
                    replace qz : r2 < W1101.heap.size := b2.lt
                    replace t2 := isT.lw (isT.hi t2)
                    obtain ⟨m3, hm8⟩ : ∃ m, m = W1101.heap.size := ⟨_, rfl⟩
                    rw [← hm8] at t2
                    have hm7 : m3 ≤ W1101.heap.size := by omega
                    clear hm8
                    refine wpList_plain rfl (fun K hK => ?_)
                    go_simp
                    (try dsimp only); refine hK _ _ ?_; clear hK K; (try simp only [Act.put, List.setIfInBounds_toArray, List.set_cons_zero, List.set_cons_succ])
                    refine wpList_plain rfl (fun K hK => ?_)
                    go_simp
                    (try dsimp only); refine hK _ _ ?_; clear hK K; (try simp only [Act.put, List.setIfInBounds_toArray, List.set_cons_zero, List.set_cons_succ])
                    refine wpList_plain rfl (fun K hK => ?_)
                    go_simp
                    (try dsimp only); refine hK _ _ ?_; clear hK K; (try simp only [Act.put, List.setIfInBounds_toArray, List.set_cons_zero, List.set_cons_succ])
                    refine wpList_plain rfl (fun K hK => ?_)
                    have qb : m3 ≤ W1101.heap.size := hm7
                    go_simp
                    (try dsimp only); refine hK _ _ ?_; clear hK K; (try simp only [Act.put, List.setIfInBounds_toArray, List.set_cons_zero, List.set_cons_succ])
                    refine name_wl (fun W1102 hW => ?_)
                    have hx : Ext W1101 W1102 := by rw [hW]; exact ext_alloc _ _
                    have b3 : Blk W1102 W1101.heap.size 28 TV.z.cs := by rw [hW]; exact Blk.newAt rfl
                    clear hW
                    replace b0 := b0.ext hx
                    replace b1 := b1.ext hx
                    replace b2 := b2.ext hx
                    replace tv := isT.ext hx tv
                    replace hE1 := hE1.trans hx
                    replace hUp := hUp.ext hx
                    replace hown := hown.ext hx
                    replace hm6 := Nat.le_trans hm6 hx.below.size
                    replace t2 := isT.ext hx t2
                    replace hm7 := Nat.le_trans hm7 hx.below.size
                    replace hE := hE.trans hx
                    clear hx
                    obtain ⟨r3, hr⟩ : ∃ r, r = W1101.heap.size := ⟨_, rfl⟩
                    rw [← hr] at b3
                    try rw [← hr]
                    have q3 : r2 < r3 := by omega
                    have qb3 : m3 ≤ r3 := by omega
                    clear hr
                    replace qz : r3 < W1102.heap.size := b3.lt
                    refine wpList_plain rfl (fun K hK => ?_)
                    refine wp_store_box 28 _ _ (by rfl) b3 (by rfl) (by rfl) (by exact Try.infoT) (by first | exact RV.one _ | exact TV.one _ rfl | exact OV.one _ | exact TV.one TV.z rfl | exact TV.one _ (isT.one tv) | exact TV.one _ (isT.one t2)) (by rfl) (fun W1103 hg bn => ?_)
                    replace b0 := b0.kept hg (by simp only [ne_eq, Option.some.injEq]; omega)
                    replace b1 := b1.kept hg (by simp only [ne_eq, Option.some.injEq]; omega)
                    replace b2 := b2.kept hg (by simp only [ne_eq, Option.some.injEq]; omega)
                    replace tv := isT.kept hg (Lw.not (by omega)) tv
                    replace hE1 := ext_grow hE1 hg (fun q hq => by cases hq; omega)
                    replace hUp := hUp.grown hg
                    replace hown := hown.kept hg (.inr (hown.ne b3 (by decide)))
                    replace hm6 := Nat.le_trans hm6 hg.size
                    replace t2 := isT.kept hg (Lw.not (by omega)) t2
                    replace hm7 := Nat.le_trans hm7 hg.size
                    replace hE := ext_grow hE hg (fun q hq => by cases hq; omega)
                    clear b3 hg
                    have b3 := bn
                    clear bn
                    (try dsimp only); refine hK _ _ ?_; clear hK K; (try simp only [Act.put, List.setIfInBounds_toArray, List.set_cons_zero, List.set_cons_succ])
                    replace qz : r3 < W1103.heap.size := b3.lt
                    refine wpList_plain rfl (fun K hK => ?_)
                    go_simp
                    (try dsimp only); refine hK _ _ ?_; clear hK K; (try simp only [Act.put, List.setIfInBounds_toArray, List.set_cons_zero, List.set_cons_succ])
                    refine wpList_nil ?_
                    clear hE1 hm6
                    go_upto_region 23 with fail
                    refine wp_region_lit ?_
                    refine wpList_plain rfl (fun K hK => ?_)
                    go_simp
                    (try dsimp only); refine hK _ _ ?_; clear hK K; (try simp only [Act.put, List.setIfInBounds_toArray, List.set_cons_zero, List.set_cons_succ])
                    refine wpList_plain rfl (fun K hK => ?_)
                    go_simp
                    (try dsimp only); refine hK _ _ ?_; clear hK K; (try simp only [Act.put, List.setIfInBounds_toArray, List.set_cons_zero, List.set_cons_succ])
                    refine wpList_plain rfl (fun K hK => ?_)
                    go_simp; (try simp (disch := omega) only [IntWalk.i64_in, IntWalk.wrap64_in])
                    (try dsimp only); refine hK _ _ ?_; clear hK K; (try simp only [Act.put, List.setIfInBounds_toArray, List.set_cons_zero, List.set_cons_succ])
                    refine wpList_plain rfl (fun K hK => ?_)
                    go_simp; (try simp (disch := omega) only [IntWalk.i64_in, IntWalk.wrap64_in])
                    (try dsimp only); refine hK _ _ ?_; clear hK K; (try simp only [Act.put, List.setIfInBounds_toArray, List.set_cons_zero, List.set_cons_succ])
                    refine wpList_nil ?_
                    go_upto_region 25 with fail
                    refine wp_region_lit ?_
                    refine wpList_plain rfl (fun K hK => ?_)
                    go_simp
                    (try dsimp only); refine hK _ _ ?_; clear hK K; (try simp only [Act.put, List.setIfInBounds_toArray, List.set_cons_zero, List.set_cons_succ])
                    refine wpList_plain rfl (fun K hK => ?_)
                    go_simp
                    (try dsimp only); refine hK _ _ ?_; clear hK K; (try simp only [Act.put, List.setIfInBounds_toArray, List.set_cons_zero, List.set_cons_succ])
                    refine wpList_nil ?_
                    go_upto_region 26 with fail
                    refine wp_region_lit ?_
                    refine wpList_plain rfl (fun K hK => ?_)
                    (first | (refine wp_ld 28 _ (b3.range) (by rfl) (by rfl) Try.underlying28 rfl (by exact Try.infoT) ?_))
                    (try dsimp only); refine hK _ _ ?_; clear hK K; (try simp only [Act.put, List.setIfInBounds_toArray, List.set_cons_zero, List.set_cons_succ])
                    refine wpList_plain rfl (fun K hK => ?_)
                    refine wp_store_box 28 _ _ (by rfl) b1 (by rfl) (by rfl) (by exact Try.infoT) (by first | exact RV.one _ | exact TV.one _ rfl | exact OV.one _ | exact TV.one TV.z rfl | exact TV.one _ (isT.one tv) | exact TV.one _ (isT.one t2)) (by rfl) (fun W1104 hg bn => ?_)
                    replace b0 := b0.kept hg (by simp only [ne_eq, Option.some.injEq]; omega)
                    replace b2 := b2.kept hg (by simp only [ne_eq, Option.some.injEq]; omega)
                    replace b3 := b3.kept hg (by simp only [ne_eq, Option.some.injEq]; omega)
                    replace tv := isT.kept hg (fun h => hnA h.1) tv
                    replace hUp := hUp.grown hg
                    replace hown := hown.kept hg (.inr (hown.ne b1 (by decide)))
                    replace t2 := isT.kept hg (fun h => hnA h.1) t2
                    replace hm7 := Nat.le_trans hm7 hg.size
                    replace hE := ext_grow hE hg (fun q hq => by cases hq; omega)
                    clear b1 hg
                    have b1 := bn
                    clear bn
                    (try dsimp only); refine hK _ _ ?_; clear hK K; (try simp only [Act.put, List.setIfInBounds_toArray, List.set_cons_zero, List.set_cons_succ])
                    replace qz : r3 < W1104.heap.size := b3.lt
                    refine wpList_nil ?_
                    go_upto_region 27 with fail
                    have hsl := hown.isSl
                    clear hown tv
                    have x0 := b0
                    have x1 := b1
                    have x2 := b2
                    have x3 := b3
                    obtain ⟨mX, hmX⟩ : ∃ m, m = W1104.heap.size := ⟨_, rfl⟩
                    refine wp_region_S (GrownX W1104 []) (by kernel_rfl) ?_
                    refine name_wd (fun W1201 hW => ?_)
                    have hEX : Ext W1104 W1201 := by rw [hW]; exact ext_drew _
                    clear hW
                    have hS : GrownX W1104 [] W1201 := GrownX.of_ext hEX
                    refine wpAnyD_takeSL (i := 1) rfl (by kernel_rfl) (fun _ _ _ _ h => h) hS ?_
                    apply Exists.intro
                    refine ⟨Or.inl ⟨by rfl, ?_⟩, ?_⟩
                    (focus (intro wz hz; go_simp; (try with_reducible rfl); done))
                    (try simp only [Act.put, List.setIfInBounds_toArray, List.set_cons_zero, List.set_cons_succ])
                    refine wpAnyD_takeSL (i := 2) rfl (by kernel_rfl) (fun _ _ _ _ h => h) hS ?_
                    apply Exists.intro
                    refine ⟨Or.inl ⟨by rfl, ?_⟩, ?_⟩
                    (focus (intro wz hz; go_simp; (try with_reducible rfl); done))
                    (try simp only [Act.put, List.setIfInBounds_toArray, List.set_cons_zero, List.set_cons_succ])
                    refine wpAnyD_takeSL (i := 3) rfl (by kernel_rfl) (fun _ _ _ _ h => h) hS ?_
                    apply Exists.intro
                    refine ⟨Or.inl ⟨by rfl, ?_⟩, ?_⟩
                    (focus (intro wz hz; (first | exact exec_takeV _ _ (by rfl) hsl (by rfl) (by rfl) (by omega) | exact exec_dropV _ _ (by rfl) hsl j (by rfl) (by rfl) (by omega) (by omega))))
                    (try simp only [Act.put, List.setIfInBounds_toArray, List.set_cons_zero, List.set_cons_succ])
                    refine wpAnyD_takeSL (i := 5) rfl (by kernel_rfl) (fun _ _ _ _ h => h) hS ?_
                    apply Exists.intro
                    refine ⟨Or.inl ⟨by rfl, ?_⟩, ?_⟩
                    (focus (intro wz hz; go_simp; (try with_reducible rfl); done))
                    (try simp only [Act.put, List.setIfInBounds_toArray, List.set_cons_zero, List.set_cons_succ])
                    refine wpAnyD_takeSL (i := 6) rfl (by kernel_rfl) (fun _ _ _ _ h => h) hS ?_
                    apply Exists.intro
                    refine ⟨Or.inl ⟨by rfl, ?_⟩, ?_⟩
                    (focus (intro wz hz; (first | exact exec_ld 25 _ rfl rfl (Blk.opr (GrownX.blk hz x2 (by first | decide | (simp; done) | (simp; omega) | omega))) Try.underlying25 rfl (by exact Try.infoR))))
                    (try simp only [Act.put, List.setIfInBounds_toArray, List.set_cons_zero, List.set_cons_succ])
                    refine wpAnyD_takeSL (i := 9) rfl (by kernel_rfl) (fun _ _ _ _ h => h) hS ?_
                    apply Exists.intro
                    refine ⟨Or.inl ⟨by rfl, ?_⟩, ?_⟩
                    (focus (intro wz hz; go_simp; (try with_reducible rfl); done))
                    (try simp only [Act.put, List.setIfInBounds_toArray, List.set_cons_zero, List.set_cons_succ])
                    refine wpAnyD_takeSL (i := 10) rfl (by kernel_rfl) (fun _ _ _ _ h => h) hS ?_
                    apply Exists.intro
                    refine ⟨Or.inl ⟨by rfl, ?_⟩, ?_⟩
                    (focus (intro wz hz; go_simp; (try with_reducible rfl); done))
                    (try simp only [Act.put, List.setIfInBounds_toArray, List.set_cons_zero, List.set_cons_succ])
                    refine wpAnyD_takeSL (i := 11) rfl (by kernel_rfl) (fun _ _ _ _ h => h) hS ?_
                    apply Exists.intro
                    refine ⟨Or.inl ⟨by rfl, ?_⟩, ?_⟩
                    (focus (intro wz hz; (first | exact exec_takeV _ _ (by rfl) hsl (by rfl) (by rfl) (by omega) | exact exec_dropV _ _ (by rfl) hsl j (by rfl) (by rfl) (by omega) (by omega))))
                    (try simp only [Act.put, List.setIfInBounds_toArray, List.set_cons_zero, List.set_cons_succ])
                    refine wpAnyD_many [0, 7] (by kernel_rfl) (by simp) (AllD_consL rfl (fun K hK => ?_) (AllD_consL rfl (fun K hK => ?_) AllD_nil))
                    · rw [if_pos (by rfl)]
                      refine wp_bs0 (by rfl) ?_
                      replace hS : GrownX W1104 [] (W1201.alloc (.cells #[] 25)) := GrownX.of_ext (hEX.trans (ext_alloc _ _))
                      (try dsimp only); refine hK.out _ _ (fun _ => hS) ?_; clear hK K; (try simp only [Act.put, List.setIfInBounds_toArray, List.set_cons_zero, List.set_cons_succ])
                      obtain ⟨g119, hg119⟩ : ∃ g, g = W1201.heap.size := ⟨_, rfl⟩
                      have f119 := ownR_bs0 (W := W1201) (base := mX) (by rw [hmX]; exact hEX.below.size)
                      rw [← hg119] at f119
                      try rw [← hg119]
                      have hlt119 : W1201.heap.size ≤ g119 := by omega
                      refine name_wd (fun W1202 hW => ?_)
                      rw [← hW] at f119 hS
                      replace hEX : Ext W1104 W1202 := by rw [hW]; exact hEX.trans (ext_alloc _ _)
                      have hsz119 : g119 < W1202.heap.size := by rw [hW, hg119]; simp
                      clear hW
                      refine wpAnyD_many [4, 7] (by kernel_rfl) (by simp) (AllD_consL rfl (fun K hK => ?_) (AllD_consL rfl (fun K hK => ?_) AllD_nil))
                      · rw [if_pos (by rfl)]
                        have hms : mX ≤ W1202.heap.size := by rw [hmX]; exact hEX.below.size
                        refine wp_appS _ _ (by rfl) (by rfl) f119 (by rfl) (ys := p.flat.take j) ((isSl_takeV hsl (by omega)).ext hEX) (by simp only [List.length_append, List.length_nil, List.length_cons, List.length_take, List.length_drop]; omega) hms (fun v123 W1203 f123 hgr => ?_)
                        replace hEX : Ext W1104 W1203 := ext_grow hEX hgr (fun q hq => by rw [← hmX]; exact (f119.lt q hq).1)
                        replace hS : GrownX W1104 [] W1203 := GrownX.of_ext hEX
                        (try dsimp only); refine hK.out _ _ (fun _ => hS) ?_; clear hK K; (try simp only [Act.put, List.setIfInBounds_toArray, List.set_cons_zero, List.set_cons_succ])
                        clear hgr
                        refine wpAnyD_oneL (i := 7) rfl (by kernel_rfl) (fun K hK => ?_)
                        rw [if_pos (by rfl)]
                        refine wp_bs1 _ (by rfl) (by rfl) ?_
                        replace hS : GrownX W1104 [] (W1203.alloc (.cells q.x.cs.toArray 25)) := GrownX.of_ext (hEX.trans (ext_alloc _ _))
                        (try dsimp only); refine hK.out _ _ (fun _ => hS) ?_; clear hK K; (try simp only [Act.put, List.setIfInBounds_toArray, List.set_cons_zero, List.set_cons_succ])
                        obtain ⟨g126, hg126⟩ : ∃ g, g = W1203.heap.size := ⟨_, rfl⟩
                        have f126 : Blk (W1203.alloc (.cells q.x.cs.toArray 25)) W1203.heap.size 25 q.x.cs := Blk.newAt rfl
                        rw [← hg126] at f126
                        try rw [← hg126]
                        have hlt126 : W1203.heap.size ≤ g126 := by omega
                        refine name_wd (fun W1204 hW => ?_)
                        rw [← hW] at f126 hS
                        replace f123 := ownR.ext f123 (show Ext W1203 W1204 by rw [hW]; exact ext_alloc _ _)
                        replace hEX : Ext W1104 W1204 := by rw [hW]; exact hEX.trans (ext_alloc _ _)
                        have hsz126 : g126 < W1204.heap.size := by rw [hW, hg126]; simp
                        clear hW
                        refine wpAnyD_oneL (i := 8) rfl (by kernel_rfl) (fun K hK => ?_)
                        rw [if_pos (by rfl)]
                        have hms : mX ≤ W1204.heap.size := by rw [hmX]; exact hEX.below.size
                        refine wp_appS _ _ (by rfl) (by rfl) f123 (by rfl) (ys := [q.x]) (blk_isl f126) (by simp only [List.length_append, List.length_nil, List.length_cons, List.length_take, List.length_drop]; omega) hms (fun v127 W1205 f127 hgr => ?_)
                        replace hEX : Ext W1104 W1205 := ext_grow hEX hgr (fun q hq => by rw [← hmX]; exact (f123.lt q hq).1)
                        replace hS : GrownX W1104 [] W1205 := GrownX.of_ext hEX
                        (try dsimp only); refine hK.out _ _ (fun _ => hS) ?_; clear hK K; (try simp only [Act.put, List.setIfInBounds_toArray, List.set_cons_zero, List.set_cons_succ])
                        clear hgr
                        refine wpAnyD_oneL (i := 12) rfl (by kernel_rfl) (fun K hK => ?_)
                        rw [if_pos (by rfl)]
                        have hms : mX ≤ W1205.heap.size := by rw [hmX]; exact hEX.below.size
                        refine wp_appS _ _ (by rfl) (by rfl) f127 (by rfl) (ys := p.flat.drop j) ((isSl_dropV hsl (by omega)).ext hEX) (by simp only [List.length_append, List.length_nil, List.length_cons, List.length_take, List.length_drop]; omega) hms (fun v131 W1206 f131 hgr => ?_)
                        replace hEX : Ext W1104 W1206 := ext_grow hEX hgr (fun q hq => by rw [← hmX]; exact (f127.lt q hq).1)
                        replace hS : GrownX W1104 [] W1206 := GrownX.of_ext hEX
                        (try dsimp only); refine hK.out _ _ (fun _ => hS) ?_; clear hK K; (try simp only [Act.put, List.setIfInBounds_toArray, List.set_cons_zero, List.set_cons_succ])
                        clear hgr
                        refine wpAnyD_oneL (i := 13) rfl (by kernel_rfl) (fun K hK => ?_)
                        rw [if_pos (by rfl)]
                        go_simp
                        (try dsimp only); refine hK.out _ _ (fun _ => hS) ?_; clear hK K; (try simp only [Act.put, List.setIfInBounds_toArray, List.set_cons_zero, List.set_cons_succ])
                        refine wpAnyD_done (by kernel_rfl) ?_ _
                        have hown2 := ownR_base (b' := w.heap.size) f131 (by rw [hmX]; exact hE.below.size)
                        rw [show [] ++ p.flat.take j ++ [q.x] ++ p.flat.drop j = (insP p q.x).flat by rw [hfl]; simp] at hown2
                        replace b0 := b0.ext hEX
                        replace b1 := b1.ext hEX
                        replace b2 := b2.ext hEX
                        replace b3 := b3.ext hEX
                        replace hUp := hUp.ext hEX
                        replace t2 := isT.ext hEX t2
                        replace hm7 := Nat.le_trans hm7 hEX.below.size
                        replace hE := hE.trans hEX
                        clear hEX
                        replace qz : r3 < W1206.heap.size := b3.lt
                        go_upto_region 28 with fail
                        refine wp_region_lit ?_
                        refine wpList_plain rfl (fun K hK => ?_)
                        go_simp; (try simp (disch := omega) only [IntWalk.i64_in, IntWalk.wrap64_in])
                        (try dsimp only); refine hK _ _ ?_; clear hK K; (try simp only [Act.put, List.setIfInBounds_toArray, List.set_cons_zero, List.set_cons_succ])
                        refine wpList_plain rfl (fun K hK => ?_)
                        go_simp
                        (try dsimp only); refine hK _ _ ?_; clear hK K; (try simp only [Act.put, List.setIfInBounds_toArray, List.set_cons_zero, List.set_cons_succ])
                        refine wpList_nil ?_
                        go_wp2_with fail
                        go_roundw
                        case rel => exact ⟨k + 1, insP p q.x, v2, by go_num, by omega, b0, b1, isT.low t2, hg2, hown2, hE, hUp⟩
                        case measure => simp [intOf]; omega
                      · rw [if_pos (by rfl)]
                        refine wp_bs1 _ (by rfl) (by rfl) ?_
                        replace hS : GrownX W1104 [] (W1202.alloc (.cells q.x.cs.toArray 25)) := GrownX.of_ext (hEX.trans (ext_alloc _ _))
                        (try dsimp only); refine hK.out _ _ (fun _ => hS) ?_; clear hK K; (try simp only [Act.put, List.setIfInBounds_toArray, List.set_cons_zero, List.set_cons_succ])
                        obtain ⟨g126, hg126⟩ : ∃ g, g = W1202.heap.size := ⟨_, rfl⟩
                        have f126 : Blk (W1202.alloc (.cells q.x.cs.toArray 25)) W1202.heap.size 25 q.x.cs := Blk.newAt rfl
                        rw [← hg126] at f126
                        try rw [← hg126]
                        have hlt126 : W1202.heap.size ≤ g126 := by omega
                        refine name_wd (fun W1207 hW => ?_)
                        rw [← hW] at f126 hS
                        replace f119 := ownR.ext f119 (show Ext W1202 W1207 by rw [hW]; exact ext_alloc _ _)
                        have hne126_119 : g126 ≠ g119 := by omega
                        replace hEX : Ext W1104 W1207 := by rw [hW]; exact hEX.trans (ext_alloc _ _)
                        have hsz126 : g126 < W1207.heap.size := by rw [hW, hg126]; simp
                        clear hW
                        refine wpAnyD_oneL (i := 4) rfl (by kernel_rfl) (fun K hK => ?_)
                        rw [if_pos (by rfl)]
                        have hms : mX ≤ W1207.heap.size := by rw [hmX]; exact hEX.below.size
                        refine wp_appS _ _ (by rfl) (by rfl) f119 (by rfl) (ys := p.flat.take j) ((isSl_takeV hsl (by omega)).ext hEX) (by simp only [List.length_append, List.length_nil, List.length_cons, List.length_take, List.length_drop]; omega) hms (fun v123 W1208 f123 hgr => ?_)
                        replace f126 := Blk.kept f126 hgr (by simp only [Value.ownBlock, ne_eq, Option.some.injEq]; omega)
                        replace hEX : Ext W1104 W1208 := ext_grow hEX hgr (fun q hq => by rw [← hmX]; exact (f119.lt q hq).1)
                        replace hS : GrownX W1104 [] W1208 := GrownX.of_ext hEX
                        (try dsimp only); refine hK.out _ _ (fun _ => hS) ?_; clear hK K; (try simp only [Act.put, List.setIfInBounds_toArray, List.set_cons_zero, List.set_cons_succ])
                        clear hgr
                        refine wpAnyD_oneL (i := 8) rfl (by kernel_rfl) (fun K hK => ?_)
                        rw [if_pos (by rfl)]
                        have hms : mX ≤ W1208.heap.size := by rw [hmX]; exact hEX.below.size
                        refine wp_appS _ _ (by rfl) (by rfl) f123 (by rfl) (ys := [q.x]) (blk_isl f126) (by simp only [List.length_append, List.length_nil, List.length_cons, List.length_take, List.length_drop]; omega) hms (fun v127 W1209 f127 hgr => ?_)
                        replace hEX : Ext W1104 W1209 := ext_grow hEX hgr (fun q hq => by rw [← hmX]; exact (f123.lt q hq).1)
                        replace hS : GrownX W1104 [] W1209 := GrownX.of_ext hEX
                        (try dsimp only); refine hK.out _ _ (fun _ => hS) ?_; clear hK K; (try simp only [Act.put, List.setIfInBounds_toArray, List.set_cons_zero, List.set_cons_succ])
                        clear hgr
                        refine wpAnyD_oneL (i := 12) rfl (by kernel_rfl) (fun K hK => ?_)
                        rw [if_pos (by rfl)]
                        have hms : mX ≤ W1209.heap.size := by rw [hmX]; exact hEX.below.size
                        refine wp_appS _ _ (by rfl) (by rfl) f127 (by rfl) (ys := p.flat.drop j) ((isSl_dropV hsl (by omega)).ext hEX) (by simp only [List.length_append, List.length_nil, List.length_cons, List.length_take, List.length_drop]; omega) hms (fun v131 W1210 f131 hgr => ?_)
                        replace hEX : Ext W1104 W1210 := ext_grow hEX hgr (fun q hq => by rw [← hmX]; exact (f127.lt q hq).1)
                        replace hS : GrownX W1104 [] W1210 := GrownX.of_ext hEX
                        (try dsimp only); refine hK.out _ _ (fun _ => hS) ?_; clear hK K; (try simp only [Act.put, List.setIfInBounds_toArray, List.set_cons_zero, List.set_cons_succ])
                        clear hgr
                        refine wpAnyD_oneL (i := 13) rfl (by kernel_rfl) (fun K hK => ?_)
                        rw [if_pos (by rfl)]
                        go_simp
                        (try dsimp only); refine hK.out _ _ (fun _ => hS) ?_; clear hK K; (try simp only [Act.put, List.setIfInBounds_toArray, List.set_cons_zero, List.set_cons_succ])
                        refine wpAnyD_done (by kernel_rfl) ?_ _
                        have hown2 := ownR_base (b' := w.heap.size) f131 (by rw [hmX]; exact hE.below.size)
                        rw [show [] ++ p.flat.take j ++ [q.x] ++ p.flat.drop j = (insP p q.x).flat by rw [hfl]; simp] at hown2
                        replace b0 := b0.ext hEX
                        replace b1 := b1.ext hEX
                        replace b2 := b2.ext hEX
                        replace b3 := b3.ext hEX
                        replace hUp := hUp.ext hEX
                        replace t2 := isT.ext hEX t2
                        replace hm7 := Nat.le_trans hm7 hEX.below.size
                        replace hE := hE.trans hEX
                        clear hEX
                        replace qz : r3 < W1210.heap.size := b3.lt
                        go_upto_region 28 with fail
                        refine wp_region_lit ?_
                        refine wpList_plain rfl (fun K hK => ?_)
                        go_simp; (try simp (disch := omega) only [IntWalk.i64_in, IntWalk.wrap64_in])
                        (try dsimp only); refine hK _ _ ?_; clear hK K; (try simp only [Act.put, List.setIfInBounds_toArray, List.set_cons_zero, List.set_cons_succ])
                        refine wpList_plain rfl (fun K hK => ?_)
                        go_simp
                        (try dsimp only); refine hK _ _ ?_; clear hK K; (try simp only [Act.put, List.setIfInBounds_toArray, List.set_cons_zero, List.set_cons_succ])
                        refine wpList_nil ?_
                        go_wp2_with fail
                        go_roundw
                        case rel => exact ⟨k + 1, insP p q.x, v2, by go_num, by omega, b0, b1, isT.low t2, hg2, hown2, hE, hUp⟩
                        case measure => simp [intOf]; omega
                    · rw [if_pos (by rfl)]
                      refine wp_bs1 _ (by rfl) (by rfl) ?_
                      replace hS : GrownX W1104 [] (W1201.alloc (.cells q.x.cs.toArray 25)) := GrownX.of_ext (hEX.trans (ext_alloc _ _))
                      (try dsimp only); refine hK.out _ _ (fun _ => hS) ?_; clear hK K; (try simp only [Act.put, List.setIfInBounds_toArray, List.set_cons_zero, List.set_cons_succ])
                      obtain ⟨g126, hg126⟩ : ∃ g, g = W1201.heap.size := ⟨_, rfl⟩
                      have f126 : Blk (W1201.alloc (.cells q.x.cs.toArray 25)) W1201.heap.size 25 q.x.cs := Blk.newAt rfl
                      rw [← hg126] at f126
                      try rw [← hg126]
                      have hlt126 : W1201.heap.size ≤ g126 := by omega
                      refine name_wd (fun W1211 hW => ?_)
                      rw [← hW] at f126 hS
                      replace hEX : Ext W1104 W1211 := by rw [hW]; exact hEX.trans (ext_alloc _ _)
                      have hsz126 : g126 < W1211.heap.size := by rw [hW, hg126]; simp
                      clear hW
                      refine wpAnyD_oneL (i := 0) rfl (by kernel_rfl) (fun K hK => ?_)
                      rw [if_pos (by rfl)]
                      refine wp_bs0 (by rfl) ?_
                      replace hS : GrownX W1104 [] (W1211.alloc (.cells #[] 25)) := GrownX.of_ext (hEX.trans (ext_alloc _ _))
                      (try dsimp only); refine hK.out _ _ (fun _ => hS) ?_; clear hK K; (try simp only [Act.put, List.setIfInBounds_toArray, List.set_cons_zero, List.set_cons_succ])
                      obtain ⟨g119, hg119⟩ : ∃ g, g = W1211.heap.size := ⟨_, rfl⟩
                      have f119 := ownR_bs0 (W := W1211) (base := mX) (by rw [hmX]; exact hEX.below.size)
                      rw [← hg119] at f119
                      try rw [← hg119]
                      have hlt119 : W1211.heap.size ≤ g119 := by omega
                      refine name_wd (fun W1212 hW => ?_)
                      rw [← hW] at f119 hS
                      replace f126 := Blk.ext f126 (show Ext W1211 W1212 by rw [hW]; exact ext_alloc _ _)
                      have hne119_126 : g119 ≠ g126 := by omega
                      replace hEX : Ext W1104 W1212 := by rw [hW]; exact hEX.trans (ext_alloc _ _)
                      have hsz119 : g119 < W1212.heap.size := by rw [hW, hg119]; simp
                      clear hW
                      refine wpAnyD_oneL (i := 4) rfl (by kernel_rfl) (fun K hK => ?_)
                      rw [if_pos (by rfl)]
                      have hms : mX ≤ W1212.heap.size := by rw [hmX]; exact hEX.below.size
                      refine wp_appS _ _ (by rfl) (by rfl) f119 (by rfl) (ys := p.flat.take j) ((isSl_takeV hsl (by omega)).ext hEX) (by simp only [List.length_append, List.length_nil, List.length_cons, List.length_take, List.length_drop]; omega) hms (fun v123 W1213 f123 hgr => ?_)
                      replace f126 := Blk.kept f126 hgr (by simp only [Value.ownBlock, ne_eq, Option.some.injEq]; omega)
                      replace hEX : Ext W1104 W1213 := ext_grow hEX hgr (fun q hq => by rw [← hmX]; exact (f119.lt q hq).1)
                      replace hS : GrownX W1104 [] W1213 := GrownX.of_ext hEX
                      (try dsimp only); refine hK.out _ _ (fun _ => hS) ?_; clear hK K; (try simp only [Act.put, List.setIfInBounds_toArray, List.set_cons_zero, List.set_cons_succ])
                      clear hgr
                      refine wpAnyD_oneL (i := 8) rfl (by kernel_rfl) (fun K hK => ?_)
                      rw [if_pos (by rfl)]
                      have hms : mX ≤ W1213.heap.size := by rw [hmX]; exact hEX.below.size
                      refine wp_appS _ _ (by rfl) (by rfl) f123 (by rfl) (ys := [q.x]) (blk_isl f126) (by simp only [List.length_append, List.length_nil, List.length_cons, List.length_take, List.length_drop]; omega) hms (fun v127 W1214 f127 hgr => ?_)
                      replace hEX : Ext W1104 W1214 := ext_grow hEX hgr (fun q hq => by rw [← hmX]; exact (f123.lt q hq).1)
                      replace hS : GrownX W1104 [] W1214 := GrownX.of_ext hEX
                      (try dsimp only); refine hK.out _ _ (fun _ => hS) ?_; clear hK K; (try simp only [Act.put, List.setIfInBounds_toArray, List.set_cons_zero, List.set_cons_succ])
                      clear hgr
                      refine wpAnyD_oneL (i := 12) rfl (by kernel_rfl) (fun K hK => ?_)
                      rw [if_pos (by rfl)]
                      have hms : mX ≤ W1214.heap.size := by rw [hmX]; exact hEX.below.size
                      refine wp_appS _ _ (by rfl) (by rfl) f127 (by rfl) (ys := p.flat.drop j) ((isSl_dropV hsl (by omega)).ext hEX) (by simp only [List.length_append, List.length_nil, List.length_cons, List.length_take, List.length_drop]; omega) hms (fun v131 W1215 f131 hgr => ?_)
                      replace hEX : Ext W1104 W1215 := ext_grow hEX hgr (fun q hq => by rw [← hmX]; exact (f127.lt q hq).1)
                      replace hS : GrownX W1104 [] W1215 := GrownX.of_ext hEX
                      (try dsimp only); refine hK.out _ _ (fun _ => hS) ?_; clear hK K; (try simp only [Act.put, List.setIfInBounds_toArray, List.set_cons_zero, List.set_cons_succ])
                      clear hgr
                      refine wpAnyD_oneL (i := 13) rfl (by kernel_rfl) (fun K hK => ?_)
                      rw [if_pos (by rfl)]
                      go_simp
                      (try dsimp only); refine hK.out _ _ (fun _ => hS) ?_; clear hK K; (try simp only [Act.put, List.setIfInBounds_toArray, List.set_cons_zero, List.set_cons_succ])
                      refine wpAnyD_done (by kernel_rfl) ?_ _
                      have hown2 := ownR_base (b' := w.heap.size) f131 (by rw [hmX]; exact hE.below.size)
                      rw [show [] ++ p.flat.take j ++ [q.x] ++ p.flat.drop j = (insP p q.x).flat by rw [hfl]; simp] at hown2
                      replace b0 := b0.ext hEX
                      replace b1 := b1.ext hEX
                      replace b2 := b2.ext hEX
                      replace b3 := b3.ext hEX
                      replace hUp := hUp.ext hEX
                      replace t2 := isT.ext hEX t2
                      replace hm7 := Nat.le_trans hm7 hEX.below.size
                      replace hE := hE.trans hEX
                      clear hEX
                      replace qz : r3 < W1215.heap.size := b3.lt
                      go_upto_region 28 with fail
                      refine wp_region_lit ?_
                      refine wpList_plain rfl (fun K hK => ?_)
                      go_simp; (try simp (disch := omega) only [IntWalk.i64_in, IntWalk.wrap64_in])
                      (try dsimp only); refine hK _ _ ?_; clear hK K; (try simp only [Act.put, List.setIfInBounds_toArray, List.set_cons_zero, List.set_cons_succ])
                      refine wpList_plain rfl (fun K hK => ?_)
                      go_simp
                      (try dsimp only); refine hK _ _ ?_; clear hK K; (try simp only [Act.put, List.setIfInBounds_toArray, List.set_cons_zero, List.set_cons_succ])
                      refine wpList_nil ?_
                      go_wp2_with fail
                      go_roundw
                      case rel => exact ⟨k + 1, insP p q.x, v2, by go_num, by omega, b0, b1, isT.low t2, hg2, hown2, hE, hUp⟩
                      case measure => simp [intOf]; omega
                | true =>
                  obtain ⟨e0, hF, heb⟩ := hsc.hit hp
                  go_upto_region 19 with fail
                  refine wp_region_lit ?_
                  refine wpList_plain rfl (fun K hK => ?_)
                  go_simp
                  (try dsimp only); refine hK _ _ ?_; clear hK K; (try simp only [Act.put, List.setIfInBounds_toArray, List.set_cons_zero, List.set_cons_succ])
                  refine wpList_plain rfl (fun K hK => ?_)
                  go_simp
                  (try dsimp only); refine hK _ _ ?_; clear hK K; (try simp only [Act.put, List.setIfInBounds_toArray, List.set_cons_zero, List.set_cons_succ])
                  refine wpList_plain rfl (fun K hK => ?_)
                  go_simp
                  (try dsimp only); refine hK _ _ ?_; clear hK K; (try simp only [Act.put, List.setIfInBounds_toArray, List.set_cons_zero, List.set_cons_succ])
                  refine wpList_step (fun K hK => ?_)
                  rw [if_neg (by exact Bool.false_ne_true)]
                  (try dsimp only); refine hK _ _ ?_; clear hK K; (try simp only [Act.put, List.setIfInBounds_toArray, List.set_cons_zero, List.set_cons_succ])
                  refine wpList_step (fun K hK => ?_)
                  rw [if_neg (by exact Bool.false_ne_true)]
                  (try dsimp only); refine hK _ _ ?_; clear hK K; (try simp only [Act.put, List.setIfInBounds_toArray, List.set_cons_zero, List.set_cons_succ])
                  refine wpList_step (fun K hK => ?_)
                  rw [if_neg (by exact Bool.false_ne_true)]
                  (try dsimp only); refine hK _ _ ?_; clear hK K; (try simp only [Act.put, List.setIfInBounds_toArray, List.set_cons_zero, List.set_cons_succ])
                  refine wpList_step (fun K hK => ?_)
                  rw [if_neg (by exact Bool.false_ne_true)]
                  (try dsimp only); refine hK _ _ ?_; clear hK K; (try simp only [Act.put, List.setIfInBounds_toArray, List.set_cons_zero, List.set_cons_succ])
                  refine wpList_plain rfl (fun K hK => ?_)
                  go_simp
                  (try dsimp only); refine hK _ _ ?_; clear hK K; (try simp only [Act.put, List.setIfInBounds_toArray, List.set_cons_zero, List.set_cons_succ])
                  refine wpList_nil ?_
                  go_upto_region 22 with fail
                  obtain ⟨m2, hm4, hm5⟩ : ∃ m2, r2 < m2 ∧ m2 = Wj.heap.size := ⟨_, qz, rfl⟩
                  have hm6 : m2 ≤ Wj.heap.size := by omega
                  clear hm5
                  refine wp_region_lit ?_
                  refine wpList_plain rfl (fun K hK => ?_)
                  (first | (refine wp_ld 28 _ (b1.range) (by rfl) (by rfl) Try.underlying28 rfl (by exact Try.infoT) ?_))
                  (try dsimp only); refine hK _ _ ?_; clear hK K; (try simp only [Act.put, List.setIfInBounds_toArray, List.set_cons_zero, List.set_cons_succ])
                  refine wpList_plain rfl (fun K hK => ?_)
                  go_simp
                  (try dsimp only); refine hK _ _ ?_; clear hK K; (try simp only [Act.put, List.setIfInBounds_toArray, List.set_cons_zero, List.set_cons_succ])
                  refine wpList_plain rfl (fun K hK => ?_)
                  (first | (refine wp_ld 25 _ (Blk.opr b2) (by rfl) (by rfl) Try.underlying25 rfl (by exact Try.infoR) ?_))
                  (try dsimp only); refine hK _ _ ?_; clear hK K; (try simp only [Act.put, List.setIfInBounds_toArray, List.set_cons_zero, List.set_cons_succ])
                  refine wpList_plain rfl (fun K hK => ?_)
                  go_simp
                  (go_at_call 15; refine (insert_is p q.x v _ _ _ hF (A := Lo A0 W0'.heap.size m2) (Up.lo hUp0 hE1 hm6) hp tv.up).mono ?_; intro e W1301 hpp; obtain ⟨v2, rfl, t2, hx⟩ := hpp)
                  (try dsimp only); refine hK _ _ ?_; clear hK K; (try simp only [Act.put, List.setIfInBounds_toArray, List.set_cons_zero, List.set_cons_succ])
                  replace b0 := b0.ext hx
                  replace b1 := b1.ext hx
                  replace b2 := b2.ext hx
                  replace tv := isT.ext hx tv
                  replace hE1 := hE1.trans hx
                  replace hUp := hUp.ext hx
                  replace hown := hown.ext hx
                  replace hm6 := Nat.le_trans hm6 hx.below.size
                  replace hE := hE.trans hx
                  clear hx
                  replace qz : r2 < W1301.heap.size := b2.lt
                  replace t2 := isT.lw (isT.hi t2)
                  obtain ⟨m3, hm8⟩ : ∃ m, m = W1301.heap.size := ⟨_, rfl⟩
                  rw [← hm8] at t2
                  have hm7 : m3 ≤ W1301.heap.size := by omega
                  clear hm8
                  refine wpList_plain rfl (fun K hK => ?_)
                  go_simp
                  (try dsimp only); refine hK _ _ ?_; clear hK K; (try simp only [Act.put, List.setIfInBounds_toArray, List.set_cons_zero, List.set_cons_succ])
                  refine wpList_plain rfl (fun K hK => ?_)
                  go_simp
                  (try dsimp only); refine hK _ _ ?_; clear hK K; (try simp only [Act.put, List.setIfInBounds_toArray, List.set_cons_zero, List.set_cons_succ])
                  refine wpList_plain rfl (fun K hK => ?_)
                  go_simp
                  (try dsimp only); refine hK _ _ ?_; clear hK K; (try simp only [Act.put, List.setIfInBounds_toArray, List.set_cons_zero, List.set_cons_succ])
                  refine wpList_plain rfl (fun K hK => ?_)
                  have qb : m3 ≤ W1301.heap.size := hm7
                  go_simp
                  (try dsimp only); refine hK _ _ ?_; clear hK K; (try simp only [Act.put, List.setIfInBounds_toArray, List.set_cons_zero, List.set_cons_succ])
                  refine name_wl (fun W1302 hW => ?_)
                  have hx : Ext W1301 W1302 := by rw [hW]; exact ext_alloc _ _
                  have b3 : Blk W1302 W1301.heap.size 28 TV.z.cs := by rw [hW]; exact Blk.newAt rfl
                  clear hW
                  replace b0 := b0.ext hx
                  replace b1 := b1.ext hx
                  replace b2 := b2.ext hx
                  replace tv := isT.ext hx tv
                  replace hE1 := hE1.trans hx
                  replace hUp := hUp.ext hx
                  replace hown := hown.ext hx
                  replace hm6 := Nat.le_trans hm6 hx.below.size
                  replace t2 := isT.ext hx t2
                  replace hm7 := Nat.le_trans hm7 hx.below.size
                  replace hE := hE.trans hx
                  clear hx
                  obtain ⟨r3, hr⟩ : ∃ r, r = W1301.heap.size := ⟨_, rfl⟩
                  rw [← hr] at b3
                  try rw [← hr]
                  have q3 : r2 < r3 := by omega
                  have qb3 : m3 ≤ r3 := by omega
                  clear hr
                  replace qz : r3 < W1302.heap.size := b3.lt
                  refine wpList_plain rfl (fun K hK => ?_)
                  refine wp_store_box 28 _ _ (by rfl) b3 (by rfl) (by rfl) (by exact Try.infoT) (by first | exact RV.one _ | exact TV.one _ rfl | exact OV.one _ | exact TV.one TV.z rfl | exact TV.one _ (isT.one tv) | exact TV.one _ (isT.one t2)) (by rfl) (fun W1303 hg bn => ?_)
                  replace b0 := b0.kept hg (by simp only [ne_eq, Option.some.injEq]; omega)
                  replace b1 := b1.kept hg (by simp only [ne_eq, Option.some.injEq]; omega)
                  replace b2 := b2.kept hg (by simp only [ne_eq, Option.some.injEq]; omega)
                  replace tv := isT.kept hg (Lw.not (by omega)) tv
                  replace hE1 := ext_grow hE1 hg (fun q hq => by cases hq; omega)
                  replace hUp := hUp.grown hg
                  replace hown := hown.kept hg (.inr (hown.ne b3 (by decide)))
                  replace hm6 := Nat.le_trans hm6 hg.size
                  replace t2 := isT.kept hg (Lw.not (by omega)) t2
                  replace hm7 := Nat.le_trans hm7 hg.size
                  replace hE := ext_grow hE hg (fun q hq => by cases hq; omega)
                  clear b3 hg
                  have b3 := bn
                  clear bn
                  (try dsimp only); refine hK _ _ ?_; clear hK K; (try simp only [Act.put, List.setIfInBounds_toArray, List.set_cons_zero, List.set_cons_succ])
                  replace qz : r3 < W1303.heap.size := b3.lt
                  refine wpList_plain rfl (fun K hK => ?_)
                  go_simp
                  (try dsimp only); refine hK _ _ ?_; clear hK K; (try simp only [Act.put, List.setIfInBounds_toArray, List.set_cons_zero, List.set_cons_succ])
                  refine wpList_nil ?_
                  go_upto_region 23 with fail
                  refine wp_region_lit ?_
                  refine wpList_plain rfl (fun K hK => ?_)
                  go_simp
                  (try dsimp only); refine hK _ _ ?_; clear hK K; (try simp only [Act.put, List.setIfInBounds_toArray, List.set_cons_zero, List.set_cons_succ])
                  refine wpList_plain rfl (fun K hK => ?_)
                  go_simp
                  (try dsimp only); refine hK _ _ ?_; clear hK K; (try simp only [Act.put, List.setIfInBounds_toArray, List.set_cons_zero, List.set_cons_succ])
                  refine wpList_plain rfl (fun K hK => ?_)
                  go_simp; (try simp (disch := omega) only [IntWalk.i64_in, IntWalk.wrap64_in]); (try simp only [heb])
                  (try dsimp only); refine hK _ _ ?_; clear hK K; (try simp only [Act.put, List.setIfInBounds_toArray, List.set_cons_zero, List.set_cons_succ])
                  refine wpList_plain rfl (fun K hK => ?_)
                  go_simp; (try simp (disch := omega) only [IntWalk.i64_in, IntWalk.wrap64_in]); (try simp only [heb])
                  (try dsimp only); refine hK _ _ ?_; clear hK K; (try simp only [Act.put, List.setIfInBounds_toArray, List.set_cons_zero, List.set_cons_succ])
                  refine wpList_nil ?_
                  go_upto_region 25 with fail
                  refine wp_region_lit ?_
                  refine wpList_plain rfl (fun K hK => ?_)
                  go_simp
                  (try dsimp only); refine hK _ _ ?_; clear hK K; (try simp only [Act.put, List.setIfInBounds_toArray, List.set_cons_zero, List.set_cons_succ])
                  refine wpList_plain rfl (fun K hK => ?_)
                  go_simp
                  (try dsimp only); refine hK _ _ ?_; clear hK K; (try simp only [Act.put, List.setIfInBounds_toArray, List.set_cons_zero, List.set_cons_succ])
                  refine wpList_nil ?_
                  go_upto_region 28 with fail
                  refine wp_region_lit ?_
                  refine wpList_plain rfl (fun K hK => ?_)
                  go_simp; (try simp (disch := omega) only [IntWalk.i64_in, IntWalk.wrap64_in])
                  (try dsimp only); refine hK _ _ ?_; clear hK K; (try simp only [Act.put, List.setIfInBounds_toArray, List.set_cons_zero, List.set_cons_succ])
                  refine wpList_plain rfl (fun K hK => ?_)
                  go_simp
                  (try dsimp only); refine hK _ _ ?_; clear hK K; (try simp only [Act.put, List.setIfInBounds_toArray, List.set_cons_zero, List.set_cons_succ])
                  refine wpList_nil ?_
                  go_wp2_with fail
                  go_roundw
                  case rel => exact ⟨k + 1, p, v, by go_num, by omega, b0, b1, isT.low tv, hp, hown, hE, hUp⟩
                  case measure => simp [intOf]; omega
    · have h0 : isT (fun _ => True) W0 p.bt v := isT.mono (fun _ _ _ => trivial) tv
      clear h0
      go_upto_region 29 with fail
      refine wp_region_lit ?_
      refine wpList_plain rfl (fun K hK => ?_)
      (first | (refine wp_ld 28 _ (b1.range) (by rfl) (by rfl) Try.underlying28 rfl (by exact Try.infoT) ?_))
      (try dsimp only); refine hK _ _ ?_; clear hK K; (try simp only [Act.put, List.setIfInBounds_toArray, List.set_cons_zero, List.set_cons_succ])
      refine wpList_plain rfl (fun K hK => ?_)
      go_simp
      (try dsimp only); refine hK _ _ ?_; clear hK K; (try simp only [Act.put, List.setIfInBounds_toArray, List.set_cons_zero, List.set_cons_succ])
      refine wpList_plain rfl (fun K hK => ?_)
      refine wp_store_box 28 _ _ (by rfl) b0 (by rfl) (by rfl) (by exact Try.infoT) (by first | exact RV.one _ | exact TV.one _ rfl | exact TV.one _ (isT.one tv)) (by rfl) (fun W1401 hg bn => ?_)
      replace b1 := b1.kept hg (by simp only [ne_eq, Option.some.injEq]; omega)
      replace tv := isT.kept hg hnA0 tv
      replace hown := hown.kept hg (.inr (hown.ne b0 (by decide)))
      replace hE := ext_grow hE hg (fun q hq => by cases hq; omega)
      clear b0 hg
      have b0 := bn
      clear bn
      (try dsimp only); refine hK _ _ ?_; clear hK K; (try simp only [Act.put, List.setIfInBounds_toArray, List.set_cons_zero, List.set_cons_succ])
      replace qz : r1 < W1401.heap.size := b1.lt
      refine wpList_plain rfl (fun K hK => ?_)
      go_simp
      (try dsimp only); refine hK _ _ ?_; clear hK K; (try simp only [Act.put, List.setIfInBounds_toArray, List.set_cons_zero, List.set_cons_succ])
      refine wpList_plain rfl (fun K hK => ?_)
      go_simp
      (try dsimp only); refine hK _ _ ?_; clear hK K; (try simp only [Act.put, List.setIfInBounds_toArray, List.set_cons_zero, List.set_cons_succ])
      refine wpList_nil ?_
      go_wp2_with fail
      exact bodyPost_ret (res_ctt rfl (GivesC.of b0 rfl Try.underlying28 rfl Try.infoT) rfl rfl) rfl ⟨p, v, _, hp, rfl, isT.mono (fun _ _ _ => trivial) tv, hown, hE⟩

end Go.Proofs.Ytnbohogkfdeddaa
