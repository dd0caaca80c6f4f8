/- Rangetree: the law RangetreeLists. -/
import Derived.Test.YtnbohogkfdeddaaRul
set_option linter.unusedSimpArgs false
set_option linter.unusedVariables false
namespace Go.Proofs.Ytnbohogkfdeddaa
open Go.RowKit

theorem lsame_refl (a : List RV) (va vb : Value) (w : World) (ha : isSl w va 6 a.length (rF a)) (hb : isSl w vb 6 a.length (rF a)) (hl : a.length ≤ 100000) :
    Calls Try.prog 16 #[va, vb] w fun e w' => e = .returned (.bool true) ∧ Ext w w' := by
  have := lsame_any a a va vb w ha hb hl hl
  rwa [(sameL_iff a a).2 rfl] at this
set_option maxRecDepth 100000 in
set_option maxHeartbeats 4000000 in
theorem law_lists_big (l : List OV) (s : Value)  (w : World) (hs : isSl w s 7 l.length (oF l)) (hl : 40 < l.length) :
    Calls Try.prog 5 #[s] w fun e w' => e = .returned (.bool true) ∧ Ext w w' := by
  obtain ⟨ad, c, rfl⟩ := sl_shape hs
  have HS : Hid (isSl w (.slice ad l.length c) 7 l.length (oF l)) := hs
  clear hs
  have hb1 : decide ((40 : Int) < (l.length : Int)) = true := by simpa using (by omega : (40 : Int) < (l.length : Int))
  have hb2 : decide (40 < l.length) = true := by simpa using hl
  go_enter Try.func5, Try.ntmps5
  go_upto_region 1 with fail
  refine name_wX (fun W0 hW => ?_)
  have hE : Ext w W0 := by rw [hW]; exact Ext.refl w
  clear hW
  refine wp_region_lit ?_
  refine wpList_plain rfl (fun K hK => ?_)
  go_simp
  (go_at_call 11; refine (awake_ok _).mono ?_; intro e W1 hpp; obtain ⟨rfl, hx⟩ := hpp)
  (try dsimp only); refine hK _ _ ?_; clear hK K; (try simp only [Act.put, List.setIfInBounds_toArray, List.set_cons_zero, List.set_cons_succ])
  replace hE := hE.trans hx
  clear hx
  refine wpList_plain rfl (fun K hK => ?_)
  go_simp; (try simp only [hb1, hb2])
  (try dsimp only); refine hK _ _ ?_; clear hK K; (try simp only [Act.put, List.setIfInBounds_toArray, List.set_cons_zero, List.set_cons_succ])
  refine wpList_plain rfl (fun K hK => ?_)
  go_simp
  (try dsimp only); refine hK _ _ ?_; clear hK K; (try simp only [Act.put, List.setIfInBounds_toArray, List.set_cons_zero, List.set_cons_succ])
  refine wpList_step (fun K hK => ?_)
  rw [if_pos (by rfl)]
  go_simp
  (try dsimp only); refine hK _ _ ?_; clear hK K; (try simp only [Act.put, List.setIfInBounds_toArray, List.set_cons_zero, List.set_cons_succ])
  refine wpList_step (fun K hK => ?_)
  rw [if_pos (by rfl)]
  go_simp
  (try dsimp only); refine hK _ _ ?_; clear hK K; (try simp only [Act.put, List.setIfInBounds_toArray, List.set_cons_zero, List.set_cons_succ])
  refine wpList_step (fun K hK => ?_)
  rw [if_pos (by rfl)]
  go_simp; (try simp (disch := omega) only [IntWalk.i64_in, IntWalk.wrap64_in]); (try simp only [hb1, hb2])
  (try dsimp only); refine hK _ _ ?_; clear hK K; (try simp only [Act.put, List.setIfInBounds_toArray, List.set_cons_zero, List.set_cons_succ])
  refine wpList_plain rfl (fun K hK => ?_)
  go_simp
  (try dsimp only); refine hK _ _ ?_; clear hK K; (try simp only [Act.put, List.setIfInBounds_toArray, List.set_cons_zero, List.set_cons_succ])
  refine wpList_nil ?_
  go_upto_region 2 with fail
  refine wp_region_lit ?_
  refine wpList_plain rfl (fun K hK => ?_)
  go_simp
  (go_at_call 11; refine (awake_ok _).mono ?_; intro e W2 hpp; obtain ⟨rfl, hx⟩ := hpp)
  (try dsimp only); refine hK _ _ ?_; clear hK K; (try simp only [Act.put, List.setIfInBounds_toArray, List.set_cons_zero, List.set_cons_succ])
  replace hE := hE.trans hx
  clear hx
  refine wpList_plain rfl (fun K hK => ?_)
  go_simp
  (try dsimp only); refine hK _ _ ?_; clear hK K; (try simp only [Act.put, List.setIfInBounds_toArray, List.set_cons_zero, List.set_cons_succ])
  refine wpList_nil ?_
  go_wp2_with fail
  go_ret
  exact ⟨rfl, hE⟩

set_option maxRecDepth 100000 in
set_option maxHeartbeats 4000000 in
theorem law_lists_ok (l : List OV) (s : Value)  (w : World) (hs : isSl w s 7 l.length (oF l)) (hl : ¬ 40 < l.length) :
    Calls Try.prog 5 #[s] w fun e w' => e = .returned (.bool true) ∧ Ext w w' := by
  obtain ⟨ad, c, rfl⟩ := sl_shape hs
  have HS : Hid (isSl w (.slice ad l.length c) 7 l.length (oF l)) := hs
  clear hs
  have hb1 : decide ((40 : Int) < (l.length : Int)) = false := by simpa using (by omega : ¬ (40 : Int) < (l.length : Int))
  have hb2 : decide (40 < l.length) = false := by simpa using hl
  go_enter Try.func5, Try.ntmps5
  go_upto_region 1 with fail
  refine name_wX (fun W0 hW => ?_)
  have hE : Ext w W0 := by rw [hW]; exact Ext.refl w
  clear hW
  refine wp_region_lit ?_
  refine wpList_plain rfl (fun K hK => ?_)
  go_simp
  (go_at_call 11; refine (awake_ok _).mono ?_; intro e W1 hpp; obtain ⟨rfl, hx⟩ := hpp)
  (try dsimp only); refine hK _ _ ?_; clear hK K; (try simp only [Act.put, List.setIfInBounds_toArray, List.set_cons_zero, List.set_cons_succ])
  replace hE := hE.trans hx
  clear hx
  refine wpList_plain rfl (fun K hK => ?_)
  go_simp; (try simp only [hb1, hb2])
  (try dsimp only); refine hK _ _ ?_; clear hK K; (try simp only [Act.put, List.setIfInBounds_toArray, List.set_cons_zero, List.set_cons_succ])
  refine wpList_plain rfl (fun K hK => ?_)
  go_simp
  (try dsimp only); refine hK _ _ ?_; clear hK K; (try simp only [Act.put, List.setIfInBounds_toArray, List.set_cons_zero, List.set_cons_succ])
  refine wpList_step (fun K hK => ?_)
  rw [if_pos (by rfl)]
  go_simp
  (try dsimp only); refine hK _ _ ?_; clear hK K; (try simp only [Act.put, List.setIfInBounds_toArray, List.set_cons_zero, List.set_cons_succ])
  refine wpList_step (fun K hK => ?_)
  rw [if_pos (by rfl)]
  go_simp
  (try dsimp only); refine hK _ _ ?_; clear hK K; (try simp only [Act.put, List.setIfInBounds_toArray, List.set_cons_zero, List.set_cons_succ])
  refine wpList_step (fun K hK => ?_)
  rw [if_pos (by rfl)]
  go_simp; (try simp (disch := omega) only [IntWalk.i64_in, IntWalk.wrap64_in]); (try simp only [hb1, hb2])
  (try dsimp only); refine hK _ _ ?_; clear hK K; (try simp only [Act.put, List.setIfInBounds_toArray, List.set_cons_zero, List.set_cons_succ])
  refine wpList_plain rfl (fun K hK => ?_)
  go_simp
  (try dsimp only); refine hK _ _ ?_; clear hK K; (try simp only [Act.put, List.setIfInBounds_toArray, List.set_cons_zero, List.set_cons_succ])
  refine wpList_nil ?_
  go_upto_region 3 with fail
  refine wp_region_lit ?_
  refine wpList_plain rfl (fun K hK => ?_)
  go_simp
  (try dsimp only); refine hK _ _ ?_; clear hK K; (try simp only [Act.put, List.setIfInBounds_toArray, List.set_cons_zero, List.set_cons_succ])
  refine wpList_plain rfl (fun K hK => ?_)
  go_simp
  (go_at_call 21; refine (played_any l _ _ (HS.out.ext hE) (by omega)).mono ?_; intro e W2 hpp; obtain ⟨p, v, u, hp, rfl, tv, hown, hx⟩ := hpp)
  (try dsimp only); refine hK _ _ ?_; clear hK K; (try simp only [Act.put, List.setIfInBounds_toArray, List.set_cons_zero, List.set_cons_succ])
  replace hE := hE.trans hx
  clear hx
  replace tv := isT.lw tv
  obtain ⟨m, hm0⟩ : ∃ m, m = W2.heap.size := ⟨_, rfl⟩
  have hwm : w.heap.size ≤ m := by rw [hm0]; exact hE.below.size
  rw [← hm0] at tv
  have hm : m ≤ W2.heap.size := by omega
  clear hm0
  obtain ⟨ua, uc, rfl⟩ := hown.shape
  have hlen := good_len hp
  refine wpList_plain rfl (fun K hK => ?_)
  go_simp
  (try dsimp only); refine hK _ _ ?_; clear hK K; (try simp only [Act.put, List.setIfInBounds_toArray, List.set_cons_zero, List.set_cons_succ])
  refine wpList_plain rfl (fun K hK => ?_)
  go_simp
  (try dsimp only); refine hK _ _ ?_; clear hK K; (try simp only [Act.put, List.setIfInBounds_toArray, List.set_cons_zero, List.set_cons_succ])
  refine wpList_plain rfl (fun K hK => ?_)
  go_simp
  (try dsimp only); refine hK _ _ ?_; clear hK K; (try simp only [Act.put, List.setIfInBounds_toArray, List.set_cons_zero, List.set_cons_succ])
  refine wpList_plain rfl (fun K hK => ?_)
  go_simp
  (try dsimp only); refine hK _ _ ?_; clear hK K; (try simp only [Act.put, List.setIfInBounds_toArray, List.set_cons_zero, List.set_cons_succ])
  refine wpList_plain rfl (fun K hK => ?_)
  have qb : m ≤ W2.heap.size := hm
  go_simp
  (try dsimp only); refine hK _ _ ?_; clear hK K; (try simp only [Act.put, List.setIfInBounds_toArray, List.set_cons_zero, List.set_cons_succ])
  refine name_wl (fun W3 hW => ?_)
  have hx : Ext W2 W3 := by rw [hW]; exact ext_alloc _ _
  have b0 : Blk W3 W2.heap.size 28 TV.z.cs := by rw [hW]; exact Blk.newAt rfl
  clear hW
  replace hown := hown.ext hx
  replace tv := isT.ext hx tv
  replace hm := Nat.le_trans hm hx.below.size
  replace hE := hE.trans hx
  clear hx
  obtain ⟨r0, hr⟩ : ∃ r, r = W2.heap.size := ⟨_, rfl⟩
  rw [← hr] at b0
  try rw [← hr]
  have qb0 : m ≤ r0 := by omega
  clear hr
  have qz : r0 < W3.heap.size := b0.lt
  refine wpList_plain rfl (fun K hK => ?_)
  refine wp_store_box 28 _ _ (by rfl) b0 (by rfl) (by rfl) (by exact Try.infoT) (by first | exact RV.one _ | exact TV.one _ rfl | exact RV.one _ | exact TV.one _ (isT.one tv)) (by rfl) (fun W4 hg bn => ?_)
  replace hown := hown.kept hg (.inr (hown.ne b0 (by decide)))
  replace tv := isT.kept hg (Lw.not (by omega)) tv
  replace hm := Nat.le_trans hm hg.size
  replace hE := ext_grow hE hg (fun q hq => by cases hq; omega)
  clear b0 hg
  have b0 := bn
  clear bn
  (try dsimp only); refine hK _ _ ?_; clear hK K; (try simp only [Act.put, List.setIfInBounds_toArray, List.set_cons_zero, List.set_cons_succ])
  replace qz : r0 < W4.heap.size := b0.lt
  refine wpList_plain rfl (fun K hK => ?_)
  go_simp
  (try dsimp only); refine hK _ _ ?_; clear hK K; (try simp only [Act.put, List.setIfInBounds_toArray, List.set_cons_zero, List.set_cons_succ])
  refine wpList_plain rfl (fun K hK => ?_)
  go_simp
  (try dsimp only); refine hK _ _ ?_; clear hK K; (try simp only [Act.put, List.setIfInBounds_toArray, List.set_cons_zero, List.set_cons_succ])
  refine wpList_nil ?_
  go_upto_region 4 with fail
  refine wp_region_lit ?_
  refine wpList_plain rfl (fun K hK => ?_)
  go_simp
  (try dsimp only); refine hK _ _ ?_; clear hK K; (try simp only [Act.put, List.setIfInBounds_toArray, List.set_cons_zero, List.set_cons_succ])
  refine wpList_plain rfl (fun K hK => ?_)
  go_simp
  (try dsimp only); refine hK _ _ ?_; clear hK K; (try simp only [Act.put, List.setIfInBounds_toArray, List.set_cons_zero, List.set_cons_succ])
  refine wpList_step (fun K hK => ?_)
  rw [if_pos (by rfl)]
  (first | (refine wp_ld 28 _ (b0.range) (by rfl) (by rfl) Try.underlying28 rfl (by exact Try.infoT) ?_))
  (try dsimp only); refine hK _ _ ?_; clear hK K; (try simp only [Act.put, List.setIfInBounds_toArray, List.set_cons_zero, List.set_cons_succ])
  refine wpList_step (fun K hK => ?_)
  rw [if_pos (by rfl)]
  go_simp
  (go_at_call 22; refine (check_P p v _ hp tv).mono ?_; intro e W5 hpp; obtain ⟨rfl, hx⟩ := hpp)
  (try dsimp only); refine hK _ _ ?_; clear hK K; (try simp only [Act.put, List.setIfInBounds_toArray, List.set_cons_zero, List.set_cons_succ])
  replace b0 := b0.ext hx
  replace hown := hown.ext hx
  replace tv := isT.ext hx tv
  replace hm := Nat.le_trans hm hx.below.size
  replace hE := hE.trans hx
  clear hx
  replace qz : r0 < W5.heap.size := b0.lt
  refine wpList_step (fun K hK => ?_)
  rw [if_pos (by rfl)]
  go_simp; (try simp (disch := omega) only [IntWalk.i64_in, IntWalk.wrap64_in])
  (try dsimp only); refine hK _ _ ?_; clear hK K; (try simp only [Act.put, List.setIfInBounds_toArray, List.set_cons_zero, List.set_cons_succ])
  refine wpList_plain rfl (fun K hK => ?_)
  go_simp
  (try dsimp only); refine hK _ _ ?_; clear hK K; (try simp only [Act.put, List.setIfInBounds_toArray, List.set_cons_zero, List.set_cons_succ])
  refine wpList_plain rfl (fun K hK => ?_)
  go_simp
  (try dsimp only); refine hK _ _ ?_; clear hK K; (try simp only [Act.put, List.setIfInBounds_toArray, List.set_cons_zero, List.set_cons_succ])
  refine wpList_step (fun K hK => ?_)
  rw [if_pos (by rfl)]
  (first | (refine wp_ld 28 _ (b0.range) (by rfl) (by rfl) Try.underlying28 rfl (by exact Try.infoT) ?_))
  (try dsimp only); refine hK _ _ ?_; clear hK K; (try simp only [Act.put, List.setIfInBounds_toArray, List.set_cons_zero, List.set_cons_succ])
  refine wpList_step (fun K hK => ?_)
  rw [if_pos (by rfl)]
  go_simp
  (go_at_call 17; refine (list_P p v _ hp tv).mono ?_; intro e W6 hpp; obtain ⟨u2, rfl, hown2, hx⟩ := hpp)
  (try dsimp only); refine hK _ _ ?_; clear hK K; (try simp only [Act.put, List.setIfInBounds_toArray, List.set_cons_zero, List.set_cons_succ])
  replace b0 := b0.ext hx
  replace hown := hown.ext hx
  replace tv := isT.ext hx tv
  replace hm := Nat.le_trans hm hx.below.size
  replace hE := hE.trans hx
  clear hx
  replace qz : r0 < W6.heap.size := b0.lt
  refine wpList_step (fun K hK => ?_)
  rw [if_pos (by rfl)]
  go_simp
  (try dsimp only); refine hK _ _ ?_; clear hK K; (try simp only [Act.put, List.setIfInBounds_toArray, List.set_cons_zero, List.set_cons_succ])
  refine wpList_step (fun K hK => ?_)
  rw [if_pos (by rfl)]
  go_simp
  (go_at_call 16; refine (lsame_refl p.flat _ _ _ hown2.isSl hown.isSl (by omega)).mono ?_; intro e W7 hpp; obtain ⟨rfl, hx⟩ := hpp)
  (try dsimp only); refine hK _ _ ?_; clear hK K; (try simp only [Act.put, List.setIfInBounds_toArray, List.set_cons_zero, List.set_cons_succ])
  replace b0 := b0.ext hx
  replace hown := hown.ext hx
  replace tv := isT.ext hx tv
  replace hm := Nat.le_trans hm hx.below.size
  replace hown2 := hown2.ext hx
  replace hE := hE.trans hx
  clear hx
  replace qz : r0 < W7.heap.size := b0.lt
  refine wpList_plain rfl (fun K hK => ?_)
  go_simp
  (try dsimp only); refine hK _ _ ?_; clear hK K; (try simp only [Act.put, List.setIfInBounds_toArray, List.set_cons_zero, List.set_cons_succ])
  refine wpList_plain rfl (fun K hK => ?_)
  go_simp
  (try dsimp only); refine hK _ _ ?_; clear hK K; (try simp only [Act.put, List.setIfInBounds_toArray, List.set_cons_zero, List.set_cons_succ])
  refine wpList_nil ?_
  go_wp2_with fail
  go_ret
  exact ⟨rfl, hE⟩

theorem law_lists (l : List OV) (s : Value)  (w : World) (hs : isSl w s 7 l.length (oF l)) :
    Calls Try.prog 5 #[s] w fun e w' => e = .returned (.bool true) ∧ Ext w w' := by
  by_cases hl : 40 < l.length
  · exact law_lists_big l s w hs hl
  · exact law_lists_ok l s w hs hl

end Go.Proofs.Ytnbohogkfdeddaa
