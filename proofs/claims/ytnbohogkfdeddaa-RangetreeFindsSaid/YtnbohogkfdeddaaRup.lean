/- Rangetree: the law RangetreeFinds. -/
import Derived.Test.YtnbohogkfdeddaaRul
set_option linter.unusedSimpArgs false
set_option linter.unusedVariables false
namespace Go.Proofs.Ytnbohogkfdeddaa
open Go.RowKit

theorem eqR_self (x : RV) : eqR x x = true := (eqR_iff x x).2 rfl
/-- One round of the search. -/
def finS (pg : Int) (s : Bool × RV) (x : RV) : Bool × RV := if x.s ≤ pg ∧ pg < x.e then (true, x) else s
def nxtS (pg : Int) (s : Bool × RV) (x : RV) : Bool × RV := if pg < x.e ∧ s.1 = false then (true, x) else s
theorem fin_none (pg : Int) : ∀ (l : List RV) (s : Bool × RV), (∀ x ∈ l, pg < x.s) → l.foldl (finS pg) s = s
  | [], s, _ => rfl
  | x :: l, s, h => by
    have h1 := h x (by simp)
    rw [List.foldl_cons, show finS pg s x = s by unfold finS; rw [if_neg (by omega)]]
    exact fin_none pg l s (fun y hy => h y (by simp [hy]))
theorem nxt_some (pg : Int) : ∀ (l : List RV) (y : RV), l.foldl (nxtS pg) (true, y) = (true, y)
  | [], y => rfl
  | x :: l, y => by
    rw [List.foldl_cons, show nxtS pg (true, y) x = (true, y) by unfold nxtS; rw [if_neg (by simp)]]
    exact nxt_some pg l y
theorem fin_aft (pg : Int) : ∀ (l : List RV), ord l → l.foldl (finS pg) (false, RV.z) = if (aftL l pg).isSome = true ∧ ¬ pg < (bestR (aftL l pg)).s then (true, bestR (aftL l pg)) else (false, RV.z)
  | [], _ => by simp [aftL]
  | x :: l, h => by
    obtain ⟨hx, hl, ha⟩ := ord_cons h
    have e : aftL (x :: l) pg = if pg < x.e then some x else aftL l pg := by
      unfold aftL
      rw [List.find?_cons]
      by_cases c : pg < x.e
      · rw [if_pos c, decide_eq_true c]
      · rw [if_neg c, decide_eq_false c]
    rw [List.foldl_cons, e]
    by_cases c : pg < x.e
    · rw [if_pos c]
      have hn : ∀ y ∈ l, pg < y.s := fun y hy => by have := ha y hy; unfold apart at this; omega
      by_cases c2 : x.s ≤ pg
      · rw [show finS pg (false, RV.z) x = (true, x) by unfold finS; rw [if_pos ⟨c2, c⟩], fin_none pg l _ hn, if_pos ⟨rfl, by show ¬ pg < x.s; omega⟩]
        rfl
      · rw [show finS pg (false, RV.z) x = (false, RV.z) by unfold finS; rw [if_neg (by omega)], fin_none pg l _ hn, if_neg (fun h => h.2 (by show pg < x.s; omega))]
    · rw [if_neg c, show finS pg (false, RV.z) x = (false, RV.z) by unfold finS; rw [if_neg (by omega)]]
      exact fin_aft pg l hl
theorem nxt_aft (pg : Int) : ∀ (l : List RV), l.foldl (nxtS pg) (false, RV.z) = ((aftL l pg).isSome, bestR (aftL l pg))
  | [] => rfl
  | x :: l => by
    have e : aftL (x :: l) pg = if pg < x.e then some x else aftL l pg := by
      unfold aftL
      rw [List.find?_cons]
      by_cases c : pg < x.e
      · rw [if_pos c, decide_eq_true c]
      · rw [if_neg c, decide_eq_false c]
    rw [List.foldl_cons, e]
    by_cases c : pg < x.e
    · rw [if_pos c, show nxtS pg (false, RV.z) x = (true, x) by unfold nxtS; rw [if_pos ⟨c, rfl⟩], nxt_some]
      rfl
    · rw [if_neg c, show nxtS pg (false, RV.z) x = (false, RV.z) by unfold nxtS; rw [if_neg (by omega)]]
      exact nxt_aft pg l
theorem fin_P {p : PT} (hp : good p) (pg : Int) : p.flat.foldl (finS pg) (false, RV.z) = ((FndF p pg).2, (FndF p pg).1) := by
  rw [fin_aft pg p.flat hp.o]
  unfold FndF
  rw [aft_flat p pg hp.o]
  split <;> rfl
theorem nxt_P {p : PT} (hp : good p) (pg : Int) : p.flat.foldl (nxtS pg) (false, RV.z) = ((aftP p pg).isSome, bestR (aftP p pg)) := by
  rw [nxt_aft, aft_flat p pg hp.o]
theorem fold_next {σ : Type} (f : σ → RV → σ) (s : σ) (l : List RV) {k : Nat} (hk : k < l.length) : (l.take (k + 1)).foldl f s = f ((l.take k).foldl f s) l[k] := by
  rw [List.take_succ_eq_append_getElem hk, List.foldl_append]
  rfl

set_option maxRecDepth 100000 in
set_option maxHeartbeats 4000000 in
theorem law_finds_big (l : List OV) (s : Value) (pg : Int) (w : World) (hs : isSl w s 7 l.length (oF l)) (hl : 40 < l.length) :
    Calls Try.prog 8 #[s, .int .i64 pg] w fun e w' => e = .returned (.bool true) ∧ Ext w w' := by
  obtain ⟨ad, c, rfl⟩ := sl_shape hs
  have HS : Hid (isSl w (.slice ad l.length c) 7 l.length (oF l)) := hs
  clear hs
  have hb1 : decide ((40 : Int) < (l.length : Int)) = true := by simpa using (by omega : (40 : Int) < (l.length : Int))
  have hb2 : decide (40 < l.length) = true := by simpa using hl
  go_enter Try.func8, Try.ntmps8
  go_upto_region 1 with fail
  refine name_wX (fun W0 hW => ?_)
  have hE : Ext w W0 := by rw [hW]; exact Ext.refl w
  clear hW
  refine wp_region_lit ?_
  refine wpList_plain rfl (fun K hK => ?_)
  go_simp
  (go_at_call 11; refine (awake_ok _).mono ?_; intro e W1 hpp; obtain ⟨rfl, hx⟩ := hpp)
  (try dsimp only); refine hK _ _ ?_; clear hK K; (try simp only [Act.put, List.setIfInBounds_toArray, List.set_cons_zero, List.set_cons_succ])
  replace hE := hE.trans hx
  clear hx
  refine wpList_plain rfl (fun K hK => ?_)
  go_simp; (try simp only [hb1, hb2])
  (try dsimp only); refine hK _ _ ?_; clear hK K; (try simp only [Act.put, List.setIfInBounds_toArray, List.set_cons_zero, List.set_cons_succ])
  refine wpList_plain rfl (fun K hK => ?_)
  go_simp
  (try dsimp only); refine hK _ _ ?_; clear hK K; (try simp only [Act.put, List.setIfInBounds_toArray, List.set_cons_zero, List.set_cons_succ])
  refine wpList_step (fun K hK => ?_)
  rw [if_pos (by rfl)]
  go_simp
  (try dsimp only); refine hK _ _ ?_; clear hK K; (try simp only [Act.put, List.setIfInBounds_toArray, List.set_cons_zero, List.set_cons_succ])
  refine wpList_step (fun K hK => ?_)
  rw [if_pos (by rfl)]
  go_simp
  (try dsimp only); refine hK _ _ ?_; clear hK K; (try simp only [Act.put, List.setIfInBounds_toArray, List.set_cons_zero, List.set_cons_succ])
  refine wpList_step (fun K hK => ?_)
  rw [if_pos (by rfl)]
  go_simp; (try simp (disch := omega) only [IntWalk.i64_in, IntWalk.wrap64_in]); (try simp only [hb1, hb2])
  (try dsimp only); refine hK _ _ ?_; clear hK K; (try simp only [Act.put, List.setIfInBounds_toArray, List.set_cons_zero, List.set_cons_succ])
  refine wpList_plain rfl (fun K hK => ?_)
  go_simp
  (try dsimp only); refine hK _ _ ?_; clear hK K; (try simp only [Act.put, List.setIfInBounds_toArray, List.set_cons_zero, List.set_cons_succ])
  refine wpList_nil ?_
  go_upto_region 2 with fail
  refine wp_region_lit ?_
  refine wpList_plain rfl (fun K hK => ?_)
  go_simp
  (go_at_call 11; refine (awake_ok _).mono ?_; intro e W2 hpp; obtain ⟨rfl, hx⟩ := hpp)
  (try dsimp only); refine hK _ _ ?_; clear hK K; (try simp only [Act.put, List.setIfInBounds_toArray, List.set_cons_zero, List.set_cons_succ])
  replace hE := hE.trans hx
  clear hx
  refine wpList_plain rfl (fun K hK => ?_)
  go_simp
  (try dsimp only); refine hK _ _ ?_; clear hK K; (try simp only [Act.put, List.setIfInBounds_toArray, List.set_cons_zero, List.set_cons_succ])
  refine wpList_nil ?_
  go_wp2_with fail
  go_ret
  exact ⟨rfl, hE⟩

set_option maxRecDepth 100000 in
set_option maxHeartbeats 4000000 in
theorem law_finds_ok (l : List OV) (s : Value) (pg : Int) (w : World) (hs : isSl w s 7 l.length (oF l)) (hl : ¬ 40 < l.length) :
    Calls Try.prog 8 #[s, .int .i64 pg] w fun e w' => e = .returned (.bool true) ∧ Ext w w' := by
  obtain ⟨ad, c, rfl⟩ := sl_shape hs
  have HS : Hid (isSl w (.slice ad l.length c) 7 l.length (oF l)) := hs
  clear hs
  have hb1 : decide ((40 : Int) < (l.length : Int)) = false := by simpa using (by omega : ¬ (40 : Int) < (l.length : Int))
  have hb2 : decide (40 < l.length) = false := by simpa using hl
  go_enter Try.func8, Try.ntmps8
  go_upto_region 1 with fail
  refine name_wX (fun W0 hW => ?_)
  have hE : Ext w W0 := by rw [hW]; exact Ext.refl w
  clear hW
  refine wp_region_lit ?_
  refine wpList_plain rfl (fun K hK => ?_)
  go_simp
  (go_at_call 11; refine (awake_ok _).mono ?_; intro e W1 hpp; obtain ⟨rfl, hx⟩ := hpp)
  (try dsimp only); refine hK _ _ ?_; clear hK K; (try simp only [Act.put, List.setIfInBounds_toArray, List.set_cons_zero, List.set_cons_succ])
  replace hE := hE.trans hx
  clear hx
  refine wpList_plain rfl (fun K hK => ?_)
  go_simp; (try simp only [hb1, hb2])
  (try dsimp only); refine hK _ _ ?_; clear hK K; (try simp only [Act.put, List.setIfInBounds_toArray, List.set_cons_zero, List.set_cons_succ])
  refine wpList_plain rfl (fun K hK => ?_)
  go_simp
  (try dsimp only); refine hK _ _ ?_; clear hK K; (try simp only [Act.put, List.setIfInBounds_toArray, List.set_cons_zero, List.set_cons_succ])
  refine wpList_step (fun K hK => ?_)
  rw [if_pos (by rfl)]
  go_simp
  (try dsimp only); refine hK _ _ ?_; clear hK K; (try simp only [Act.put, List.setIfInBounds_toArray, List.set_cons_zero, List.set_cons_succ])
  refine wpList_step (fun K hK => ?_)
  rw [if_pos (by rfl)]
  go_simp
  (try dsimp only); refine hK _ _ ?_; clear hK K; (try simp only [Act.put, List.setIfInBounds_toArray, List.set_cons_zero, List.set_cons_succ])
  refine wpList_step (fun K hK => ?_)
  rw [if_pos (by rfl)]
  go_simp; (try simp (disch := omega) only [IntWalk.i64_in, IntWalk.wrap64_in]); (try simp only [hb1, hb2])
  (try dsimp only); refine hK _ _ ?_; clear hK K; (try simp only [Act.put, List.setIfInBounds_toArray, List.set_cons_zero, List.set_cons_succ])
  refine wpList_plain rfl (fun K hK => ?_)
  go_simp
  (try dsimp only); refine hK _ _ ?_; clear hK K; (try simp only [Act.put, List.setIfInBounds_toArray, List.set_cons_zero, List.set_cons_succ])
  refine wpList_nil ?_
  go_upto_region 3 with fail
  refine wp_region_lit ?_
  refine wpList_plain rfl (fun K hK => ?_)
  go_simp
  (try dsimp only); refine hK _ _ ?_; clear hK K; (try simp only [Act.put, List.setIfInBounds_toArray, List.set_cons_zero, List.set_cons_succ])
  refine wpList_plain rfl (fun K hK => ?_)
  go_simp
  (go_at_call 21; refine (played_any l _ _ (HS.out.ext hE) (by omega)).mono ?_; intro e W2 hpp; obtain ⟨p, v, u, hp, rfl, tv, hown, hx⟩ := hpp)
  (try dsimp only); refine hK _ _ ?_; clear hK K; (try simp only [Act.put, List.setIfInBounds_toArray, List.set_cons_zero, List.set_cons_succ])
  replace hE := hE.trans hx
  clear hx
  replace tv := isT.lw tv
  obtain ⟨m, hm0⟩ : ∃ m, m = W2.heap.size := ⟨_, rfl⟩
  have hwm : w.heap.size ≤ m := by rw [hm0]; exact hE.below.size
  rw [← hm0] at tv
  have hm : m ≤ W2.heap.size := by omega
  obtain ⟨B0, hown⟩ : ∃ B, ownR W2 B u p.flat := ⟨_, hown⟩
  have hgm : ∀ g, u.ownBlock = some g → g < m := fun g hg => by have := (hown.lt g hg).2; omega
  clear hm0
  obtain ⟨ua, uc, rfl⟩ := hown.shape
  have hlen := good_len hp
  refine wpList_plain rfl (fun K hK => ?_)
  go_simp
  (try dsimp only); refine hK _ _ ?_; clear hK K; (try simp only [Act.put, List.setIfInBounds_toArray, List.set_cons_zero, List.set_cons_succ])
  refine wpList_plain rfl (fun K hK => ?_)
  go_simp
  (try dsimp only); refine hK _ _ ?_; clear hK K; (try simp only [Act.put, List.setIfInBounds_toArray, List.set_cons_zero, List.set_cons_succ])
  refine wpList_plain rfl (fun K hK => ?_)
  go_simp
  (try dsimp only); refine hK _ _ ?_; clear hK K; (try simp only [Act.put, List.setIfInBounds_toArray, List.set_cons_zero, List.set_cons_succ])
  refine wpList_plain rfl (fun K hK => ?_)
  go_simp
  (try dsimp only); refine hK _ _ ?_; clear hK K; (try simp only [Act.put, List.setIfInBounds_toArray, List.set_cons_zero, List.set_cons_succ])
  refine wpList_plain rfl (fun K hK => ?_)
  have qb : m ≤ W2.heap.size := hm
  go_simp
  (try dsimp only); refine hK _ _ ?_; clear hK K; (try simp only [Act.put, List.setIfInBounds_toArray, List.set_cons_zero, List.set_cons_succ])
  refine name_wl (fun W3 hW => ?_)
  have hx : Ext W2 W3 := by rw [hW]; exact ext_alloc _ _
  have b0 : Blk W3 W2.heap.size 28 TV.z.cs := by rw [hW]; exact Blk.newAt rfl
  clear hW
  replace hown := hown.ext hx
  replace tv := isT.ext hx tv
  replace hm := Nat.le_trans hm hx.below.size
  replace hE := hE.trans hx
  clear hx
  obtain ⟨r0, hr⟩ : ∃ r, r = W2.heap.size := ⟨_, rfl⟩
  rw [← hr] at b0
  try rw [← hr]
  have qb0 : m ≤ r0 := by omega
  clear hr
  have qz : r0 < W3.heap.size := b0.lt
  refine wpList_plain rfl (fun K hK => ?_)
  refine wp_store_box 28 _ _ (by rfl) b0 (by rfl) (by rfl) (by exact Try.infoT) (by first | exact RV.one _ | exact TV.one _ rfl | exact RV.one _ | exact TV.one _ (isT.one tv)) (by rfl) (fun W4 hg bn => ?_)
  replace hown := hown.kept hg (.inr (fun e => absurd (hgm _ e) (by omega)))
  replace tv := isT.kept hg (Lw.not (by omega)) tv
  replace hm := Nat.le_trans hm hg.size
  replace hE := ext_grow hE hg (fun q hq => by cases hq; omega)
  clear b0 hg
  have b0 := bn
  clear bn
  (try dsimp only); refine hK _ _ ?_; clear hK K; (try simp only [Act.put, List.setIfInBounds_toArray, List.set_cons_zero, List.set_cons_succ])
  replace qz : r0 < W4.heap.size := b0.lt
  refine wpList_plain rfl (fun K hK => ?_)
  go_simp
  (try dsimp only); refine hK _ _ ?_; clear hK K; (try simp only [Act.put, List.setIfInBounds_toArray, List.set_cons_zero, List.set_cons_succ])
  refine wpList_plain rfl (fun K hK => ?_)
  go_simp
  (try dsimp only); refine hK _ _ ?_; clear hK K; (try simp only [Act.put, List.setIfInBounds_toArray, List.set_cons_zero, List.set_cons_succ])
  refine wpList_nil ?_
  go_upto_region 4 with fail
  refine wp_region_lit ?_
  refine wpList_plain rfl (fun K hK => ?_)
  go_simp
  (try dsimp only); refine hK _ _ ?_; clear hK K; (try simp only [Act.put, List.setIfInBounds_toArray, List.set_cons_zero, List.set_cons_succ])
  refine wpList_plain rfl (fun K hK => ?_)
  go_simp
  (try dsimp only); refine hK _ _ ?_; clear hK K; (try simp only [Act.put, List.setIfInBounds_toArray, List.set_cons_zero, List.set_cons_succ])
  refine wpList_nil ?_
  go_upto_region 6 with fail
  refine wp_region_lit ?_
  refine wpList_plain rfl (fun K hK => ?_)
  have qb : m ≤ W4.heap.size := hm
  go_simp
  (try dsimp only); refine hK _ _ ?_; clear hK K; (try simp only [Act.put, List.setIfInBounds_toArray, List.set_cons_zero, List.set_cons_succ])
  refine name_wl (fun W5 hW => ?_)
  have hx : Ext W4 W5 := by rw [hW]; exact ext_alloc _ _
  have b1 : Blk W5 W4.heap.size 25 RV.z.cs := by rw [hW]; exact Blk.newAt rfl
  clear hW
  replace b0 := b0.ext hx
  replace hown := hown.ext hx
  replace tv := isT.ext hx tv
  replace hm := Nat.le_trans hm hx.below.size
  replace hE := hE.trans hx
  clear hx
  obtain ⟨r1, hr⟩ : ∃ r, r = W4.heap.size := ⟨_, rfl⟩
  rw [← hr] at b1
  try rw [← hr]
  have q1 : r0 < r1 := by omega
  have qb1 : m ≤ r1 := by omega
  clear hr
  replace qz : r1 < W5.heap.size := b1.lt
  refine wpList_plain rfl (fun K hK => ?_)
  have qb : m ≤ W5.heap.size := hm
  go_simp
  (try dsimp only); refine hK _ _ ?_; clear hK K; (try simp only [Act.put, List.setIfInBounds_toArray, List.set_cons_zero, List.set_cons_succ])
  refine name_wl (fun W6 hW => ?_)
  have hx : Ext W5 W6 := by rw [hW]; exact ext_alloc _ _
  have b2 : Blk W6 W5.heap.size 25 RV.z.cs := by rw [hW]; exact Blk.newAt rfl
  clear hW
  replace b0 := b0.ext hx
  replace b1 := b1.ext hx
  replace hown := hown.ext hx
  replace tv := isT.ext hx tv
  replace hm := Nat.le_trans hm hx.below.size
  replace hE := hE.trans hx
  clear hx
  obtain ⟨r2, hr⟩ : ∃ r, r = W5.heap.size := ⟨_, rfl⟩
  rw [← hr] at b2
  try rw [← hr]
  have q2 : r1 < r2 := by omega
  have qb2 : m ≤ r2 := by omega
  clear hr
  replace qz : r2 < W6.heap.size := b2.lt
  refine wpList_nil ?_
  go_upto_region 9 with fail
  go_loopw [10, 11, 36] (fun v10 v11 vi wr => ∃ (k : Nat) (fo mo : Bool) (xi xn : RV), v10 = .bool fo ∧ v11 = .bool mo ∧ vi = .int .i64 k ∧ k ≤ p.flat.length ∧ Blk wr r0 28 v.cs ∧ Blk wr r1 25 xi.cs ∧ Blk wr r2 25 xn.cs ∧ isT (Lw (fun _ => True) m) wr p.bt v ∧ ownR wr B0 (.slice ua p.flat.length uc) p.flat ∧ (p.flat.take k).foldl (finS pg) (false, RV.z) = (fo, xi) ∧ (p.flat.take k).foldl (nxtS pg) (false, RV.z) = (mo, xn) ∧ m ≤ wr.heap.size ∧ Ext w wr) (fun _ _ vi _ => p.flat.length - (intOf vi).toNat)
  case atStart => exact ⟨0, false, false, RV.z, RV.z, rfl, rfl, rfl, by omega, b0, b1, b2, tv, hown, rfl, rfl, hm, hE⟩
  case round =>
    clear b0 b1 b2 tv hown hm hE qz
    obtain ⟨k, fo, mo, xi, xn, rfl, rfl, rfl, hk, b0, b1, b2, tv, hown, hfo, hmo, hm, hE⟩ := hrel
    obtain ⟨W0, rfl⟩ : ∃ W, W = wr := ⟨_, rfl⟩
    have qz : r2 < W0.heap.size := b2.lt
    replace hfo : Hid _ := hfo
    replace hmo : Hid _ := hmo
    by_cases hlt : k < p.flat.length
    · obtain ⟨gw, ow, rfl, hd1, hd2, hgw, hrw⟩ := sl_at hown.isSl hlt
      have hgw2 : gw < m := hgm _ rfl
      have hvx := hp.o.v _ (List.getElem_mem hlt)
      have hf1 := fold_next (finS pg) (false, RV.z) p.flat hlt
      have hn1 := fold_next (nxtS pg) (false, RV.z) p.flat hlt
      rw [hfo.out] at hf1
      rw [hmo.out] at hn1
      obtain ⟨x, hx⟩ : ∃ x, x = p.flat[k] := ⟨_, rfl⟩
      rw [← hx] at hrw hvx hf1 hn1
      clear hx
      obtain ⟨x1, x2, x3, x4⟩ := hvx
      replace hf1 : Hid _ := hf1
      replace hn1 : Hid _ := hn1
      go_upto_region 10 with fail
      refine wp_region_lit ?_
      refine wpList_plain rfl (fun K hK => ?_)
      go_simp
      (try dsimp only); refine hK _ _ ?_; clear hK K; (try simp only [Act.put, List.setIfInBounds_toArray, List.set_cons_zero, List.set_cons_succ])
      refine wpList_plain rfl (fun K hK => ?_)
      (first | (refine wp_ld 25 _ (hrw) (by rfl) (by rfl) Try.underlying25 rfl (by exact Try.infoR) ?_))
      (try dsimp only); refine hK _ _ ?_; clear hK K; (try simp only [Act.put, List.setIfInBounds_toArray, List.set_cons_zero, List.set_cons_succ])
      refine wpList_plain rfl (fun K hK => ?_)
      have qb : m ≤ W0.heap.size := hm
      go_simp
      (try dsimp only); refine hK _ _ ?_; clear hK K; (try simp only [Act.put, List.setIfInBounds_toArray, List.set_cons_zero, List.set_cons_succ])
      refine name_wl (fun W201 hW => ?_)
      have hx : Ext W0 W201 := by rw [hW]; exact ext_alloc _ _
      have b3 : Blk W201 W0.heap.size 25 RV.z.cs := by rw [hW]; exact Blk.newAt rfl
      clear hW
      replace b0 := b0.ext hx
      replace b1 := b1.ext hx
      replace b2 := b2.ext hx
      replace hown := hown.ext hx
      replace tv := isT.ext hx tv
      replace hm := Nat.le_trans hm hx.below.size
      replace hrw := rangeAt.ext hrw hgw hx
      replace hgw := Nat.lt_of_lt_of_le hgw hx.below.size
      replace hE := hE.trans hx
      clear hx
      obtain ⟨r3, hr⟩ : ∃ r, r = W0.heap.size := ⟨_, rfl⟩
      rw [← hr] at b3
      try rw [← hr]
      have q3 : r2 < r3 := by omega
      have qb3 : m ≤ r3 := by omega
      clear hr
      replace qz : r3 < W201.heap.size := b3.lt
      refine wpList_plain rfl (fun K hK => ?_)
      refine wp_store_box 25 _ _ (by rfl) b3 (by rfl) (by rfl) (by exact Try.infoR) (by first | exact RV.one _ | exact TV.one _ rfl | exact RV.one _ | exact TV.one _ (isT.one tv)) (by rfl) (fun W202 hg bn => ?_)
      replace b0 := b0.kept hg (by simp only [ne_eq, Option.some.injEq]; omega)
      replace b1 := b1.kept hg (by simp only [ne_eq, Option.some.injEq]; omega)
      replace b2 := b2.kept hg (by simp only [ne_eq, Option.some.injEq]; omega)
      replace hown := hown.kept hg (.inr (fun e => absurd (hgm _ e) (by omega)))
      replace tv := isT.kept hg (Lw.not (by omega)) tv
      replace hm := Nat.le_trans hm hg.size
      replace hrw := rangeAt.kept hrw hgw hg (by simp only [ne_eq, Option.some.injEq]; omega)
      replace hgw := Nat.lt_of_lt_of_le hgw hg.size
      replace hE := ext_grow hE hg (fun q hq => by cases hq; omega)
      clear b3 hg
      have b3 := bn
      clear bn
      (try dsimp only); refine hK _ _ ?_; clear hK K; (try simp only [Act.put, List.setIfInBounds_toArray, List.set_cons_zero, List.set_cons_succ])
      replace qz : r3 < W202.heap.size := b3.lt
      refine wpList_nil ?_
      by_cases c1 : x.s ≤ pg
      · by_cases c2 : pg < x.s + x.p
        · have hb1 : decide (x.s ≤ pg) = true := decide_eq_true c1
          have hb2 : decide (pg < x.s + x.p) = true := decide_eq_true c2
          go_upto_region 11 with fail
          refine wp_region_lit ?_
          refine wpList_plain rfl (fun K hK => ?_)
          go_simp
          (try dsimp only); refine hK _ _ ?_; clear hK K; (try simp only [Act.put, List.setIfInBounds_toArray, List.set_cons_zero, List.set_cons_succ])
          refine wpList_plain rfl (fun K hK => ?_)
          have zc := b3.cell 0; go_simp; clear zc; (try simp only [hb1, hb2])
          (try dsimp only); refine hK _ _ ?_; clear hK K; (try simp only [Act.put, List.setIfInBounds_toArray, List.set_cons_zero, List.set_cons_succ])
          refine wpList_plain rfl (fun K hK => ?_)
          go_simp
          (try dsimp only); refine hK _ _ ?_; clear hK K; (try simp only [Act.put, List.setIfInBounds_toArray, List.set_cons_zero, List.set_cons_succ])
          refine wpList_plain rfl (fun K hK => ?_)
          go_simp; (try simp (disch := omega) only [IntWalk.i64_in, IntWalk.wrap64_in]); (try simp only [hb1, hb2])
          (try dsimp only); refine hK _ _ ?_; clear hK K; (try simp only [Act.put, List.setIfInBounds_toArray, List.set_cons_zero, List.set_cons_succ])
          refine wpList_plain rfl (fun K hK => ?_)
          go_simp
          (try dsimp only); refine hK _ _ ?_; clear hK K; (try simp only [Act.put, List.setIfInBounds_toArray, List.set_cons_zero, List.set_cons_succ])
          refine wpList_step (fun K hK => ?_)
          rw [if_pos (by rfl)]
          go_simp
          (try dsimp only); refine hK _ _ ?_; clear hK K; (try simp only [Act.put, List.setIfInBounds_toArray, List.set_cons_zero, List.set_cons_succ])
          refine wpList_step (fun K hK => ?_)
          rw [if_pos (by rfl)]
          go_simp
          (try dsimp only); refine hK _ _ ?_; clear hK K; (try simp only [Act.put, List.setIfInBounds_toArray, List.set_cons_zero, List.set_cons_succ])
          refine wpList_step (fun K hK => ?_)
          rw [if_pos (by rfl)]
          have zc := b3.cell 0; go_simp; clear zc; (try simp only [hb1, hb2])
          (try dsimp only); refine hK _ _ ?_; clear hK K; (try simp only [Act.put, List.setIfInBounds_toArray, List.set_cons_zero, List.set_cons_succ])
          refine wpList_step (fun K hK => ?_)
          rw [if_pos (by rfl)]
          go_simp
          (try dsimp only); refine hK _ _ ?_; clear hK K; (try simp only [Act.put, List.setIfInBounds_toArray, List.set_cons_zero, List.set_cons_succ])
          refine wpList_step (fun K hK => ?_)
          rw [if_pos (by rfl)]
          have zc := b3.cell 1; go_simp; clear zc; (try simp only [hb1, hb2])
          (try dsimp only); refine hK _ _ ?_; clear hK K; (try simp only [Act.put, List.setIfInBounds_toArray, List.set_cons_zero, List.set_cons_succ])
          refine wpList_step (fun K hK => ?_)
          rw [if_pos (by rfl)]
          go_simp; (try simp (disch := omega) only [IntWalk.i64_in, IntWalk.wrap64_in]); (try simp only [hb1, hb2])
          (try dsimp only); refine hK _ _ ?_; clear hK K; (try simp only [Act.put, List.setIfInBounds_toArray, List.set_cons_zero, List.set_cons_succ])
          refine wpList_step (fun K hK => ?_)
          rw [if_pos (by rfl)]
          go_simp; (try simp (disch := omega) only [IntWalk.i64_in, IntWalk.wrap64_in]); (try simp only [hb1, hb2])
          (try dsimp only); refine hK _ _ ?_; clear hK K; (try simp only [Act.put, List.setIfInBounds_toArray, List.set_cons_zero, List.set_cons_succ])
          refine wpList_plain rfl (fun K hK => ?_)
          go_simp
          (try dsimp only); refine hK _ _ ?_; clear hK K; (try simp only [Act.put, List.setIfInBounds_toArray, List.set_cons_zero, List.set_cons_succ])
          refine wpList_nil ?_
          go_upto_region 12 with fail
          refine wp_region_lit ?_
          refine wpList_plain rfl (fun K hK => ?_)
          (first | (refine wp_ld 25 _ (b3.range) (by rfl) (by rfl) Try.underlying25 rfl (by exact Try.infoR) ?_))
          (try dsimp only); refine hK _ _ ?_; clear hK K; (try simp only [Act.put, List.setIfInBounds_toArray, List.set_cons_zero, List.set_cons_succ])
          refine wpList_plain rfl (fun K hK => ?_)
          refine wp_store_box 25 _ _ (by rfl) b1 (by rfl) (by rfl) (by exact Try.infoR) (by first | exact RV.one _ | exact TV.one _ rfl | exact RV.one _ | exact TV.one _ (isT.one tv)) (by rfl) (fun W301 hg bn => ?_)
          replace b0 := b0.kept hg (by simp only [ne_eq, Option.some.injEq]; omega)
          replace b2 := b2.kept hg (by simp only [ne_eq, Option.some.injEq]; omega)
          replace b3 := b3.kept hg (by simp only [ne_eq, Option.some.injEq]; omega)
          replace hown := hown.kept hg (.inr (fun e => absurd (hgm _ e) (by omega)))
          replace tv := isT.kept hg (Lw.not (by omega)) tv
          replace hm := Nat.le_trans hm hg.size
          replace hrw := rangeAt.kept hrw hgw hg (by simp only [ne_eq, Option.some.injEq]; omega)
          replace hgw := Nat.lt_of_lt_of_le hgw hg.size
          replace hE := ext_grow hE hg (fun q hq => by cases hq; omega)
          clear b1 hg
          have b1 := bn
          clear bn
          (try dsimp only); refine hK _ _ ?_; clear hK K; (try simp only [Act.put, List.setIfInBounds_toArray, List.set_cons_zero, List.set_cons_succ])
          replace qz : r3 < W301.heap.size := b3.lt
          refine wpList_plain rfl (fun K hK => ?_)
          go_simp
          (try dsimp only); refine hK _ _ ?_; clear hK K; (try simp only [Act.put, List.setIfInBounds_toArray, List.set_cons_zero, List.set_cons_succ])
          refine wpList_nil ?_
          have c3 := c2
          cases mo with
          | true =>
            have hb3 : decide (pg < x.s + x.p) = true := decide_eq_true c3
            go_upto_region 13 with fail
            refine wp_region_lit ?_
            refine wpList_plain rfl (fun K hK => ?_)
            go_simp
            (try dsimp only); refine hK _ _ ?_; clear hK K; (try simp only [Act.put, List.setIfInBounds_toArray, List.set_cons_zero, List.set_cons_succ])
            refine wpList_plain rfl (fun K hK => ?_)
            have zc := b3.cell 0; go_simp; clear zc; (try simp only [hb3])
            (try dsimp only); refine hK _ _ ?_; clear hK K; (try simp only [Act.put, List.setIfInBounds_toArray, List.set_cons_zero, List.set_cons_succ])
            refine wpList_plain rfl (fun K hK => ?_)
            go_simp
            (try dsimp only); refine hK _ _ ?_; clear hK K; (try simp only [Act.put, List.setIfInBounds_toArray, List.set_cons_zero, List.set_cons_succ])
            refine wpList_plain rfl (fun K hK => ?_)
            have zc := b3.cell 1; go_simp; clear zc; (try simp only [hb3])
            (try dsimp only); refine hK _ _ ?_; clear hK K; (try simp only [Act.put, List.setIfInBounds_toArray, List.set_cons_zero, List.set_cons_succ])
            refine wpList_plain rfl (fun K hK => ?_)
            go_simp; (try simp (disch := omega) only [IntWalk.i64_in, IntWalk.wrap64_in]); (try simp only [hb3])
            (try dsimp only); refine hK _ _ ?_; clear hK K; (try simp only [Act.put, List.setIfInBounds_toArray, List.set_cons_zero, List.set_cons_succ])
            refine wpList_plain rfl (fun K hK => ?_)
            go_simp
            (try dsimp only); refine hK _ _ ?_; clear hK K; (try simp only [Act.put, List.setIfInBounds_toArray, List.set_cons_zero, List.set_cons_succ])
            refine wpList_plain rfl (fun K hK => ?_)
            go_simp; (try simp (disch := omega) only [IntWalk.i64_in, IntWalk.wrap64_in]); (try simp only [hb3])
            (try dsimp only); refine hK _ _ ?_; clear hK K; (try simp only [Act.put, List.setIfInBounds_toArray, List.set_cons_zero, List.set_cons_succ])
            refine wpList_plain rfl (fun K hK => ?_)
            go_simp
            (try dsimp only); refine hK _ _ ?_; clear hK K; (try simp only [Act.put, List.setIfInBounds_toArray, List.set_cons_zero, List.set_cons_succ])
            refine wpList_step (fun K hK => ?_)
            rw [if_pos (by rfl)]
            go_simp
            (try dsimp only); refine hK _ _ ?_; clear hK K; (try simp only [Act.put, List.setIfInBounds_toArray, List.set_cons_zero, List.set_cons_succ])
            refine wpList_step (fun K hK => ?_)
            rw [if_pos (by rfl)]
            go_simp; (try simp only [hb3])
            (try dsimp only); refine hK _ _ ?_; clear hK K; (try simp only [Act.put, List.setIfInBounds_toArray, List.set_cons_zero, List.set_cons_succ])
            refine wpList_plain rfl (fun K hK => ?_)
            go_simp
            (try dsimp only); refine hK _ _ ?_; clear hK K; (try simp only [Act.put, List.setIfInBounds_toArray, List.set_cons_zero, List.set_cons_succ])
            refine wpList_nil ?_
            go_upto_region 15 with fail
            refine wp_region_lit ?_
            refine wpList_plain rfl (fun K hK => ?_)
            go_simp; (try simp (disch := omega) only [IntWalk.i64_in, IntWalk.wrap64_in])
            (try dsimp only); refine hK _ _ ?_; clear hK K; (try simp only [Act.put, List.setIfInBounds_toArray, List.set_cons_zero, List.set_cons_succ])
            refine wpList_plain rfl (fun K hK => ?_)
            go_simp
            (try dsimp only); refine hK _ _ ?_; clear hK K; (try simp only [Act.put, List.setIfInBounds_toArray, List.set_cons_zero, List.set_cons_succ])
            refine wpList_nil ?_
            go_wp2_with fail
            go_roundw
            case rel => exact ⟨k + 1, true, true, x, xn, rfl, rfl, by go_num, by omega, b0, b1, b2, tv, hown, by rw [hf1.out]; unfold finS; rw [if_pos ⟨c1, c2⟩], by rw [hn1.out]; simp [nxtS], hm, hE⟩
            case measure => simp [intOf]; omega
          | false =>
            have hb3 : decide (pg < x.s + x.p) = true := decide_eq_true c3
            go_upto_region 13 with fail
            refine wp_region_lit ?_
            refine wpList_plain rfl (fun K hK => ?_)
            go_simp
            (try dsimp only); refine hK _ _ ?_; clear hK K; (try simp only [Act.put, List.setIfInBounds_toArray, List.set_cons_zero, List.set_cons_succ])
            refine wpList_plain rfl (fun K hK => ?_)
            have zc := b3.cell 0; go_simp; clear zc; (try simp only [hb3])
            (try dsimp only); refine hK _ _ ?_; clear hK K; (try simp only [Act.put, List.setIfInBounds_toArray, List.set_cons_zero, List.set_cons_succ])
            refine wpList_plain rfl (fun K hK => ?_)
            go_simp
            (try dsimp only); refine hK _ _ ?_; clear hK K; (try simp only [Act.put, List.setIfInBounds_toArray, List.set_cons_zero, List.set_cons_succ])
            refine wpList_plain rfl (fun K hK => ?_)
            have zc := b3.cell 1; go_simp; clear zc; (try simp only [hb3])
            (try dsimp only); refine hK _ _ ?_; clear hK K; (try simp only [Act.put, List.setIfInBounds_toArray, List.set_cons_zero, List.set_cons_succ])
            refine wpList_plain rfl (fun K hK => ?_)
            go_simp; (try simp (disch := omega) only [IntWalk.i64_in, IntWalk.wrap64_in]); (try simp only [hb3])
            (try dsimp only); refine hK _ _ ?_; clear hK K; (try simp only [Act.put, List.setIfInBounds_toArray, List.set_cons_zero, List.set_cons_succ])
            refine wpList_plain rfl (fun K hK => ?_)
            go_simp
            (try dsimp only); refine hK _ _ ?_; clear hK K; (try simp only [Act.put, List.setIfInBounds_toArray, List.set_cons_zero, List.set_cons_succ])
            refine wpList_plain rfl (fun K hK => ?_)
            go_simp; (try simp (disch := omega) only [IntWalk.i64_in, IntWalk.wrap64_in]); (try simp only [hb3])
            (try dsimp only); refine hK _ _ ?_; clear hK K; (try simp only [Act.put, List.setIfInBounds_toArray, List.set_cons_zero, List.set_cons_succ])
            refine wpList_plain rfl (fun K hK => ?_)
            go_simp
            (try dsimp only); refine hK _ _ ?_; clear hK K; (try simp only [Act.put, List.setIfInBounds_toArray, List.set_cons_zero, List.set_cons_succ])
            refine wpList_step (fun K hK => ?_)
            rw [if_pos (by rfl)]
            go_simp
            (try dsimp only); refine hK _ _ ?_; clear hK K; (try simp only [Act.put, List.setIfInBounds_toArray, List.set_cons_zero, List.set_cons_succ])
            refine wpList_step (fun K hK => ?_)
            rw [if_pos (by rfl)]
            go_simp; (try simp only [hb3])
            (try dsimp only); refine hK _ _ ?_; clear hK K; (try simp only [Act.put, List.setIfInBounds_toArray, List.set_cons_zero, List.set_cons_succ])
            refine wpList_plain rfl (fun K hK => ?_)
            go_simp
            (try dsimp only); refine hK _ _ ?_; clear hK K; (try simp only [Act.put, List.setIfInBounds_toArray, List.set_cons_zero, List.set_cons_succ])
            refine wpList_nil ?_
            go_upto_region 14 with fail
            refine wp_region_lit ?_
            refine wpList_plain rfl (fun K hK => ?_)
            (first | (refine wp_ld 25 _ (b3.range) (by rfl) (by rfl) Try.underlying25 rfl (by exact Try.infoR) ?_))
            (try dsimp only); refine hK _ _ ?_; clear hK K; (try simp only [Act.put, List.setIfInBounds_toArray, List.set_cons_zero, List.set_cons_succ])
            refine wpList_plain rfl (fun K hK => ?_)
            refine wp_store_box 25 _ _ (by rfl) b2 (by rfl) (by rfl) (by exact Try.infoR) (by first | exact RV.one _ | exact TV.one _ rfl | exact RV.one _ | exact TV.one _ (isT.one tv)) (by rfl) (fun W342 hg bn => ?_)
            replace b0 := b0.kept hg (by simp only [ne_eq, Option.some.injEq]; omega)
            replace b1 := b1.kept hg (by simp only [ne_eq, Option.some.injEq]; omega)
            replace b3 := b3.kept hg (by simp only [ne_eq, Option.some.injEq]; omega)
            replace hown := hown.kept hg (.inr (fun e => absurd (hgm _ e) (by omega)))
            replace tv := isT.kept hg (Lw.not (by omega)) tv
            replace hm := Nat.le_trans hm hg.size
            replace hrw := rangeAt.kept hrw hgw hg (by simp only [ne_eq, Option.some.injEq]; omega)
            replace hgw := Nat.lt_of_lt_of_le hgw hg.size
            replace hE := ext_grow hE hg (fun q hq => by cases hq; omega)
            clear b2 hg
            have b2 := bn
            clear bn
            (try dsimp only); refine hK _ _ ?_; clear hK K; (try simp only [Act.put, List.setIfInBounds_toArray, List.set_cons_zero, List.set_cons_succ])
            replace qz : r3 < W342.heap.size := b3.lt
            refine wpList_plain rfl (fun K hK => ?_)
            go_simp
            (try dsimp only); refine hK _ _ ?_; clear hK K; (try simp only [Act.put, List.setIfInBounds_toArray, List.set_cons_zero, List.set_cons_succ])
            refine wpList_nil ?_
            go_upto_region 15 with fail
            refine wp_region_lit ?_
            refine wpList_plain rfl (fun K hK => ?_)
            go_simp; (try simp (disch := omega) only [IntWalk.i64_in, IntWalk.wrap64_in])
            (try dsimp only); refine hK _ _ ?_; clear hK K; (try simp only [Act.put, List.setIfInBounds_toArray, List.set_cons_zero, List.set_cons_succ])
            refine wpList_plain rfl (fun K hK => ?_)
            go_simp
            (try dsimp only); refine hK _ _ ?_; clear hK K; (try simp only [Act.put, List.setIfInBounds_toArray, List.set_cons_zero, List.set_cons_succ])
            refine wpList_nil ?_
            go_wp2_with fail
            go_roundw
            case rel => exact ⟨k + 1, true, true, x, x, rfl, rfl, by go_num, by omega, b0, b1, b2, tv, hown, by rw [hf1.out]; unfold finS; rw [if_pos ⟨c1, c2⟩], by rw [hn1.out]; unfold nxtS; rw [if_pos ⟨c3, rfl⟩], hm, hE⟩
            case measure => simp [intOf]; omega
        · have hb1 : decide (x.s ≤ pg) = true := decide_eq_true c1
          have hb2 : decide (pg < x.s + x.p) = false := decide_eq_false c2
          go_upto_region 11 with fail
          refine wp_region_lit ?_
          refine wpList_plain rfl (fun K hK => ?_)
          go_simp
          (try dsimp only); refine hK _ _ ?_; clear hK K; (try simp only [Act.put, List.setIfInBounds_toArray, List.set_cons_zero, List.set_cons_succ])
          refine wpList_plain rfl (fun K hK => ?_)
          have zc := b3.cell 0; go_simp; clear zc; (try simp only [hb1, hb2])
          (try dsimp only); refine hK _ _ ?_; clear hK K; (try simp only [Act.put, List.setIfInBounds_toArray, List.set_cons_zero, List.set_cons_succ])
          refine wpList_plain rfl (fun K hK => ?_)
          go_simp
          (try dsimp only); refine hK _ _ ?_; clear hK K; (try simp only [Act.put, List.setIfInBounds_toArray, List.set_cons_zero, List.set_cons_succ])
          refine wpList_plain rfl (fun K hK => ?_)
          go_simp; (try simp (disch := omega) only [IntWalk.i64_in, IntWalk.wrap64_in]); (try simp only [hb1, hb2])
          (try dsimp only); refine hK _ _ ?_; clear hK K; (try simp only [Act.put, List.setIfInBounds_toArray, List.set_cons_zero, List.set_cons_succ])
          refine wpList_plain rfl (fun K hK => ?_)
          go_simp
          (try dsimp only); refine hK _ _ ?_; clear hK K; (try simp only [Act.put, List.setIfInBounds_toArray, List.set_cons_zero, List.set_cons_succ])
          refine wpList_step (fun K hK => ?_)
          rw [if_pos (by rfl)]
          go_simp
          (try dsimp only); refine hK _ _ ?_; clear hK K; (try simp only [Act.put, List.setIfInBounds_toArray, List.set_cons_zero, List.set_cons_succ])
          refine wpList_step (fun K hK => ?_)
          rw [if_pos (by rfl)]
          go_simp
          (try dsimp only); refine hK _ _ ?_; clear hK K; (try simp only [Act.put, List.setIfInBounds_toArray, List.set_cons_zero, List.set_cons_succ])
          refine wpList_step (fun K hK => ?_)
          rw [if_pos (by rfl)]
          have zc := b3.cell 0; go_simp; clear zc; (try simp only [hb1, hb2])
          (try dsimp only); refine hK _ _ ?_; clear hK K; (try simp only [Act.put, List.setIfInBounds_toArray, List.set_cons_zero, List.set_cons_succ])
          refine wpList_step (fun K hK => ?_)
          rw [if_pos (by rfl)]
          go_simp
          (try dsimp only); refine hK _ _ ?_; clear hK K; (try simp only [Act.put, List.setIfInBounds_toArray, List.set_cons_zero, List.set_cons_succ])
          refine wpList_step (fun K hK => ?_)
          rw [if_pos (by rfl)]
          have zc := b3.cell 1; go_simp; clear zc; (try simp only [hb1, hb2])
          (try dsimp only); refine hK _ _ ?_; clear hK K; (try simp only [Act.put, List.setIfInBounds_toArray, List.set_cons_zero, List.set_cons_succ])
          refine wpList_step (fun K hK => ?_)
          rw [if_pos (by rfl)]
          go_simp; (try simp (disch := omega) only [IntWalk.i64_in, IntWalk.wrap64_in]); (try simp only [hb1, hb2])
          (try dsimp only); refine hK _ _ ?_; clear hK K; (try simp only [Act.put, List.setIfInBounds_toArray, List.set_cons_zero, List.set_cons_succ])
          refine wpList_step (fun K hK => ?_)
          rw [if_pos (by rfl)]
          go_simp; (try simp (disch := omega) only [IntWalk.i64_in, IntWalk.wrap64_in]); (try simp only [hb1, hb2])
          (try dsimp only); refine hK _ _ ?_; clear hK K; (try simp only [Act.put, List.setIfInBounds_toArray, List.set_cons_zero, List.set_cons_succ])
          refine wpList_plain rfl (fun K hK => ?_)
          go_simp
          (try dsimp only); refine hK _ _ ?_; clear hK K; (try simp only [Act.put, List.setIfInBounds_toArray, List.set_cons_zero, List.set_cons_succ])
          refine wpList_nil ?_
          have c3 := c2
          have hb3 : decide (pg < x.s + x.p) = false := decide_eq_false c3
          go_upto_region 13 with fail
          refine wp_region_lit ?_
          refine wpList_plain rfl (fun K hK => ?_)
          go_simp
          (try dsimp only); refine hK _ _ ?_; clear hK K; (try simp only [Act.put, List.setIfInBounds_toArray, List.set_cons_zero, List.set_cons_succ])
          refine wpList_plain rfl (fun K hK => ?_)
          have zc := b3.cell 0; go_simp; clear zc; (try simp only [hb3])
          (try dsimp only); refine hK _ _ ?_; clear hK K; (try simp only [Act.put, List.setIfInBounds_toArray, List.set_cons_zero, List.set_cons_succ])
          refine wpList_plain rfl (fun K hK => ?_)
          go_simp
          (try dsimp only); refine hK _ _ ?_; clear hK K; (try simp only [Act.put, List.setIfInBounds_toArray, List.set_cons_zero, List.set_cons_succ])
          refine wpList_plain rfl (fun K hK => ?_)
          have zc := b3.cell 1; go_simp; clear zc; (try simp only [hb3])
          (try dsimp only); refine hK _ _ ?_; clear hK K; (try simp only [Act.put, List.setIfInBounds_toArray, List.set_cons_zero, List.set_cons_succ])
          refine wpList_plain rfl (fun K hK => ?_)
          go_simp; (try simp (disch := omega) only [IntWalk.i64_in, IntWalk.wrap64_in]); (try simp only [hb3])
          (try dsimp only); refine hK _ _ ?_; clear hK K; (try simp only [Act.put, List.setIfInBounds_toArray, List.set_cons_zero, List.set_cons_succ])
          refine wpList_plain rfl (fun K hK => ?_)
          go_simp
          (try dsimp only); refine hK _ _ ?_; clear hK K; (try simp only [Act.put, List.setIfInBounds_toArray, List.set_cons_zero, List.set_cons_succ])
          refine wpList_plain rfl (fun K hK => ?_)
          go_simp; (try simp (disch := omega) only [IntWalk.i64_in, IntWalk.wrap64_in]); (try simp only [hb3])
          (try dsimp only); refine hK _ _ ?_; clear hK K; (try simp only [Act.put, List.setIfInBounds_toArray, List.set_cons_zero, List.set_cons_succ])
          refine wpList_plain rfl (fun K hK => ?_)
          go_simp
          (try dsimp only); refine hK _ _ ?_; clear hK K; (try simp only [Act.put, List.setIfInBounds_toArray, List.set_cons_zero, List.set_cons_succ])
          refine wpList_step (fun K hK => ?_)
          rw [if_neg (by exact Bool.false_ne_true)]
          (try dsimp only); refine hK _ _ ?_; clear hK K; (try simp only [Act.put, List.setIfInBounds_toArray, List.set_cons_zero, List.set_cons_succ])
          refine wpList_step (fun K hK => ?_)
          rw [if_neg (by exact Bool.false_ne_true)]
          (try dsimp only); refine hK _ _ ?_; clear hK K; (try simp only [Act.put, List.setIfInBounds_toArray, List.set_cons_zero, List.set_cons_succ])
          refine wpList_plain rfl (fun K hK => ?_)
          go_simp
          (try dsimp only); refine hK _ _ ?_; clear hK K; (try simp only [Act.put, List.setIfInBounds_toArray, List.set_cons_zero, List.set_cons_succ])
          refine wpList_nil ?_
          go_upto_region 15 with fail
          refine wp_region_lit ?_
          refine wpList_plain rfl (fun K hK => ?_)
          go_simp; (try simp (disch := omega) only [IntWalk.i64_in, IntWalk.wrap64_in])
          (try dsimp only); refine hK _ _ ?_; clear hK K; (try simp only [Act.put, List.setIfInBounds_toArray, List.set_cons_zero, List.set_cons_succ])
          refine wpList_plain rfl (fun K hK => ?_)
          go_simp
          (try dsimp only); refine hK _ _ ?_; clear hK K; (try simp only [Act.put, List.setIfInBounds_toArray, List.set_cons_zero, List.set_cons_succ])
          refine wpList_nil ?_
          go_wp2_with fail
          go_roundw
          case rel => exact ⟨k + 1, fo, mo, xi, xn, rfl, rfl, by go_num, by omega, b0, b1, b2, tv, hown, by rw [hf1.out]; unfold finS; rw [if_neg (fun h => c2 h.2)], by rw [hn1.out]; unfold nxtS; rw [if_neg (fun h => c3 h.1)], hm, hE⟩
          case measure => simp [intOf]; omega
      · have hb1 : decide (x.s ≤ pg) = false := decide_eq_false c1
        go_upto_region 11 with fail
        refine wp_region_lit ?_
        refine wpList_plain rfl (fun K hK => ?_)
        go_simp
        (try dsimp only); refine hK _ _ ?_; clear hK K; (try simp only [Act.put, List.setIfInBounds_toArray, List.set_cons_zero, List.set_cons_succ])
        refine wpList_plain rfl (fun K hK => ?_)
        have zc := b3.cell 0; go_simp; clear zc; (try simp only [hb1])
        (try dsimp only); refine hK _ _ ?_; clear hK K; (try simp only [Act.put, List.setIfInBounds_toArray, List.set_cons_zero, List.set_cons_succ])
        refine wpList_plain rfl (fun K hK => ?_)
        go_simp
        (try dsimp only); refine hK _ _ ?_; clear hK K; (try simp only [Act.put, List.setIfInBounds_toArray, List.set_cons_zero, List.set_cons_succ])
        refine wpList_plain rfl (fun K hK => ?_)
        go_simp; (try simp (disch := omega) only [IntWalk.i64_in, IntWalk.wrap64_in]); (try simp only [hb1])
        (try dsimp only); refine hK _ _ ?_; clear hK K; (try simp only [Act.put, List.setIfInBounds_toArray, List.set_cons_zero, List.set_cons_succ])
        refine wpList_plain rfl (fun K hK => ?_)
        go_simp
        (try dsimp only); refine hK _ _ ?_; clear hK K; (try simp only [Act.put, List.setIfInBounds_toArray, List.set_cons_zero, List.set_cons_succ])
        refine wpList_step (fun K hK => ?_)
        rw [if_neg (by exact Bool.false_ne_true)]
        (try dsimp only); refine hK _ _ ?_; clear hK K; (try simp only [Act.put, List.setIfInBounds_toArray, List.set_cons_zero, List.set_cons_succ])
        refine wpList_step (fun K hK => ?_)
        rw [if_neg (by exact Bool.false_ne_true)]
        (try dsimp only); refine hK _ _ ?_; clear hK K; (try simp only [Act.put, List.setIfInBounds_toArray, List.set_cons_zero, List.set_cons_succ])
        refine wpList_step (fun K hK => ?_)
        rw [if_neg (by exact Bool.false_ne_true)]
        (try dsimp only); refine hK _ _ ?_; clear hK K; (try simp only [Act.put, List.setIfInBounds_toArray, List.set_cons_zero, List.set_cons_succ])
        refine wpList_step (fun K hK => ?_)
        rw [if_neg (by exact Bool.false_ne_true)]
        (try dsimp only); refine hK _ _ ?_; clear hK K; (try simp only [Act.put, List.setIfInBounds_toArray, List.set_cons_zero, List.set_cons_succ])
        refine wpList_step (fun K hK => ?_)
        rw [if_neg (by exact Bool.false_ne_true)]
        (try dsimp only); refine hK _ _ ?_; clear hK K; (try simp only [Act.put, List.setIfInBounds_toArray, List.set_cons_zero, List.set_cons_succ])
        refine wpList_step (fun K hK => ?_)
        rw [if_neg (by exact Bool.false_ne_true)]
        (try dsimp only); refine hK _ _ ?_; clear hK K; (try simp only [Act.put, List.setIfInBounds_toArray, List.set_cons_zero, List.set_cons_succ])
        refine wpList_step (fun K hK => ?_)
        rw [if_neg (by exact Bool.false_ne_true)]
        (try dsimp only); refine hK _ _ ?_; clear hK K; (try simp only [Act.put, List.setIfInBounds_toArray, List.set_cons_zero, List.set_cons_succ])
        refine wpList_plain rfl (fun K hK => ?_)
        go_simp
        (try dsimp only); refine hK _ _ ?_; clear hK K; (try simp only [Act.put, List.setIfInBounds_toArray, List.set_cons_zero, List.set_cons_succ])
        refine wpList_nil ?_
        by_cases c3 : pg < x.s + x.p
        · cases mo with
          | true =>
            have hb3 : decide (pg < x.s + x.p) = true := decide_eq_true c3
            go_upto_region 13 with fail
            refine wp_region_lit ?_
            refine wpList_plain rfl (fun K hK => ?_)
            go_simp
            (try dsimp only); refine hK _ _ ?_; clear hK K; (try simp only [Act.put, List.setIfInBounds_toArray, List.set_cons_zero, List.set_cons_succ])
            refine wpList_plain rfl (fun K hK => ?_)
            have zc := b3.cell 0; go_simp; clear zc; (try simp only [hb3])
            (try dsimp only); refine hK _ _ ?_; clear hK K; (try simp only [Act.put, List.setIfInBounds_toArray, List.set_cons_zero, List.set_cons_succ])
            refine wpList_plain rfl (fun K hK => ?_)
            go_simp
            (try dsimp only); refine hK _ _ ?_; clear hK K; (try simp only [Act.put, List.setIfInBounds_toArray, List.set_cons_zero, List.set_cons_succ])
            refine wpList_plain rfl (fun K hK => ?_)
            have zc := b3.cell 1; go_simp; clear zc; (try simp only [hb3])
            (try dsimp only); refine hK _ _ ?_; clear hK K; (try simp only [Act.put, List.setIfInBounds_toArray, List.set_cons_zero, List.set_cons_succ])
            refine wpList_plain rfl (fun K hK => ?_)
            go_simp; (try simp (disch := omega) only [IntWalk.i64_in, IntWalk.wrap64_in]); (try simp only [hb3])
            (try dsimp only); refine hK _ _ ?_; clear hK K; (try simp only [Act.put, List.setIfInBounds_toArray, List.set_cons_zero, List.set_cons_succ])
            refine wpList_plain rfl (fun K hK => ?_)
            go_simp
            (try dsimp only); refine hK _ _ ?_; clear hK K; (try simp only [Act.put, List.setIfInBounds_toArray, List.set_cons_zero, List.set_cons_succ])
            refine wpList_plain rfl (fun K hK => ?_)
            go_simp; (try simp (disch := omega) only [IntWalk.i64_in, IntWalk.wrap64_in]); (try simp only [hb3])
            (try dsimp only); refine hK _ _ ?_; clear hK K; (try simp only [Act.put, List.setIfInBounds_toArray, List.set_cons_zero, List.set_cons_succ])
            refine wpList_plain rfl (fun K hK => ?_)
            go_simp
            (try dsimp only); refine hK _ _ ?_; clear hK K; (try simp only [Act.put, List.setIfInBounds_toArray, List.set_cons_zero, List.set_cons_succ])
            refine wpList_step (fun K hK => ?_)
            rw [if_pos (by rfl)]
            go_simp
            (try dsimp only); refine hK _ _ ?_; clear hK K; (try simp only [Act.put, List.setIfInBounds_toArray, List.set_cons_zero, List.set_cons_succ])
            refine wpList_step (fun K hK => ?_)
            rw [if_pos (by rfl)]
            go_simp; (try simp only [hb3])
            (try dsimp only); refine hK _ _ ?_; clear hK K; (try simp only [Act.put, List.setIfInBounds_toArray, List.set_cons_zero, List.set_cons_succ])
            refine wpList_plain rfl (fun K hK => ?_)
            go_simp
            (try dsimp only); refine hK _ _ ?_; clear hK K; (try simp only [Act.put, List.setIfInBounds_toArray, List.set_cons_zero, List.set_cons_succ])
            refine wpList_nil ?_
            go_upto_region 15 with fail
            refine wp_region_lit ?_
            refine wpList_plain rfl (fun K hK => ?_)
            go_simp; (try simp (disch := omega) only [IntWalk.i64_in, IntWalk.wrap64_in])
            (try dsimp only); refine hK _ _ ?_; clear hK K; (try simp only [Act.put, List.setIfInBounds_toArray, List.set_cons_zero, List.set_cons_succ])
            refine wpList_plain rfl (fun K hK => ?_)
            go_simp
            (try dsimp only); refine hK _ _ ?_; clear hK K; (try simp only [Act.put, List.setIfInBounds_toArray, List.set_cons_zero, List.set_cons_succ])
            refine wpList_nil ?_
            go_wp2_with fail
            go_roundw
            case rel => exact ⟨k + 1, fo, true, xi, xn, rfl, rfl, by go_num, by omega, b0, b1, b2, tv, hown, by rw [hf1.out]; unfold finS; rw [if_neg (fun h => c1 h.1)], by rw [hn1.out]; simp [nxtS], hm, hE⟩
            case measure => simp [intOf]; omega
          | false =>
            have hb3 : decide (pg < x.s + x.p) = true := decide_eq_true c3
            go_upto_region 13 with fail
            refine wp_region_lit ?_
            refine wpList_plain rfl (fun K hK => ?_)
            go_simp
            (try dsimp only); refine hK _ _ ?_; clear hK K; (try simp only [Act.put, List.setIfInBounds_toArray, List.set_cons_zero, List.set_cons_succ])
            refine wpList_plain rfl (fun K hK => ?_)
            have zc := b3.cell 0; go_simp; clear zc; (try simp only [hb3])
            (try dsimp only); refine hK _ _ ?_; clear hK K; (try simp only [Act.put, List.setIfInBounds_toArray, List.set_cons_zero, List.set_cons_succ])
            refine wpList_plain rfl (fun K hK => ?_)
            go_simp
            (try dsimp only); refine hK _ _ ?_; clear hK K; (try simp only [Act.put, List.setIfInBounds_toArray, List.set_cons_zero, List.set_cons_succ])
            refine wpList_plain rfl (fun K hK => ?_)
            have zc := b3.cell 1; go_simp; clear zc; (try simp only [hb3])
            (try dsimp only); refine hK _ _ ?_; clear hK K; (try simp only [Act.put, List.setIfInBounds_toArray, List.set_cons_zero, List.set_cons_succ])
            refine wpList_plain rfl (fun K hK => ?_)
            go_simp; (try simp (disch := omega) only [IntWalk.i64_in, IntWalk.wrap64_in]); (try simp only [hb3])
            (try dsimp only); refine hK _ _ ?_; clear hK K; (try simp only [Act.put, List.setIfInBounds_toArray, List.set_cons_zero, List.set_cons_succ])
            refine wpList_plain rfl (fun K hK => ?_)
            go_simp
            (try dsimp only); refine hK _ _ ?_; clear hK K; (try simp only [Act.put, List.setIfInBounds_toArray, List.set_cons_zero, List.set_cons_succ])
            refine wpList_plain rfl (fun K hK => ?_)
            go_simp; (try simp (disch := omega) only [IntWalk.i64_in, IntWalk.wrap64_in]); (try simp only [hb3])
            (try dsimp only); refine hK _ _ ?_; clear hK K; (try simp only [Act.put, List.setIfInBounds_toArray, List.set_cons_zero, List.set_cons_succ])
            refine wpList_plain rfl (fun K hK => ?_)
            go_simp
            (try dsimp only); refine hK _ _ ?_; clear hK K; (try simp only [Act.put, List.setIfInBounds_toArray, List.set_cons_zero, List.set_cons_succ])
            refine wpList_step (fun K hK => ?_)
            rw [if_pos (by rfl)]
            go_simp
            (try dsimp only); refine hK _ _ ?_; clear hK K; (try simp only [Act.put, List.setIfInBounds_toArray, List.set_cons_zero, List.set_cons_succ])
            refine wpList_step (fun K hK => ?_)
            rw [if_pos (by rfl)]
            go_simp; (try simp only [hb3])
            (try dsimp only); refine hK _ _ ?_; clear hK K; (try simp only [Act.put, List.setIfInBounds_toArray, List.set_cons_zero, List.set_cons_succ])
            refine wpList_plain rfl (fun K hK => ?_)
            go_simp
            (try dsimp only); refine hK _ _ ?_; clear hK K; (try simp only [Act.put, List.setIfInBounds_toArray, List.set_cons_zero, List.set_cons_succ])
            refine wpList_nil ?_
            go_upto_region 14 with fail
            refine wp_region_lit ?_
            refine wpList_plain rfl (fun K hK => ?_)
            (first | (refine wp_ld 25 _ (b3.range) (by rfl) (by rfl) Try.underlying25 rfl (by exact Try.infoR) ?_))
            (try dsimp only); refine hK _ _ ?_; clear hK K; (try simp only [Act.put, List.setIfInBounds_toArray, List.set_cons_zero, List.set_cons_succ])
            refine wpList_plain rfl (fun K hK => ?_)
            refine wp_store_box 25 _ _ (by rfl) b2 (by rfl) (by rfl) (by exact Try.infoR) (by first | exact RV.one _ | exact TV.one _ rfl | exact RV.one _ | exact TV.one _ (isT.one tv)) (by rfl) (fun W741 hg bn => ?_)
            replace b0 := b0.kept hg (by simp only [ne_eq, Option.some.injEq]; omega)
            replace b1 := b1.kept hg (by simp only [ne_eq, Option.some.injEq]; omega)
            replace b3 := b3.kept hg (by simp only [ne_eq, Option.some.injEq]; omega)
            replace hown := hown.kept hg (.inr (fun e => absurd (hgm _ e) (by omega)))
            replace tv := isT.kept hg (Lw.not (by omega)) tv
            replace hm := Nat.le_trans hm hg.size
            replace hrw := rangeAt.kept hrw hgw hg (by simp only [ne_eq, Option.some.injEq]; omega)
            replace hgw := Nat.lt_of_lt_of_le hgw hg.size
            replace hE := ext_grow hE hg (fun q hq => by cases hq; omega)
            clear b2 hg
            have b2 := bn
            clear bn
            (try dsimp only); refine hK _ _ ?_; clear hK K; (try simp only [Act.put, List.setIfInBounds_toArray, List.set_cons_zero, List.set_cons_succ])
            replace qz : r3 < W741.heap.size := b3.lt
            refine wpList_plain rfl (fun K hK => ?_)
            go_simp
            (try dsimp only); refine hK _ _ ?_; clear hK K; (try simp only [Act.put, List.setIfInBounds_toArray, List.set_cons_zero, List.set_cons_succ])
            refine wpList_nil ?_
            go_upto_region 15 with fail
            refine wp_region_lit ?_
            refine wpList_plain rfl (fun K hK => ?_)
            go_simp; (try simp (disch := omega) only [IntWalk.i64_in, IntWalk.wrap64_in])
            (try dsimp only); refine hK _ _ ?_; clear hK K; (try simp only [Act.put, List.setIfInBounds_toArray, List.set_cons_zero, List.set_cons_succ])
            refine wpList_plain rfl (fun K hK => ?_)
            go_simp
            (try dsimp only); refine hK _ _ ?_; clear hK K; (try simp only [Act.put, List.setIfInBounds_toArray, List.set_cons_zero, List.set_cons_succ])
            refine wpList_nil ?_
            go_wp2_with fail
            go_roundw
            case rel => exact ⟨k + 1, fo, true, xi, x, rfl, rfl, by go_num, by omega, b0, b1, b2, tv, hown, by rw [hf1.out]; unfold finS; rw [if_neg (fun h => c1 h.1)], by rw [hn1.out]; unfold nxtS; rw [if_pos ⟨c3, rfl⟩], hm, hE⟩
            case measure => simp [intOf]; omega
        · have hb3 : decide (pg < x.s + x.p) = false := decide_eq_false c3
          go_upto_region 13 with fail
          refine wp_region_lit ?_
          refine wpList_plain rfl (fun K hK => ?_)
          go_simp
          (try dsimp only); refine hK _ _ ?_; clear hK K; (try simp only [Act.put, List.setIfInBounds_toArray, List.set_cons_zero, List.set_cons_succ])
          refine wpList_plain rfl (fun K hK => ?_)
          have zc := b3.cell 0; go_simp; clear zc; (try simp only [hb3])
          (try dsimp only); refine hK _ _ ?_; clear hK K; (try simp only [Act.put, List.setIfInBounds_toArray, List.set_cons_zero, List.set_cons_succ])
          refine wpList_plain rfl (fun K hK => ?_)
          go_simp
          (try dsimp only); refine hK _ _ ?_; clear hK K; (try simp only [Act.put, List.setIfInBounds_toArray, List.set_cons_zero, List.set_cons_succ])
          refine wpList_plain rfl (fun K hK => ?_)
          have zc := b3.cell 1; go_simp; clear zc; (try simp only [hb3])
          (try dsimp only); refine hK _ _ ?_; clear hK K; (try simp only [Act.put, List.setIfInBounds_toArray, List.set_cons_zero, List.set_cons_succ])
          refine wpList_plain rfl (fun K hK => ?_)
          go_simp; (try simp (disch := omega) only [IntWalk.i64_in, IntWalk.wrap64_in]); (try simp only [hb3])
          (try dsimp only); refine hK _ _ ?_; clear hK K; (try simp only [Act.put, List.setIfInBounds_toArray, List.set_cons_zero, List.set_cons_succ])
          refine wpList_plain rfl (fun K hK => ?_)
          go_simp
          (try dsimp only); refine hK _ _ ?_; clear hK K; (try simp only [Act.put, List.setIfInBounds_toArray, List.set_cons_zero, List.set_cons_succ])
          refine wpList_plain rfl (fun K hK => ?_)
          go_simp; (try simp (disch := omega) only [IntWalk.i64_in, IntWalk.wrap64_in]); (try simp only [hb3])
          (try dsimp only); refine hK _ _ ?_; clear hK K; (try simp only [Act.put, List.setIfInBounds_toArray, List.set_cons_zero, List.set_cons_succ])
          refine wpList_plain rfl (fun K hK => ?_)
          go_simp
          (try dsimp only); refine hK _ _ ?_; clear hK K; (try simp only [Act.put, List.setIfInBounds_toArray, List.set_cons_zero, List.set_cons_succ])
          refine wpList_step (fun K hK => ?_)
          rw [if_neg (by exact Bool.false_ne_true)]
          (try dsimp only); refine hK _ _ ?_; clear hK K; (try simp only [Act.put, List.setIfInBounds_toArray, List.set_cons_zero, List.set_cons_succ])
          refine wpList_step (fun K hK => ?_)
          rw [if_neg (by exact Bool.false_ne_true)]
          (try dsimp only); refine hK _ _ ?_; clear hK K; (try simp only [Act.put, List.setIfInBounds_toArray, List.set_cons_zero, List.set_cons_succ])
          refine wpList_plain rfl (fun K hK => ?_)
          go_simp
          (try dsimp only); refine hK _ _ ?_; clear hK K; (try simp only [Act.put, List.setIfInBounds_toArray, List.set_cons_zero, List.set_cons_succ])
          refine wpList_nil ?_
          go_upto_region 15 with fail
          refine wp_region_lit ?_
          refine wpList_plain rfl (fun K hK => ?_)
          go_simp; (try simp (disch := omega) only [IntWalk.i64_in, IntWalk.wrap64_in])
          (try dsimp only); refine hK _ _ ?_; clear hK K; (try simp only [Act.put, List.setIfInBounds_toArray, List.set_cons_zero, List.set_cons_succ])
          refine wpList_plain rfl (fun K hK => ?_)
          go_simp
          (try dsimp only); refine hK _ _ ?_; clear hK K; (try simp only [Act.put, List.setIfInBounds_toArray, List.set_cons_zero, List.set_cons_succ])
          refine wpList_nil ?_
          go_wp2_with fail
          go_roundw
          case rel => exact ⟨k + 1, fo, mo, xi, xn, rfl, rfl, by go_num, by omega, b0, b1, b2, tv, hown, by rw [hf1.out]; unfold finS; rw [if_neg (fun h => c1 h.1)], by rw [hn1.out]; unfold nxtS; rw [if_neg (fun h => c3 h.1)], hm, hE⟩
          case measure => simp [intOf]; omega
    · have h1 := hfo.out
      have h2 := hmo.out
      rw [List.take_of_length_le (by omega), fin_P hp pg] at h1
      rw [List.take_of_length_le (by omega), nxt_P hp pg] at h2
      simp only [Prod.mk.injEq] at h1 h2
      obtain ⟨h3, h4⟩ := h1
      obtain ⟨h5, h6⟩ := h2
      subst h3 h4 h5 h6
      clear hfo hmo
      go_upto_region 16 with fail
      refine wp_region_lit ?_
      refine wpList_plain rfl (fun K hK => ?_)
      (first | (refine wp_ld 28 _ (b0.range) (by rfl) (by rfl) Try.underlying28 rfl (by exact Try.infoT) ?_))
      (try dsimp only); refine hK _ _ ?_; clear hK K; (try simp only [Act.put, List.setIfInBounds_toArray, List.set_cons_zero, List.set_cons_succ])
      refine wpList_plain rfl (fun K hK => ?_)
      go_simp
      (try dsimp only); refine hK _ _ ?_; clear hK K; (try simp only [Act.put, List.setIfInBounds_toArray, List.set_cons_zero, List.set_cons_succ])
      refine wpList_plain rfl (fun K hK => ?_)
      go_simp
      (go_at_call 26; refine (find_P p pg v _ hp tv).mono ?_; intro e W901 hpp; obtain ⟨rfl, hx⟩ := hpp)
      (try dsimp only); refine hK _ _ ?_; clear hK K; (try simp only [Act.put, List.setIfInBounds_toArray, List.set_cons_zero, List.set_cons_succ])
      replace b0 := b0.ext hx
      replace b1 := b1.ext hx
      replace b2 := b2.ext hx
      replace hown := hown.ext hx
      replace tv := isT.ext hx tv
      replace hm := Nat.le_trans hm hx.below.size
      replace hE := hE.trans hx
      clear hx
      replace qz : r2 < W901.heap.size := b2.lt
      refine wpList_plain rfl (fun K hK => ?_)
      go_simp
      (try dsimp only); refine hK _ _ ?_; clear hK K; (try simp only [Act.put, List.setIfInBounds_toArray, List.set_cons_zero, List.set_cons_succ])
      refine wpList_plain rfl (fun K hK => ?_)
      go_simp
      (try dsimp only); refine hK _ _ ?_; clear hK K; (try simp only [Act.put, List.setIfInBounds_toArray, List.set_cons_zero, List.set_cons_succ])
      refine wpList_plain rfl (fun K hK => ?_)
      go_simp
      (try dsimp only); refine hK _ _ ?_; clear hK K; (try simp only [Act.put, List.setIfInBounds_toArray, List.set_cons_zero, List.set_cons_succ])
      refine wpList_plain rfl (fun K hK => ?_)
      have qb : m ≤ W901.heap.size := hm
      go_simp
      (try dsimp only); refine hK _ _ ?_; clear hK K; (try simp only [Act.put, List.setIfInBounds_toArray, List.set_cons_zero, List.set_cons_succ])
      refine name_wl (fun W902 hW => ?_)
      have hx : Ext W901 W902 := by rw [hW]; exact ext_alloc _ _
      have b3 : Blk W902 W901.heap.size 25 RV.z.cs := by rw [hW]; exact Blk.newAt rfl
      clear hW
      replace b0 := b0.ext hx
      replace b1 := b1.ext hx
      replace b2 := b2.ext hx
      replace hown := hown.ext hx
      replace tv := isT.ext hx tv
      replace hm := Nat.le_trans hm hx.below.size
      replace hE := hE.trans hx
      clear hx
      obtain ⟨r3, hr⟩ : ∃ r, r = W901.heap.size := ⟨_, rfl⟩
      rw [← hr] at b3
      try rw [← hr]
      have q3 : r2 < r3 := by omega
      have qb3 : m ≤ r3 := by omega
      clear hr
      replace qz : r3 < W902.heap.size := b3.lt
      refine wpList_plain rfl (fun K hK => ?_)
      refine wp_store_box 25 _ _ (by rfl) b3 (by rfl) (by rfl) (by exact Try.infoR) (by first | exact RV.one _ | exact TV.one _ rfl | exact RV.one _ | exact TV.one _ (isT.one tv)) (by rfl) (fun W903 hg bn => ?_)
      replace b0 := b0.kept hg (by simp only [ne_eq, Option.some.injEq]; omega)
      replace b1 := b1.kept hg (by simp only [ne_eq, Option.some.injEq]; omega)
      replace b2 := b2.kept hg (by simp only [ne_eq, Option.some.injEq]; omega)
      replace hown := hown.kept hg (.inr (fun e => absurd (hgm _ e) (by omega)))
      replace tv := isT.kept hg (Lw.not (by omega)) tv
      replace hm := Nat.le_trans hm hg.size
      replace hE := ext_grow hE hg (fun q hq => by cases hq; omega)
      clear b3 hg
      have b3 := bn
      clear bn
      (try dsimp only); refine hK _ _ ?_; clear hK K; (try simp only [Act.put, List.setIfInBounds_toArray, List.set_cons_zero, List.set_cons_succ])
      replace qz : r3 < W903.heap.size := b3.lt
      refine wpList_plain rfl (fun K hK => ?_)
      go_simp
      (try dsimp only); refine hK _ _ ?_; clear hK K; (try simp only [Act.put, List.setIfInBounds_toArray, List.set_cons_zero, List.set_cons_succ])
      refine wpList_nil ?_
      go_upto_region 17 with fail
      refine wp_region_lit ?_
      refine wpList_plain rfl (fun K hK => ?_)
      (first | (refine wp_ld 28 _ (b0.range) (by rfl) (by rfl) Try.underlying28 rfl (by exact Try.infoT) ?_))
      (try dsimp only); refine hK _ _ ?_; clear hK K; (try simp only [Act.put, List.setIfInBounds_toArray, List.set_cons_zero, List.set_cons_succ])
      refine wpList_plain rfl (fun K hK => ?_)
      go_simp
      (try dsimp only); refine hK _ _ ?_; clear hK K; (try simp only [Act.put, List.setIfInBounds_toArray, List.set_cons_zero, List.set_cons_succ])
      refine wpList_plain rfl (fun K hK => ?_)
      go_simp
      (go_at_call 27; refine (next_P p pg v _ hp tv).mono ?_; intro e W904 hpp; obtain ⟨rfl, hx⟩ := hpp)
      (try dsimp only); refine hK _ _ ?_; clear hK K; (try simp only [Act.put, List.setIfInBounds_toArray, List.set_cons_zero, List.set_cons_succ])
      replace b0 := b0.ext hx
      replace b1 := b1.ext hx
      replace b2 := b2.ext hx
      replace b3 := b3.ext hx
      replace hown := hown.ext hx
      replace tv := isT.ext hx tv
      replace hm := Nat.le_trans hm hx.below.size
      replace hE := hE.trans hx
      clear hx
      replace qz : r3 < W904.heap.size := b3.lt
      refine wpList_plain rfl (fun K hK => ?_)
      go_simp
      (try dsimp only); refine hK _ _ ?_; clear hK K; (try simp only [Act.put, List.setIfInBounds_toArray, List.set_cons_zero, List.set_cons_succ])
      refine wpList_plain rfl (fun K hK => ?_)
      go_simp
      (try dsimp only); refine hK _ _ ?_; clear hK K; (try simp only [Act.put, List.setIfInBounds_toArray, List.set_cons_zero, List.set_cons_succ])
      refine wpList_plain rfl (fun K hK => ?_)
      go_simp
      (try dsimp only); refine hK _ _ ?_; clear hK K; (try simp only [Act.put, List.setIfInBounds_toArray, List.set_cons_zero, List.set_cons_succ])
      refine wpList_plain rfl (fun K hK => ?_)
      have qb : m ≤ W904.heap.size := hm
      go_simp
      (try dsimp only); refine hK _ _ ?_; clear hK K; (try simp only [Act.put, List.setIfInBounds_toArray, List.set_cons_zero, List.set_cons_succ])
      refine name_wl (fun W905 hW => ?_)
      have hx : Ext W904 W905 := by rw [hW]; exact ext_alloc _ _
      have b4 : Blk W905 W904.heap.size 25 RV.z.cs := by rw [hW]; exact Blk.newAt rfl
      clear hW
      replace b0 := b0.ext hx
      replace b1 := b1.ext hx
      replace b2 := b2.ext hx
      replace b3 := b3.ext hx
      replace hown := hown.ext hx
      replace tv := isT.ext hx tv
      replace hm := Nat.le_trans hm hx.below.size
      replace hE := hE.trans hx
      clear hx
      obtain ⟨r4, hr⟩ : ∃ r, r = W904.heap.size := ⟨_, rfl⟩
      rw [← hr] at b4
      try rw [← hr]
      have q4 : r3 < r4 := by omega
      have qb4 : m ≤ r4 := by omega
      clear hr
      replace qz : r4 < W905.heap.size := b4.lt
      refine wpList_plain rfl (fun K hK => ?_)
      refine wp_store_box 25 _ _ (by rfl) b4 (by rfl) (by rfl) (by exact Try.infoR) (by first | exact RV.one _ | exact TV.one _ rfl | exact RV.one _ | exact TV.one _ (isT.one tv)) (by rfl) (fun W906 hg bn => ?_)
      replace b0 := b0.kept hg (by simp only [ne_eq, Option.some.injEq]; omega)
      replace b1 := b1.kept hg (by simp only [ne_eq, Option.some.injEq]; omega)
      replace b2 := b2.kept hg (by simp only [ne_eq, Option.some.injEq]; omega)
      replace b3 := b3.kept hg (by simp only [ne_eq, Option.some.injEq]; omega)
      replace hown := hown.kept hg (.inr (fun e => absurd (hgm _ e) (by omega)))
      replace tv := isT.kept hg (Lw.not (by omega)) tv
      replace hm := Nat.le_trans hm hg.size
      replace hE := ext_grow hE hg (fun q hq => by cases hq; omega)
      clear b4 hg
      have b4 := bn
      clear bn
      (try dsimp only); refine hK _ _ ?_; clear hK K; (try simp only [Act.put, List.setIfInBounds_toArray, List.set_cons_zero, List.set_cons_succ])
      replace qz : r4 < W906.heap.size := b4.lt
      refine wpList_plain rfl (fun K hK => ?_)
      go_simp
      (try dsimp only); refine hK _ _ ?_; clear hK K; (try simp only [Act.put, List.setIfInBounds_toArray, List.set_cons_zero, List.set_cons_succ])
      refine wpList_nil ?_
      go_upto_region 18 with fail
      refine wp_region_lit ?_
      refine wpList_plain rfl (fun K hK => ?_)
      go_simp
      (try dsimp only); refine hK _ _ ?_; clear hK K; (try simp only [Act.put, List.setIfInBounds_toArray, List.set_cons_zero, List.set_cons_succ])
      refine wpList_plain rfl (fun K hK => ?_)
      go_simp
      (try dsimp only); refine hK _ _ ?_; clear hK K; (try simp only [Act.put, List.setIfInBounds_toArray, List.set_cons_zero, List.set_cons_succ])
      refine wpList_plain rfl (fun K hK => ?_)
      go_simp; (try simp (disch := omega) only [IntWalk.i64_in, IntWalk.wrap64_in]); (try simp only [beq_self_eq_true, eqR_self])
      (try dsimp only); refine hK _ _ ?_; clear hK K; (try simp only [Act.put, List.setIfInBounds_toArray, List.set_cons_zero, List.set_cons_succ])
      refine wpList_plain rfl (fun K hK => ?_)
      go_simp
      (try dsimp only); refine hK _ _ ?_; clear hK K; (try simp only [Act.put, List.setIfInBounds_toArray, List.set_cons_zero, List.set_cons_succ])
      refine wpList_step (fun K hK => ?_)
      rw [if_pos (by rfl)]
      go_simp
      (try dsimp only); refine hK _ _ ?_; clear hK K; (try simp only [Act.put, List.setIfInBounds_toArray, List.set_cons_zero, List.set_cons_succ])
      refine wpList_step (fun K hK => ?_)
      rw [if_pos (by rfl)]
      go_simp
      (try dsimp only); refine hK _ _ ?_; clear hK K; (try simp only [Act.put, List.setIfInBounds_toArray, List.set_cons_zero, List.set_cons_succ])
      refine wpList_step (fun K hK => ?_)
      rw [if_pos (by rfl)]
      go_simp; (try simp (disch := omega) only [IntWalk.i64_in, IntWalk.wrap64_in]); (try simp only [beq_self_eq_true, eqR_self])
      (try dsimp only); refine hK _ _ ?_; clear hK K; (try simp only [Act.put, List.setIfInBounds_toArray, List.set_cons_zero, List.set_cons_succ])
      refine wpList_plain rfl (fun K hK => ?_)
      go_simp
      (try dsimp only); refine hK _ _ ?_; clear hK K; (try simp only [Act.put, List.setIfInBounds_toArray, List.set_cons_zero, List.set_cons_succ])
      refine wpList_plain rfl (fun K hK => ?_)
      go_simp
      (try dsimp only); refine hK _ _ ?_; clear hK K; (try simp only [Act.put, List.setIfInBounds_toArray, List.set_cons_zero, List.set_cons_succ])
      refine wpList_step (fun K hK => ?_)
      rw [if_pos (by rfl)]
      (first | (refine wp_ld 25 _ (b3.range) (by rfl) (by rfl) Try.underlying25 rfl (by exact Try.infoR) ?_))
      (try dsimp only); refine hK _ _ ?_; clear hK K; (try simp only [Act.put, List.setIfInBounds_toArray, List.set_cons_zero, List.set_cons_succ])
      refine wpList_step (fun K hK => ?_)
      rw [if_pos (by rfl)]
      (first | (refine wp_ld 25 _ (b1.range) (by rfl) (by rfl) Try.underlying25 rfl (by exact Try.infoR) ?_))
      (try dsimp only); refine hK _ _ ?_; clear hK K; (try simp only [Act.put, List.setIfInBounds_toArray, List.set_cons_zero, List.set_cons_succ])
      refine wpList_step (fun K hK => ?_)
      rw [if_pos (by rfl)]
      refine wp_eqlR _ _ (by rfl) (by rfl) (by rfl) ?_
      (try simp only [beq_self_eq_true, eqR_self])
      (try dsimp only); refine hK _ _ ?_; clear hK K; (try simp only [Act.put, List.setIfInBounds_toArray, List.set_cons_zero, List.set_cons_succ])
      refine wpList_plain rfl (fun K hK => ?_)
      go_simp
      (try dsimp only); refine hK _ _ ?_; clear hK K; (try simp only [Act.put, List.setIfInBounds_toArray, List.set_cons_zero, List.set_cons_succ])
      refine wpList_plain rfl (fun K hK => ?_)
      go_simp
      (try dsimp only); refine hK _ _ ?_; clear hK K; (try simp only [Act.put, List.setIfInBounds_toArray, List.set_cons_zero, List.set_cons_succ])
      refine wpList_step (fun K hK => ?_)
      rw [if_pos (by rfl)]
      (first | (refine wp_ld 25 _ (b4.range) (by rfl) (by rfl) Try.underlying25 rfl (by exact Try.infoR) ?_))
      (try dsimp only); refine hK _ _ ?_; clear hK K; (try simp only [Act.put, List.setIfInBounds_toArray, List.set_cons_zero, List.set_cons_succ])
      refine wpList_step (fun K hK => ?_)
      rw [if_pos (by rfl)]
      (first | (refine wp_ld 25 _ (b2.range) (by rfl) (by rfl) Try.underlying25 rfl (by exact Try.infoR) ?_))
      (try dsimp only); refine hK _ _ ?_; clear hK K; (try simp only [Act.put, List.setIfInBounds_toArray, List.set_cons_zero, List.set_cons_succ])
      refine wpList_step (fun K hK => ?_)
      rw [if_pos (by rfl)]
      refine wp_eqlR _ _ (by rfl) (by rfl) (by rfl) ?_
      (try simp only [beq_self_eq_true, eqR_self])
      (try dsimp only); refine hK _ _ ?_; clear hK K; (try simp only [Act.put, List.setIfInBounds_toArray, List.set_cons_zero, List.set_cons_succ])
      refine wpList_plain rfl (fun K hK => ?_)
      go_simp
      (try dsimp only); refine hK _ _ ?_; clear hK K; (try simp only [Act.put, List.setIfInBounds_toArray, List.set_cons_zero, List.set_cons_succ])
      refine wpList_plain rfl (fun K hK => ?_)
      go_simp
      (try dsimp only); refine hK _ _ ?_; clear hK K; (try simp only [Act.put, List.setIfInBounds_toArray, List.set_cons_zero, List.set_cons_succ])
      refine wpList_nil ?_
      go_wp2_with fail
      go_ret
      exact ⟨rfl, hE⟩

theorem law_finds (l : List OV) (s : Value) (pg : Int) (w : World) (hs : isSl w s 7 l.length (oF l)) :
    Calls Try.prog 8 #[s, .int .i64 pg] w fun e w' => e = .returned (.bool true) ∧ Ext w w' := by
  by_cases hl : 40 < l.length
  · exact law_finds_big l s pg w hs hl
  · exact law_finds_ok l s pg w hs hl

end Go.Proofs.Ytnbohogkfdeddaa
