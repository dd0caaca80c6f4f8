/- Rangetree: the law RangetreeHeight. -/
import Derived.Test.YtnbohogkfdeddaaRul
set_option linter.unusedSimpArgs false
set_option linter.unusedVariables false
namespace Go.Proofs.Ytnbohogkfdeddaa
open Go.RowKit

/-- The size of the smallest AVL tree of a height. -/
def fibA : Nat → Nat
  | 0 => 0
  | 1 => 1
  | n + 2 => fibA (n + 1) + fibA n + 1
theorem fibA_step : ∀ n, fibA n ≤ fibA (n + 1)
  | 0 => by simp [fibA]
  | 1 => by simp [fibA]
  | n + 2 => by
    have := fibA_step n
    have := fibA_step (n + 1)
    simp only [fibA] at *
    omega
theorem fibA_mono {a b : Nat} (h : a ≤ b) : fibA a ≤ fibA b := by
  induction h with
  | refl => exact Nat.le_refl _
  | step h ih => exact Nat.le_trans ih (fibA_step _)
theorem avl_len : ∀ t : PT, t.bal → fibA t.ht.toNat ≤ t.flat.length
  | .E, _ => by simp [PT.ht, fibA]
  | .N l x r, h => by
    obtain ⟨hl, hr, h1, h2⟩ := h
    have il := avl_len l hl
    have ir := avl_len r hr
    have nl := PT.ht_nn l
    have nr := PT.ht_nn r
    simp only [PT.ht, PT.flat, List.length_append, List.length_cons]
    by_cases c : l.ht ≤ r.ht
    · by_cases c0 : r.ht = 0
      · rw [show (1 + max l.ht r.ht).toNat = 1 by omega]
        simp only [fibA]
        omega
      · obtain ⟨n, hn⟩ : ∃ n : Nat, r.ht = n + 1 := ⟨(r.ht - 1).toNat, by omega⟩
        rw [show (1 + max l.ht r.ht).toNat = n + 2 by omega]
        have e1 : fibA (n + 1) ≤ r.flat.length := by rwa [show r.ht.toNat = n + 1 by omega] at ir
        have e2 : fibA n ≤ l.flat.length := Nat.le_trans (fibA_mono (by omega)) il
        simp only [fibA]
        omega
    · obtain ⟨n, hn⟩ : ∃ n : Nat, l.ht = n + 1 := ⟨(l.ht - 1).toNat, by omega⟩
      rw [show (1 + max l.ht r.ht).toNat = n + 2 by omega]
      have e1 : fibA (n + 1) ≤ l.flat.length := by rwa [show l.ht.toNat = n + 1 by omega] at il
      have e2 : fibA n ≤ r.flat.length := Nat.le_trans (fibA_mono (by omega)) ir
      simp only [fibA]
      omega
theorem avl_ht {p : PT} (hp : good p) : p.ht ≤ 12 := by
  have h1 := avl_len p hp.b
  have h2 := good_len hp
  have h3 := PT.ht_nn p
  by_cases c : p.ht ≤ 12
  · exact c
  · have := fibA_mono (show 13 ≤ p.ht.toNat by omega)
    have e : fibA 13 = 609 := by decide
    omega
theorem ht_len0 (p : PT) : p.ht = 0 ↔ p.flat.length = 0 := by
  cases p with
  | E => simp [PT.ht, PT.flat]
  | N l x r =>
    have := PT.ht_pos l x r
    simp only [PT.flat, List.length_append, List.length_cons]
    constructor <;> intro h <;> omega

set_option maxRecDepth 100000 in
set_option maxHeartbeats 4000000 in
theorem law_height_big (l : List OV) (s : Value)  (w : World) (hs : isSl w s 7 l.length (oF l)) (hl : 60 < l.length) :
    Calls Try.prog 7 #[s] w fun e w' => e = .returned (.bool true) ∧ Ext w w' := by
  obtain ⟨ad, c, rfl⟩ := sl_shape hs
  have HS : Hid (isSl w (.slice ad l.length c) 7 l.length (oF l)) := hs
  clear hs
  have hb1 : decide ((60 : Int) < (l.length : Int)) = true := by simpa using (by omega : (60 : Int) < (l.length : Int))
  have hb2 : decide (60 < l.length) = true := by simpa using hl
  go_enter Try.func7, Try.ntmps7
  go_upto_region 1 with fail
  refine name_wX (fun W0 hW => ?_)
  have hE : Ext w W0 := by rw [hW]; exact Ext.refl w
  clear hW
  refine wp_region_lit ?_
  refine wpList_plain rfl (fun K hK => ?_)
  go_simp
  (go_at_call 11; refine (awake_ok _).mono ?_; intro e W1 hpp; obtain ⟨rfl, hx⟩ := hpp)
  (try dsimp only); refine hK _ _ ?_; clear hK K; (try simp only [Act.put, List.setIfInBounds_toArray, List.set_cons_zero, List.set_cons_succ])
  replace hE := hE.trans hx
  clear hx
  refine wpList_plain rfl (fun K hK => ?_)
  go_simp; (try simp only [hb1, hb2])
  (try dsimp only); refine hK _ _ ?_; clear hK K; (try simp only [Act.put, List.setIfInBounds_toArray, List.set_cons_zero, List.set_cons_succ])
  refine wpList_plain rfl (fun K hK => ?_)
  go_simp
  (try dsimp only); refine hK _ _ ?_; clear hK K; (try simp only [Act.put, List.setIfInBounds_toArray, List.set_cons_zero, List.set_cons_succ])
  refine wpList_step (fun K hK => ?_)
  rw [if_pos (by rfl)]
  go_simp
  (try dsimp only); refine hK _ _ ?_; clear hK K; (try simp only [Act.put, List.setIfInBounds_toArray, List.set_cons_zero, List.set_cons_succ])
  refine wpList_step (fun K hK => ?_)
  rw [if_pos (by rfl)]
  go_simp
  (try dsimp only); refine hK _ _ ?_; clear hK K; (try simp only [Act.put, List.setIfInBounds_toArray, List.set_cons_zero, List.set_cons_succ])
  refine wpList_step (fun K hK => ?_)
  rw [if_pos (by rfl)]
  go_simp; (try simp (disch := omega) only [IntWalk.i64_in, IntWalk.wrap64_in]); (try simp only [hb1, hb2])
  (try dsimp only); refine hK _ _ ?_; clear hK K; (try simp only [Act.put, List.setIfInBounds_toArray, List.set_cons_zero, List.set_cons_succ])
  refine wpList_plain rfl (fun K hK => ?_)
  go_simp
  (try dsimp only); refine hK _ _ ?_; clear hK K; (try simp only [Act.put, List.setIfInBounds_toArray, List.set_cons_zero, List.set_cons_succ])
  refine wpList_nil ?_
  go_upto_region 2 with fail
  refine wp_region_lit ?_
  refine wpList_plain rfl (fun K hK => ?_)
  go_simp
  (go_at_call 11; refine (awake_ok _).mono ?_; intro e W2 hpp; obtain ⟨rfl, hx⟩ := hpp)
  (try dsimp only); refine hK _ _ ?_; clear hK K; (try simp only [Act.put, List.setIfInBounds_toArray, List.set_cons_zero, List.set_cons_succ])
  replace hE := hE.trans hx
  clear hx
  refine wpList_plain rfl (fun K hK => ?_)
  go_simp
  (try dsimp only); refine hK _ _ ?_; clear hK K; (try simp only [Act.put, List.setIfInBounds_toArray, List.set_cons_zero, List.set_cons_succ])
  refine wpList_nil ?_
  go_wp2_with fail
  go_ret
  exact ⟨rfl, hE⟩

set_option maxRecDepth 100000 in
set_option maxHeartbeats 4000000 in
theorem law_height_ok (l : List OV) (s : Value)  (w : World) (hs : isSl w s 7 l.length (oF l)) (hl : ¬ 60 < l.length) :
    Calls Try.prog 7 #[s] w fun e w' => e = .returned (.bool true) ∧ Ext w w' := by
  obtain ⟨ad, c, rfl⟩ := sl_shape hs
  have HS : Hid (isSl w (.slice ad l.length c) 7 l.length (oF l)) := hs
  clear hs
  have hb1 : decide ((60 : Int) < (l.length : Int)) = false := by simpa using (by omega : ¬ (60 : Int) < (l.length : Int))
  have hb2 : decide (60 < l.length) = false := by simpa using hl
  go_enter Try.func7, Try.ntmps7
  go_upto_region 1 with fail
  refine name_wX (fun W0 hW => ?_)
  have hE : Ext w W0 := by rw [hW]; exact Ext.refl w
  clear hW
  refine wp_region_lit ?_
  refine wpList_plain rfl (fun K hK => ?_)
  go_simp
  (go_at_call 11; refine (awake_ok _).mono ?_; intro e W1 hpp; obtain ⟨rfl, hx⟩ := hpp)
  (try dsimp only); refine hK _ _ ?_; clear hK K; (try simp only [Act.put, List.setIfInBounds_toArray, List.set_cons_zero, List.set_cons_succ])
  replace hE := hE.trans hx
  clear hx
  refine wpList_plain rfl (fun K hK => ?_)
  go_simp; (try simp only [hb1, hb2])
  (try dsimp only); refine hK _ _ ?_; clear hK K; (try simp only [Act.put, List.setIfInBounds_toArray, List.set_cons_zero, List.set_cons_succ])
  refine wpList_plain rfl (fun K hK => ?_)
  go_simp
  (try dsimp only); refine hK _ _ ?_; clear hK K; (try simp only [Act.put, List.setIfInBounds_toArray, List.set_cons_zero, List.set_cons_succ])
  refine wpList_step (fun K hK => ?_)
  rw [if_pos (by rfl)]
  go_simp
  (try dsimp only); refine hK _ _ ?_; clear hK K; (try simp only [Act.put, List.setIfInBounds_toArray, List.set_cons_zero, List.set_cons_succ])
  refine wpList_step (fun K hK => ?_)
  rw [if_pos (by rfl)]
  go_simp
  (try dsimp only); refine hK _ _ ?_; clear hK K; (try simp only [Act.put, List.setIfInBounds_toArray, List.set_cons_zero, List.set_cons_succ])
  refine wpList_step (fun K hK => ?_)
  rw [if_pos (by rfl)]
  go_simp; (try simp (disch := omega) only [IntWalk.i64_in, IntWalk.wrap64_in]); (try simp only [hb1, hb2])
  (try dsimp only); refine hK _ _ ?_; clear hK K; (try simp only [Act.put, List.setIfInBounds_toArray, List.set_cons_zero, List.set_cons_succ])
  refine wpList_plain rfl (fun K hK => ?_)
  go_simp
  (try dsimp only); refine hK _ _ ?_; clear hK K; (try simp only [Act.put, List.setIfInBounds_toArray, List.set_cons_zero, List.set_cons_succ])
  refine wpList_nil ?_
  go_upto_region 3 with fail
  refine wp_region_lit ?_
  refine wpList_plain rfl (fun K hK => ?_)
  go_simp
  (try dsimp only); refine hK _ _ ?_; clear hK K; (try simp only [Act.put, List.setIfInBounds_toArray, List.set_cons_zero, List.set_cons_succ])
  refine wpList_plain rfl (fun K hK => ?_)
  go_simp
  (go_at_call 21; refine (played_any l _ _ (HS.out.ext hE) (by omega)).mono ?_; intro e W2 hpp; obtain ⟨p, v, u, hp, rfl, tv, hown, hx⟩ := hpp)
  (try dsimp only); refine hK _ _ ?_; clear hK K; (try simp only [Act.put, List.setIfInBounds_toArray, List.set_cons_zero, List.set_cons_succ])
  replace hE := hE.trans hx
  clear hx
  replace tv := isT.lw tv
  obtain ⟨m, hm0⟩ : ∃ m, m = W2.heap.size := ⟨_, rfl⟩
  have hwm : w.heap.size ≤ m := by rw [hm0]; exact hE.below.size
  rw [← hm0] at tv
  have hm : m ≤ W2.heap.size := by omega
  clear hm0
  obtain ⟨ua, uc, rfl⟩ := hown.shape
  have hlen := good_len hp
  refine wpList_plain rfl (fun K hK => ?_)
  go_simp
  (try dsimp only); refine hK _ _ ?_; clear hK K; (try simp only [Act.put, List.setIfInBounds_toArray, List.set_cons_zero, List.set_cons_succ])
  refine wpList_plain rfl (fun K hK => ?_)
  go_simp
  (try dsimp only); refine hK _ _ ?_; clear hK K; (try simp only [Act.put, List.setIfInBounds_toArray, List.set_cons_zero, List.set_cons_succ])
  refine wpList_plain rfl (fun K hK => ?_)
  go_simp
  (try dsimp only); refine hK _ _ ?_; clear hK K; (try simp only [Act.put, List.setIfInBounds_toArray, List.set_cons_zero, List.set_cons_succ])
  refine wpList_plain rfl (fun K hK => ?_)
  go_simp
  (try dsimp only); refine hK _ _ ?_; clear hK K; (try simp only [Act.put, List.setIfInBounds_toArray, List.set_cons_zero, List.set_cons_succ])
  refine wpList_plain rfl (fun K hK => ?_)
  have qb : m ≤ W2.heap.size := hm
  go_simp
  (try dsimp only); refine hK _ _ ?_; clear hK K; (try simp only [Act.put, List.setIfInBounds_toArray, List.set_cons_zero, List.set_cons_succ])
  refine name_wl (fun W3 hW => ?_)
  have hx : Ext W2 W3 := by rw [hW]; exact ext_alloc _ _
  have b0 : Blk W3 W2.heap.size 28 TV.z.cs := by rw [hW]; exact Blk.newAt rfl
  clear hW
  replace hown := hown.ext hx
  replace tv := isT.ext hx tv
  replace hm := Nat.le_trans hm hx.below.size
  replace hE := hE.trans hx
  clear hx
  obtain ⟨r0, hr⟩ : ∃ r, r = W2.heap.size := ⟨_, rfl⟩
  rw [← hr] at b0
  try rw [← hr]
  have qb0 : m ≤ r0 := by omega
  clear hr
  have qz : r0 < W3.heap.size := b0.lt
  refine wpList_plain rfl (fun K hK => ?_)
  refine wp_store_box 28 _ _ (by rfl) b0 (by rfl) (by rfl) (by exact Try.infoT) (by first | exact RV.one _ | exact TV.one _ rfl | exact RV.one _ | exact TV.one _ (isT.one tv)) (by rfl) (fun W4 hg bn => ?_)
  replace hown := hown.kept hg (.inr (hown.ne b0 (by decide)))
  replace tv := isT.kept hg (Lw.not (by omega)) tv
  replace hm := Nat.le_trans hm hg.size
  replace hE := ext_grow hE hg (fun q hq => by cases hq; omega)
  clear b0 hg
  have b0 := bn
  clear bn
  (try dsimp only); refine hK _ _ ?_; clear hK K; (try simp only [Act.put, List.setIfInBounds_toArray, List.set_cons_zero, List.set_cons_succ])
  replace qz : r0 < W4.heap.size := b0.lt
  refine wpList_plain rfl (fun K hK => ?_)
  go_simp
  (try dsimp only); refine hK _ _ ?_; clear hK K; (try simp only [Act.put, List.setIfInBounds_toArray, List.set_cons_zero, List.set_cons_succ])
  refine wpList_plain rfl (fun K hK => ?_)
  go_simp
  (try dsimp only); refine hK _ _ ?_; clear hK K; (try simp only [Act.put, List.setIfInBounds_toArray, List.set_cons_zero, List.set_cons_succ])
  refine wpList_nil ?_
  have hn := isP_num tv
  have h12 := avl_ht hp
  have h00 := PT.ht_nn p
  have hal := avl_len p hp.b
  have hl0 := ht_len0 p
  obtain ⟨H, hH⟩ : ∃ H : Nat, p.ht = H := ⟨p.ht.toNat, by omega⟩
  have hvH : v.h = H := by rw [hn.1, hH]
  rw [hH] at hal h12 hl0
  rw [Int.toNat_natCast] at hal
  have hB1 : decide (v.h < 0) = false := by rw [hvH]; simp
  have hB2 : decide (12 < v.h) = false := by rw [hvH]; simp; omega
  have hH12 : H ≤ 12 := by omega
  replace hl0 : Hid _ := hl0
  replace hal : Hid _ := hal
  have hvh : Hid (v.h = H) := hvH
  clear hn h12 h00 hvH hH
  go_upto_region 4 with fail
  refine wp_region_lit ?_
  refine wpList_plain rfl (fun K hK => ?_)
  go_simp
  (try dsimp only); refine hK _ _ ?_; clear hK K; (try simp only [Act.put, List.setIfInBounds_toArray, List.set_cons_zero, List.set_cons_succ])
  refine wpList_plain rfl (fun K hK => ?_)
  go_simp; (try simp only [hB1, hB2])
  (try dsimp only); refine hK _ _ ?_; clear hK K; (try simp only [Act.put, List.setIfInBounds_toArray, List.set_cons_zero, List.set_cons_succ])
  refine wpList_plain rfl (fun K hK => ?_)
  go_simp
  (try dsimp only); refine hK _ _ ?_; clear hK K; (try simp only [Act.put, List.setIfInBounds_toArray, List.set_cons_zero, List.set_cons_succ])
  refine wpList_step (fun K hK => ?_)
  rw [if_pos (by rfl)]
  go_simp
  (try dsimp only); refine hK _ _ ?_; clear hK K; (try simp only [Act.put, List.setIfInBounds_toArray, List.set_cons_zero, List.set_cons_succ])
  refine wpList_step (fun K hK => ?_)
  rw [if_pos (by rfl)]
  have zc := b0.cell 0; go_simp; clear zc; (try simp only [hB1, hB2])
  (try dsimp only); refine hK _ _ ?_; clear hK K; (try simp only [Act.put, List.setIfInBounds_toArray, List.set_cons_zero, List.set_cons_succ])
  refine wpList_step (fun K hK => ?_)
  rw [if_pos (by rfl)]
  go_simp; (try simp (disch := omega) only [IntWalk.i64_in, IntWalk.wrap64_in]); (try simp only [hB1, hB2])
  (try dsimp only); refine hK _ _ ?_; clear hK K; (try simp only [Act.put, List.setIfInBounds_toArray, List.set_cons_zero, List.set_cons_succ])
  refine wpList_plain rfl (fun K hK => ?_)
  go_simp
  (try dsimp only); refine hK _ _ ?_; clear hK K; (try simp only [Act.put, List.setIfInBounds_toArray, List.set_cons_zero, List.set_cons_succ])
  refine wpList_plain rfl (fun K hK => ?_)
  go_simp
  (try dsimp only); refine hK _ _ ?_; clear hK K; (try simp only [Act.put, List.setIfInBounds_toArray, List.set_cons_zero, List.set_cons_succ])
  refine wpList_step (fun K hK => ?_)
  rw [if_pos (by rfl)]
  go_simp
  (try dsimp only); refine hK _ _ ?_; clear hK K; (try simp only [Act.put, List.setIfInBounds_toArray, List.set_cons_zero, List.set_cons_succ])
  refine wpList_step (fun K hK => ?_)
  rw [if_pos (by rfl)]
  have zc := b0.cell 0; go_simp; clear zc; (try simp only [hB1, hB2])
  (try dsimp only); refine hK _ _ ?_; clear hK K; (try simp only [Act.put, List.setIfInBounds_toArray, List.set_cons_zero, List.set_cons_succ])
  refine wpList_step (fun K hK => ?_)
  rw [if_pos (by rfl)]
  go_simp; (try simp (disch := omega) only [IntWalk.i64_in, IntWalk.wrap64_in]); (try simp only [hB1, hB2])
  (try dsimp only); refine hK _ _ ?_; clear hK K; (try simp only [Act.put, List.setIfInBounds_toArray, List.set_cons_zero, List.set_cons_succ])
  refine wpList_plain rfl (fun K hK => ?_)
  go_simp
  (try dsimp only); refine hK _ _ ?_; clear hK K; (try simp only [Act.put, List.setIfInBounds_toArray, List.set_cons_zero, List.set_cons_succ])
  refine wpList_nil ?_
  go_upto_region 6 with fail
  go_upto_region 8 with fail
  go_loopw [6, 7, 8] (fun v6 v7 v8 wr => ∃ (k : Nat) (a b i : Int), v6 = .int .i64 a ∧ v7 = .int .i64 b ∧ v8 = .int .i64 i ∧ a = fibA k ∧ b = fibA (k - 1) ∧ i = k + 1 ∧ k ≤ H ∧ Ext W4 wr) (fun _ _ v8 _ => H + 2 - (intOf v8).toNat)
  case atStart => exact ⟨0, 0, 0, 1, rfl, rfl, rfl, rfl, rfl, rfl, by omega, Ext.refl _⟩
  case round =>
    obtain ⟨k, a, b, i, rfl, rfl, rfl, ha, hb, hi, hk, hX⟩ := hrel
    obtain ⟨Wj, rfl⟩ : ∃ W, W = wr := ⟨_, rfl⟩
    have hx := hX
    replace b0 := b0.ext hx
    replace hown := hown.ext hx
    replace tv := isT.ext hx tv
    replace hm := Nat.le_trans hm hx.below.size
    replace hE := hE.trans hx
    clear hx
    replace qz : r0 < Wj.heap.size := b0.lt
    have hf := fibA_mono (show k ≤ 12 by omega)
    have hf2 := fibA_mono (show k - 1 ≤ 12 by omega)
    have e12 : fibA 12 = 376 := by decide
    rw [e12] at hf hf2
    have ha1 : 0 ≤ a ∧ a ≤ 376 := by omega
    have hb1 : 0 ≤ b ∧ b ≤ 376 := by omega
    have hi1 : 1 ≤ i ∧ i ≤ 13 := by omega
    obtain ⟨ha1, ha2⟩ := ha1
    obtain ⟨hb1, hb2⟩ := hb1
    obtain ⟨hi1, hi2⟩ := hi1
    clear hf hf2 e12
    replace ha : Hid _ := ha
    replace hb : Hid _ := hb
    replace hi : Hid _ := hi
    by_cases hlt : k + 1 ≤ H
    · have hc1 : decide (i ≤ v.h) = true := by rw [hvh.out, hi.out]; simp; omega
      go_upto_region 8 with fail
      refine wp_region_lit ?_
      refine wpList_plain rfl (fun K hK => ?_)
      go_simp
      (try dsimp only); refine hK _ _ ?_; clear hK K; (try simp only [Act.put, List.setIfInBounds_toArray, List.set_cons_zero, List.set_cons_succ])
      refine wpList_plain rfl (fun K hK => ?_)
      go_simp
      (try dsimp only); refine hK _ _ ?_; clear hK K; (try simp only [Act.put, List.setIfInBounds_toArray, List.set_cons_zero, List.set_cons_succ])
      refine wpList_plain rfl (fun K hK => ?_)
      have zc := b0.cell 0; go_simp; clear zc; (try simp only [hc1])
      (try dsimp only); refine hK _ _ ?_; clear hK K; (try simp only [Act.put, List.setIfInBounds_toArray, List.set_cons_zero, List.set_cons_succ])
      refine wpList_plain rfl (fun K hK => ?_)
      go_simp; (try simp (disch := omega) only [IntWalk.i64_in, IntWalk.wrap64_in]); (try simp only [hc1])
      (try dsimp only); refine hK _ _ ?_; clear hK K; (try simp only [Act.put, List.setIfInBounds_toArray, List.set_cons_zero, List.set_cons_succ])
      refine wpList_nil ?_
      go_upto_region 10 with fail
      by_cases hk0 : k = 0
      · have hc2 : (i == 1) = true := by rw [hi.out, hk0]; rfl
        refine wp_region_lit ?_
        refine wpList_plain rfl (fun K hK => ?_)
        go_simp
        (try dsimp only); refine hK _ _ ?_; clear hK K; (try simp only [Act.put, List.setIfInBounds_toArray, List.set_cons_zero, List.set_cons_succ])
        refine wpList_plain rfl (fun K hK => ?_)
        go_simp; (try simp (disch := omega) only [IntWalk.i64_in, IntWalk.wrap64_in]); (try simp only [hc2])
        (try dsimp only); refine hK _ _ ?_; clear hK K; (try simp only [Act.put, List.setIfInBounds_toArray, List.set_cons_zero, List.set_cons_succ])
        refine wpList_nil ?_
        go_upto_region 11 with fail
        refine wp_region_lit ?_
        refine wpList_plain rfl (fun K hK => ?_)
        go_simp
        (try dsimp only); refine hK _ _ ?_; clear hK K; (try simp only [Act.put, List.setIfInBounds_toArray, List.set_cons_zero, List.set_cons_succ])
        refine wpList_nil ?_
        go_upto_region 9 with fail
        refine wp_region_lit ?_
        refine wpList_plain rfl (fun K hK => ?_)
        go_simp
        (try dsimp only); refine hK _ _ ?_; clear hK K; (try simp only [Act.put, List.setIfInBounds_toArray, List.set_cons_zero, List.set_cons_succ])
        refine wpList_plain rfl (fun K hK => ?_)
        go_simp; (try simp (disch := omega) only [IntWalk.i64_in, IntWalk.wrap64_in])
        (try dsimp only); refine hK _ _ ?_; clear hK K; (try simp only [Act.put, List.setIfInBounds_toArray, List.set_cons_zero, List.set_cons_succ])
        refine wpList_plain rfl (fun K hK => ?_)
        go_simp
        (try dsimp only); refine hK _ _ ?_; clear hK K; (try simp only [Act.put, List.setIfInBounds_toArray, List.set_cons_zero, List.set_cons_succ])
        refine wpList_nil ?_
        go_wp2_with fail
        go_roundw
        case rel => exact ⟨k + 1, _, _, _, rfl, rfl, rfl, by rw [hk0]; rfl, by rw [hb.out, hk0], by have := hi.out; omega, hlt, hX⟩
        case measure => have := hi.out; simp [intOf]; omega
      · have hc2 : (i == 1) = false := by have := hi.out; simp; omega
        refine wp_region_lit ?_
        refine wpList_plain rfl (fun K hK => ?_)
        go_simp
        (try dsimp only); refine hK _ _ ?_; clear hK K; (try simp only [Act.put, List.setIfInBounds_toArray, List.set_cons_zero, List.set_cons_succ])
        refine wpList_plain rfl (fun K hK => ?_)
        go_simp; (try simp (disch := omega) only [IntWalk.i64_in, IntWalk.wrap64_in]); (try simp only [hc2])
        (try dsimp only); refine hK _ _ ?_; clear hK K; (try simp only [Act.put, List.setIfInBounds_toArray, List.set_cons_zero, List.set_cons_succ])
        refine wpList_nil ?_
        go_upto_region 12 with fail
        refine wp_region_lit ?_
        refine wpList_plain rfl (fun K hK => ?_)
        go_simp
        (try dsimp only); refine hK _ _ ?_; clear hK K; (try simp only [Act.put, List.setIfInBounds_toArray, List.set_cons_zero, List.set_cons_succ])
        refine wpList_plain rfl (fun K hK => ?_)
        go_simp
        (try dsimp only); refine hK _ _ ?_; clear hK K; (try simp only [Act.put, List.setIfInBounds_toArray, List.set_cons_zero, List.set_cons_succ])
        refine wpList_plain rfl (fun K hK => ?_)
        go_simp; (try simp (disch := omega) only [IntWalk.i64_in, IntWalk.wrap64_in])
        (try dsimp only); refine hK _ _ ?_; clear hK K; (try simp only [Act.put, List.setIfInBounds_toArray, List.set_cons_zero, List.set_cons_succ])
        refine wpList_plain rfl (fun K hK => ?_)
        go_simp; (try simp (disch := omega) only [IntWalk.i64_in, IntWalk.wrap64_in])
        (try dsimp only); refine hK _ _ ?_; clear hK K; (try simp only [Act.put, List.setIfInBounds_toArray, List.set_cons_zero, List.set_cons_succ])
        refine wpList_plain rfl (fun K hK => ?_)
        go_simp
        (try dsimp only); refine hK _ _ ?_; clear hK K; (try simp only [Act.put, List.setIfInBounds_toArray, List.set_cons_zero, List.set_cons_succ])
        refine wpList_plain rfl (fun K hK => ?_)
        go_simp
        (try dsimp only); refine hK _ _ ?_; clear hK K; (try simp only [Act.put, List.setIfInBounds_toArray, List.set_cons_zero, List.set_cons_succ])
        refine wpList_plain rfl (fun K hK => ?_)
        go_simp
        (try dsimp only); refine hK _ _ ?_; clear hK K; (try simp only [Act.put, List.setIfInBounds_toArray, List.set_cons_zero, List.set_cons_succ])
        refine wpList_nil ?_
        go_upto_region 9 with fail
        refine wp_region_lit ?_
        refine wpList_plain rfl (fun K hK => ?_)
        go_simp
        (try dsimp only); refine hK _ _ ?_; clear hK K; (try simp only [Act.put, List.setIfInBounds_toArray, List.set_cons_zero, List.set_cons_succ])
        refine wpList_plain rfl (fun K hK => ?_)
        go_simp; (try simp (disch := omega) only [IntWalk.i64_in, IntWalk.wrap64_in])
        (try dsimp only); refine hK _ _ ?_; clear hK K; (try simp only [Act.put, List.setIfInBounds_toArray, List.set_cons_zero, List.set_cons_succ])
        refine wpList_plain rfl (fun K hK => ?_)
        go_simp
        (try dsimp only); refine hK _ _ ?_; clear hK K; (try simp only [Act.put, List.setIfInBounds_toArray, List.set_cons_zero, List.set_cons_succ])
        refine wpList_nil ?_
        go_wp2_with fail
        go_roundw
        case rel =>
          refine ⟨k + 1, _, _, _, rfl, rfl, rfl, ?_, ?_, by have := hi.out; omega, hlt, hX⟩
          · obtain ⟨n, rfl⟩ : ∃ n, k = n + 1 := ⟨k - 1, by omega⟩
            have e1 := ha.out
            have e2 := hb.out
            simp only [fibA, Nat.add_sub_cancel] at *
            omega
          · rw [ha.out]; rfl
        case measure => have := hi.out; simp [intOf]; omega
    · have hc1 : decide (i ≤ v.h) = false := by rw [hvh.out, hi.out]; simp; omega
      have hkH : k = H := by omega
      have hc3 : decide (a ≤ (p.flat.length : Int)) = true := by have h1 := ha.out; have h2 := hal.out; rw [hkH] at h1; simp; omega
      have hc4 : ((v.h == 0) == ((p.flat.length : Int) == 0)) = true := by
        have h1 := hl0.out
        have h2 : ((H : Int) == 0) = ((p.flat.length : Int) == 0) := by
          rw [Bool.eq_iff_iff]
          simp only [beq_iff_eq]
          rw [h1]
          omega
        rw [hvh.out, h2]
        simp
      have hc5 : ((v.h == 0) == (p.flat.length == 0)) = true := by
        rw [← hc4]
        have h2 : ((p.flat.length : Int) == 0) = (p.flat.length == 0) := by
          rw [Bool.eq_iff_iff]
          simp only [beq_iff_eq]
          omega
        rw [h2]
      go_upto_region 8 with fail
      refine wp_region_lit ?_
      refine wpList_plain rfl (fun K hK => ?_)
      go_simp
      (try dsimp only); refine hK _ _ ?_; clear hK K; (try simp only [Act.put, List.setIfInBounds_toArray, List.set_cons_zero, List.set_cons_succ])
      refine wpList_plain rfl (fun K hK => ?_)
      go_simp
      (try dsimp only); refine hK _ _ ?_; clear hK K; (try simp only [Act.put, List.setIfInBounds_toArray, List.set_cons_zero, List.set_cons_succ])
      refine wpList_plain rfl (fun K hK => ?_)
      have zc := b0.cell 0; go_simp; clear zc; (try simp only [hc1])
      (try dsimp only); refine hK _ _ ?_; clear hK K; (try simp only [Act.put, List.setIfInBounds_toArray, List.set_cons_zero, List.set_cons_succ])
      refine wpList_plain rfl (fun K hK => ?_)
      go_simp; (try simp (disch := omega) only [IntWalk.i64_in, IntWalk.wrap64_in]); (try simp only [hc1])
      (try dsimp only); refine hK _ _ ?_; clear hK K; (try simp only [Act.put, List.setIfInBounds_toArray, List.set_cons_zero, List.set_cons_succ])
      refine wpList_nil ?_
      go_upto_region 13 with fail
      refine wp_region_lit ?_
      refine wpList_plain rfl (fun K hK => ?_)
      go_simp
      (try dsimp only); refine hK _ _ ?_; clear hK K; (try simp only [Act.put, List.setIfInBounds_toArray, List.set_cons_zero, List.set_cons_succ])
      refine wpList_plain rfl (fun K hK => ?_)
      go_simp
      (try dsimp only); refine hK _ _ ?_; clear hK K; (try simp only [Act.put, List.setIfInBounds_toArray, List.set_cons_zero, List.set_cons_succ])
      refine wpList_plain rfl (fun K hK => ?_)
      go_simp
      (try dsimp only); refine hK _ _ ?_; clear hK K; (try simp only [Act.put, List.setIfInBounds_toArray, List.set_cons_zero, List.set_cons_succ])
      refine wpList_plain rfl (fun K hK => ?_)
      go_simp; (try simp (disch := omega) only [IntWalk.i64_in, IntWalk.wrap64_in]); (try simp only [hc3, hc4, hc5])
      (try dsimp only); refine hK _ _ ?_; clear hK K; (try simp only [Act.put, List.setIfInBounds_toArray, List.set_cons_zero, List.set_cons_succ])
      refine wpList_plain rfl (fun K hK => ?_)
      go_simp
      (try dsimp only); refine hK _ _ ?_; clear hK K; (try simp only [Act.put, List.setIfInBounds_toArray, List.set_cons_zero, List.set_cons_succ])
      refine wpList_step (fun K hK => ?_)
      rw [if_pos (by rfl)]
      go_simp
      (try dsimp only); refine hK _ _ ?_; clear hK K; (try simp only [Act.put, List.setIfInBounds_toArray, List.set_cons_zero, List.set_cons_succ])
      refine wpList_step (fun K hK => ?_)
      rw [if_pos (by rfl)]
      have zc := b0.cell 0; go_simp; clear zc; (try simp only [hc3, hc4, hc5])
      (try dsimp only); refine hK _ _ ?_; clear hK K; (try simp only [Act.put, List.setIfInBounds_toArray, List.set_cons_zero, List.set_cons_succ])
      refine wpList_step (fun K hK => ?_)
      rw [if_pos (by rfl)]
      go_simp; (try simp (disch := omega) only [IntWalk.i64_in, IntWalk.wrap64_in]); (try simp only [hc3, hc4, hc5])
      (try dsimp only); refine hK _ _ ?_; clear hK K; (try simp only [Act.put, List.setIfInBounds_toArray, List.set_cons_zero, List.set_cons_succ])
      refine wpList_step (fun K hK => ?_)
      rw [if_pos (by rfl)]
      go_simp
      (try dsimp only); refine hK _ _ ?_; clear hK K; (try simp only [Act.put, List.setIfInBounds_toArray, List.set_cons_zero, List.set_cons_succ])
      refine wpList_step (fun K hK => ?_)
      rw [if_pos (by rfl)]
      go_simp
      (try dsimp only); refine hK _ _ ?_; clear hK K; (try simp only [Act.put, List.setIfInBounds_toArray, List.set_cons_zero, List.set_cons_succ])
      refine wpList_step (fun K hK => ?_)
      rw [if_pos (by rfl)]
      go_simp; (try simp (disch := omega) only [IntWalk.i64_in, IntWalk.wrap64_in]); (try simp only [hc3, hc4, hc5])
      (try dsimp only); refine hK _ _ ?_; clear hK K; (try simp only [Act.put, List.setIfInBounds_toArray, List.set_cons_zero, List.set_cons_succ])
      refine wpList_step (fun K hK => ?_)
      rw [if_pos (by rfl)]
      go_simp; (try simp (disch := omega) only [IntWalk.i64_in, IntWalk.wrap64_in]); (try simp only [hc3, hc4, hc5])
      (try dsimp only); refine hK _ _ ?_; clear hK K; (try simp only [Act.put, List.setIfInBounds_toArray, List.set_cons_zero, List.set_cons_succ])
      refine wpList_plain rfl (fun K hK => ?_)
      go_simp
      (try dsimp only); refine hK _ _ ?_; clear hK K; (try simp only [Act.put, List.setIfInBounds_toArray, List.set_cons_zero, List.set_cons_succ])
      refine wpList_plain rfl (fun K hK => ?_)
      go_simp
      (try dsimp only); refine hK _ _ ?_; clear hK K; (try simp only [Act.put, List.setIfInBounds_toArray, List.set_cons_zero, List.set_cons_succ])
      refine wpList_nil ?_
      go_wp2_with fail
      go_ret
      exact ⟨rfl, hE⟩

theorem law_height (l : List OV) (s : Value)  (w : World) (hs : isSl w s 7 l.length (oF l)) :
    Calls Try.prog 7 #[s] w fun e w' => e = .returned (.bool true) ∧ Ext w w' := by
  by_cases hl : 60 < l.length
  · exact law_height_big l s w hs hl
  · exact law_height_ok l s w hs hl

end Go.Proofs.Ytnbohogkfdeddaa
