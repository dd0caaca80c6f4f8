/- Rangetree: the law RangetreeBack. -/
import Derived.Test.YtnbohogkfdeddaaRun
set_option linter.unusedSimpArgs false
set_option linter.unusedVariables false
namespace Go.Proofs.Ytnbohogkfdeddaa
open Go.RowKit

theorem remL_insL : ∀ (l : List RV) (r : RV), ord l → vld r → (∀ x ∈ l, ¬ meets x r) → remL (insL l r) r.s = l
  | [], r, _, _, _ => by simp [insL, remL]
  | y :: l, r, ho, hv, hm => by
    obtain ⟨hy, hl, hy2⟩ := ord_cons ho
    have ne : ∀ x ∈ y :: l, x.s ≠ r.s := fun x hx he => by
      obtain ⟨_, v2, _, _⟩ := ho.v x hx
      obtain ⟨_, w2, _, _⟩ := hv
      refine hm x hx ⟨?_, ?_⟩ <;> unfold RV.e <;> omega
    simp only [insL]
    split
    · rw [remL_cons, if_pos rfl]
      exact remL_none ne
    · rw [remL_cons, if_neg (ne y (by simp)), remL_insL l r hl hv (fun x hx => hm x (by simp [hx]))]
theorem list_n {A : Nat → Prop} (p : PT) (v : TV) (w : World) (n : Nat) (hn : p.flat.length = n) (hp : good p) (ht : isT A w p.bt v) :
    Calls Try.prog 17 #[.agg v.cs.toArray] w fun e w' => ∃ ad c, e = .returned (.slice ad n c) ∧ Ext w w' := by
  subst hn
  refine (list_P p v w hp ht).mono ?_
  rintro e w' ⟨u, he, ho, hE⟩
  obtain ⟨ad, c, rfl⟩ := ho.shape
  exact ⟨ad, c, he, hE⟩
/-- What an insertion and a deletion behind it come to. -/
theorem back_cases {p : PT} (hp : good p) (r : RV) : (∃ e, InsF p r = (.E, e) ∧ (e != 0) = true) ∨
    (InsF p r = (insP p r, 0) ∧ good (insP p r) ∧ (insP p r).flat.length = p.flat.length + 1 ∧ DelF (insP p r) r.s = (remP (insP p r) r.s, 0) ∧ good (remP (insP p r) r.s) ∧ (remP (insP p r) r.s).flat = p.flat) := by
  cases hv : vldB r with
  | false => exact .inl ⟨2, ins_invP hv, rfl⟩
  | true =>
    have hv' := (vldB_iff r).1 hv
    by_cases hm : ∃ x ∈ p.flat, meets x r
    · exact .inl ⟨7, ins_hitP hp hv' hm, rfl⟩
    · have hm' : ∀ x ∈ p.flat, ¬ meets x r := fun x hx h => hm ⟨x, hx, h⟩
      obtain ⟨h1, h2⟩ := ins_okP hp hv' hm'
      right
      have hfl : (insP p r).flat = insL p.flat r := ins_flat p r hp.o
      have hmem : r ∈ (insP p r).flat := by rw [hfl]; exact (insL_mem _ _ _).2 (.inl rfl)
      obtain ⟨j, hj, hjr⟩ := List.getElem_of_mem hmem
      obtain ⟨h3, h4, h5⟩ := del_hitP (s := r.s) h2 hj (by rw [hjr])
      refine ⟨h1, h2, by rw [hfl, insL_len], h3, h4, ?_⟩
      rw [rem_flat _ _ h2.o, hfl]
      exact remL_insL p.flat r hp.o hv' hm'

set_option maxRecDepth 100000 in
set_option maxHeartbeats 4000000 in
theorem law_back_big (l : List OV) (s : Value) (r : RV) (w : World) (hs : isSl w s 7 l.length (oF l)) (hl : 40 < l.length) :
    Calls Try.prog 10 #[s, .agg r.cs.toArray] w fun e w' => e = .returned (.bool true) ∧ Ext w w' := by
  obtain ⟨ad, c, rfl⟩ := sl_shape hs
  have HS : Hid (isSl w (.slice ad l.length c) 7 l.length (oF l)) := hs
  clear hs
  have hb1 : decide ((40 : Int) < (l.length : Int)) = true := by simpa using (by omega : (40 : Int) < (l.length : Int))
  have hb2 : decide (40 < l.length) = true := by simpa using hl
  go_enter Try.func10, Try.ntmps10
  go_upto_region 1 with fail
  refine name_wX (fun W1 hW => ?_)
  have hE : Ext w W1 := by rw [hW]; (exact Ext.of_below (by (repeat' (first | (with_reducible exact Below.refl _ _) | (with_reducible assumption) | (with_reducible refine Below.alloc ?_ ?_ _) | (with_reducible refine Below.wext ?_ ?_ _ _) | (with_reducible refine Below.drew ?_) | (with_reducible refine Below.setCell ?_ ?_ _) | (with_reducible exact Nat.le_refl _) | (with_reducible refine Below.drewN' ?_ _) | (simp; omega) | (simp; done)))))
  have b0 : Blk W1 (w.heap.size) 25 r.cs := by rw [hW]; exact Blk.newAt rfl
  clear hW
  obtain ⟨r0, hr0⟩ : ∃ r, r = w.heap.size := ⟨_, rfl⟩
  rw [← hr0] at b0
  try rw [← hr0]
  have q0 : w.heap.size ≤ r0 := by omega
  clear hr0
  have qz : r0 < W1.heap.size := b0.lt
  refine wp_region_lit ?_
  refine wpList_plain rfl (fun K hK => ?_)
  go_simp
  (go_at_call 11; refine (awake_ok _).mono ?_; intro e W2 hpp; obtain ⟨rfl, hx⟩ := hpp)
  (try dsimp only); refine hK _ _ ?_; clear hK K; (try simp only [Act.put, List.setIfInBounds_toArray, List.set_cons_zero, List.set_cons_succ])
  replace b0 := b0.ext hx
  replace hE := hE.trans hx
  clear hx
  replace qz : r0 < W2.heap.size := b0.lt
  refine wpList_plain rfl (fun K hK => ?_)
  go_simp; (try simp only [hb1, hb2])
  (try dsimp only); refine hK _ _ ?_; clear hK K; (try simp only [Act.put, List.setIfInBounds_toArray, List.set_cons_zero, List.set_cons_succ])
  refine wpList_plain rfl (fun K hK => ?_)
  go_simp
  (try dsimp only); refine hK _ _ ?_; clear hK K; (try simp only [Act.put, List.setIfInBounds_toArray, List.set_cons_zero, List.set_cons_succ])
  refine wpList_step (fun K hK => ?_)
  rw [if_pos (by rfl)]
  go_simp
  (try dsimp only); refine hK _ _ ?_; clear hK K; (try simp only [Act.put, List.setIfInBounds_toArray, List.set_cons_zero, List.set_cons_succ])
  refine wpList_step (fun K hK => ?_)
  rw [if_pos (by rfl)]
  go_simp
  (try dsimp only); refine hK _ _ ?_; clear hK K; (try simp only [Act.put, List.setIfInBounds_toArray, List.set_cons_zero, List.set_cons_succ])
  refine wpList_step (fun K hK => ?_)
  rw [if_pos (by rfl)]
  go_simp; (try simp (disch := omega) only [IntWalk.i64_in, IntWalk.wrap64_in]); (try simp only [hb1, hb2])
  (try dsimp only); refine hK _ _ ?_; clear hK K; (try simp only [Act.put, List.setIfInBounds_toArray, List.set_cons_zero, List.set_cons_succ])
  refine wpList_plain rfl (fun K hK => ?_)
  go_simp
  (try dsimp only); refine hK _ _ ?_; clear hK K; (try simp only [Act.put, List.setIfInBounds_toArray, List.set_cons_zero, List.set_cons_succ])
  refine wpList_nil ?_
  go_upto_region 2 with fail
  refine wp_region_lit ?_
  refine wpList_plain rfl (fun K hK => ?_)
  go_simp
  (go_at_call 11; refine (awake_ok _).mono ?_; intro e W3 hpp; obtain ⟨rfl, hx⟩ := hpp)
  (try dsimp only); refine hK _ _ ?_; clear hK K; (try simp only [Act.put, List.setIfInBounds_toArray, List.set_cons_zero, List.set_cons_succ])
  replace b0 := b0.ext hx
  replace hE := hE.trans hx
  clear hx
  replace qz : r0 < W3.heap.size := b0.lt
  refine wpList_plain rfl (fun K hK => ?_)
  go_simp
  (try dsimp only); refine hK _ _ ?_; clear hK K; (try simp only [Act.put, List.setIfInBounds_toArray, List.set_cons_zero, List.set_cons_succ])
  refine wpList_nil ?_
  go_wp2_with fail
  go_ret
  exact ⟨rfl, hE⟩

set_option maxRecDepth 100000 in
set_option maxHeartbeats 4000000 in
theorem law_back_ok (l : List OV) (s : Value) (r : RV) (w : World) (hs : isSl w s 7 l.length (oF l)) (hl : ¬ 40 < l.length) :
    Calls Try.prog 10 #[s, .agg r.cs.toArray] w fun e w' => e = .returned (.bool true) ∧ Ext w w' := by
  obtain ⟨ad, c, rfl⟩ := sl_shape hs
  have HS : Hid (isSl w (.slice ad l.length c) 7 l.length (oF l)) := hs
  clear hs
  have hb1 : decide ((40 : Int) < (l.length : Int)) = false := by simpa using (by omega : ¬ (40 : Int) < (l.length : Int))
  have hb2 : decide (40 < l.length) = false := by simpa using hl
  go_enter Try.func10, Try.ntmps10
  go_upto_region 1 with fail
  refine name_wX (fun W1 hW => ?_)
  have hE : Ext w W1 := by rw [hW]; (exact Ext.of_below (by (repeat' (first | (with_reducible exact Below.refl _ _) | (with_reducible assumption) | (with_reducible refine Below.alloc ?_ ?_ _) | (with_reducible refine Below.wext ?_ ?_ _ _) | (with_reducible refine Below.drew ?_) | (with_reducible refine Below.setCell ?_ ?_ _) | (with_reducible exact Nat.le_refl _) | (with_reducible refine Below.drewN' ?_ _) | (simp; omega) | (simp; done)))))
  have b0 : Blk W1 (w.heap.size) 25 r.cs := by rw [hW]; exact Blk.newAt rfl
  clear hW
  obtain ⟨r0, hr0⟩ : ∃ r, r = w.heap.size := ⟨_, rfl⟩
  rw [← hr0] at b0
  try rw [← hr0]
  have q0 : w.heap.size ≤ r0 := by omega
  clear hr0
  have qz : r0 < W1.heap.size := b0.lt
  refine wp_region_lit ?_
  refine wpList_plain rfl (fun K hK => ?_)
  go_simp
  (go_at_call 11; refine (awake_ok _).mono ?_; intro e W2 hpp; obtain ⟨rfl, hx⟩ := hpp)
  (try dsimp only); refine hK _ _ ?_; clear hK K; (try simp only [Act.put, List.setIfInBounds_toArray, List.set_cons_zero, List.set_cons_succ])
  replace b0 := b0.ext hx
  replace hE := hE.trans hx
  clear hx
  replace qz : r0 < W2.heap.size := b0.lt
  refine wpList_plain rfl (fun K hK => ?_)
  go_simp; (try simp only [hb1, hb2])
  (try dsimp only); refine hK _ _ ?_; clear hK K; (try simp only [Act.put, List.setIfInBounds_toArray, List.set_cons_zero, List.set_cons_succ])
  refine wpList_plain rfl (fun K hK => ?_)
  go_simp
  (try dsimp only); refine hK _ _ ?_; clear hK K; (try simp only [Act.put, List.setIfInBounds_toArray, List.set_cons_zero, List.set_cons_succ])
  refine wpList_step (fun K hK => ?_)
  rw [if_pos (by rfl)]
  go_simp
  (try dsimp only); refine hK _ _ ?_; clear hK K; (try simp only [Act.put, List.setIfInBounds_toArray, List.set_cons_zero, List.set_cons_succ])
  refine wpList_step (fun K hK => ?_)
  rw [if_pos (by rfl)]
  go_simp
  (try dsimp only); refine hK _ _ ?_; clear hK K; (try simp only [Act.put, List.setIfInBounds_toArray, List.set_cons_zero, List.set_cons_succ])
  refine wpList_step (fun K hK => ?_)
  rw [if_pos (by rfl)]
  go_simp; (try simp (disch := omega) only [IntWalk.i64_in, IntWalk.wrap64_in]); (try simp only [hb1, hb2])
  (try dsimp only); refine hK _ _ ?_; clear hK K; (try simp only [Act.put, List.setIfInBounds_toArray, List.set_cons_zero, List.set_cons_succ])
  refine wpList_plain rfl (fun K hK => ?_)
  go_simp
  (try dsimp only); refine hK _ _ ?_; clear hK K; (try simp only [Act.put, List.setIfInBounds_toArray, List.set_cons_zero, List.set_cons_succ])
  refine wpList_nil ?_
  go_upto_region 3 with fail
  refine wp_region_lit ?_
  refine wpList_plain rfl (fun K hK => ?_)
  go_simp
  (try dsimp only); refine hK _ _ ?_; clear hK K; (try simp only [Act.put, List.setIfInBounds_toArray, List.set_cons_zero, List.set_cons_succ])
  refine wpList_plain rfl (fun K hK => ?_)
  go_simp
  (go_at_call 21; refine (played_any l _ _ (HS.out.ext hE) (by omega)).mono ?_; intro e W3 hpp; obtain ⟨p, v, u, hp, rfl, tv, hown, hx⟩ := hpp)
  (try dsimp only); refine hK _ _ ?_; clear hK K; (try simp only [Act.put, List.setIfInBounds_toArray, List.set_cons_zero, List.set_cons_succ])
  replace b0 := b0.ext hx
  replace hE := hE.trans hx
  clear hx
  replace qz : r0 < W3.heap.size := b0.lt
  replace tv := isT.lw tv
  obtain ⟨m, hm0⟩ : ∃ m, m = W3.heap.size := ⟨_, rfl⟩
  have hwm : w.heap.size ≤ m := by rw [hm0]; exact hE.below.size
  rw [← hm0] at tv
  have hm : m ≤ W3.heap.size := by omega
  have hrm : r0 < m := by omega
  clear hm0
  obtain ⟨ua, uc, rfl⟩ := hown.shape
  have hlen := good_len hp
  refine wpList_plain rfl (fun K hK => ?_)
  go_simp
  (try dsimp only); refine hK _ _ ?_; clear hK K; (try simp only [Act.put, List.setIfInBounds_toArray, List.set_cons_zero, List.set_cons_succ])
  refine wpList_plain rfl (fun K hK => ?_)
  go_simp
  (try dsimp only); refine hK _ _ ?_; clear hK K; (try simp only [Act.put, List.setIfInBounds_toArray, List.set_cons_zero, List.set_cons_succ])
  refine wpList_plain rfl (fun K hK => ?_)
  go_simp
  (try dsimp only); refine hK _ _ ?_; clear hK K; (try simp only [Act.put, List.setIfInBounds_toArray, List.set_cons_zero, List.set_cons_succ])
  refine wpList_plain rfl (fun K hK => ?_)
  go_simp
  (try dsimp only); refine hK _ _ ?_; clear hK K; (try simp only [Act.put, List.setIfInBounds_toArray, List.set_cons_zero, List.set_cons_succ])
  refine wpList_plain rfl (fun K hK => ?_)
  have qb : m ≤ W3.heap.size := hm
  go_simp
  (try dsimp only); refine hK _ _ ?_; clear hK K; (try simp only [Act.put, List.setIfInBounds_toArray, List.set_cons_zero, List.set_cons_succ])
  refine name_wl (fun W4 hW => ?_)
  have hx : Ext W3 W4 := by rw [hW]; exact ext_alloc _ _
  have b1 : Blk W4 W3.heap.size 28 TV.z.cs := by rw [hW]; exact Blk.newAt rfl
  clear hW
  replace b0 := b0.ext hx
  replace hown := hown.ext hx
  replace tv := isT.ext hx tv
  replace hm := Nat.le_trans hm hx.below.size
  replace hE := hE.trans hx
  clear hx
  obtain ⟨r1, hr⟩ : ∃ r, r = W3.heap.size := ⟨_, rfl⟩
  rw [← hr] at b1
  try rw [← hr]
  have q1 : r0 < r1 := by omega
  have qb1 : m ≤ r1 := by omega
  clear hr
  replace qz : r1 < W4.heap.size := b1.lt
  refine wpList_plain rfl (fun K hK => ?_)
  refine wp_store_box 28 _ _ (by rfl) b1 (by rfl) (by rfl) (by exact Try.infoT) (by first | exact RV.one _ | exact TV.one _ rfl | exact RV.one _ | exact TV.one _ (isT.one tv)) (by rfl) (fun W5 hg bn => ?_)
  replace b0 := b0.kept hg (by simp only [ne_eq, Option.some.injEq]; omega)
  replace hown := hown.kept hg (.inr (hown.ne b1 (by decide)))
  replace tv := isT.kept hg (Lw.not (by omega)) tv
  replace hm := Nat.le_trans hm hg.size
  replace hE := ext_grow hE hg (fun q hq => by cases hq; omega)
  clear b1 hg
  have b1 := bn
  clear bn
  (try dsimp only); refine hK _ _ ?_; clear hK K; (try simp only [Act.put, List.setIfInBounds_toArray, List.set_cons_zero, List.set_cons_succ])
  replace qz : r1 < W5.heap.size := b1.lt
  refine wpList_plain rfl (fun K hK => ?_)
  go_simp
  (try dsimp only); refine hK _ _ ?_; clear hK K; (try simp only [Act.put, List.setIfInBounds_toArray, List.set_cons_zero, List.set_cons_succ])
  refine wpList_plain rfl (fun K hK => ?_)
  go_simp
  (try dsimp only); refine hK _ _ ?_; clear hK K; (try simp only [Act.put, List.setIfInBounds_toArray, List.set_cons_zero, List.set_cons_succ])
  refine wpList_nil ?_
  go_upto_region 4 with fail
  refine wp_region_lit ?_
  refine wpList_plain rfl (fun K hK => ?_)
  go_simp
  (try dsimp only); refine hK _ _ ?_; clear hK K; (try simp only [Act.put, List.setIfInBounds_toArray, List.set_cons_zero, List.set_cons_succ])
  refine wpList_plain rfl (fun K hK => ?_)
  go_simp
  (try dsimp only); refine hK _ _ ?_; clear hK K; (try simp only [Act.put, List.setIfInBounds_toArray, List.set_cons_zero, List.set_cons_succ])
  refine wpList_nil ?_
  go_upto_region 6 with fail
  rcases back_cases hp r with ⟨e0, hF, heb⟩ | ⟨hF, hg2, hln, hF3, hg3, hfl3⟩
  · refine wp_region_lit ?_
    refine wpList_plain rfl (fun K hK => ?_)
    (first | (refine wp_ld 28 _ (b1.range) (by rfl) (by rfl) Try.underlying28 rfl (by exact Try.infoT) ?_))
    (try dsimp only); refine hK _ _ ?_; clear hK K; (try simp only [Act.put, List.setIfInBounds_toArray, List.set_cons_zero, List.set_cons_succ])
    refine wpList_plain rfl (fun K hK => ?_)
    (first | (refine wp_ld 25 _ (b0.range) (by rfl) (by rfl) Try.underlying25 rfl (by exact Try.infoR) ?_))
    (try dsimp only); refine hK _ _ ?_; clear hK K; (try simp only [Act.put, List.setIfInBounds_toArray, List.set_cons_zero, List.set_cons_succ])
    refine wpList_plain rfl (fun K hK => ?_)
    go_simp
    (go_at_call 15; refine (insert_is p r v _ _ _ hF (A := fun _ => True) (fun _ _ => trivial) hp (isT.low tv)).mono ?_; intro e W301 hpp; obtain ⟨v2, rfl, t2, hx⟩ := hpp)
    (try dsimp only); refine hK _ _ ?_; clear hK K; (try simp only [Act.put, List.setIfInBounds_toArray, List.set_cons_zero, List.set_cons_succ])
    replace b0 := b0.ext hx
    replace b1 := b1.ext hx
    replace hown := hown.ext hx
    replace tv := isT.ext hx tv
    replace hm := Nat.le_trans hm hx.below.size
    replace hE := hE.trans hx
    clear hx
    replace qz : r1 < W301.heap.size := b1.lt
    replace t2 := isT.lw t2
    obtain ⟨m2, hm0⟩ : ∃ m, m = W301.heap.size := ⟨_, rfl⟩
    have hwm2 : w.heap.size ≤ m2 := by rw [hm0]; exact hE.below.size
    rw [← hm0] at t2
    have hm2 : m2 ≤ W301.heap.size := by omega
    have hrm2 : r1 < m2 := by omega
    clear hm0
    refine wpList_plain rfl (fun K hK => ?_)
    go_simp
    (try dsimp only); refine hK _ _ ?_; clear hK K; (try simp only [Act.put, List.setIfInBounds_toArray, List.set_cons_zero, List.set_cons_succ])
    refine wpList_plain rfl (fun K hK => ?_)
    go_simp
    (try dsimp only); refine hK _ _ ?_; clear hK K; (try simp only [Act.put, List.setIfInBounds_toArray, List.set_cons_zero, List.set_cons_succ])
    refine wpList_plain rfl (fun K hK => ?_)
    go_simp
    (try dsimp only); refine hK _ _ ?_; clear hK K; (try simp only [Act.put, List.setIfInBounds_toArray, List.set_cons_zero, List.set_cons_succ])
    refine wpList_plain rfl (fun K hK => ?_)
    have qb : m2 ≤ W301.heap.size := hm2
    go_simp
    (try dsimp only); refine hK _ _ ?_; clear hK K; (try simp only [Act.put, List.setIfInBounds_toArray, List.set_cons_zero, List.set_cons_succ])
    refine name_wl (fun W302 hW => ?_)
    have hx : Ext W301 W302 := by rw [hW]; exact ext_alloc _ _
    have b2 : Blk W302 W301.heap.size 28 TV.z.cs := by rw [hW]; exact Blk.newAt rfl
    clear hW
    replace b0 := b0.ext hx
    replace b1 := b1.ext hx
    replace hown := hown.ext hx
    replace tv := isT.ext hx tv
    replace hm := Nat.le_trans hm hx.below.size
    replace t2 := isT.ext hx t2
    replace hm2 := Nat.le_trans hm2 hx.below.size
    replace hE := hE.trans hx
    clear hx
    obtain ⟨r2, hr⟩ : ∃ r, r = W301.heap.size := ⟨_, rfl⟩
    rw [← hr] at b2
    try rw [← hr]
    have q2 : r1 < r2 := by omega
    have qb2 : m2 ≤ r2 := by omega
    clear hr
    replace qz : r2 < W302.heap.size := b2.lt
    refine wpList_plain rfl (fun K hK => ?_)
    refine wp_store_box 28 _ _ (by rfl) b2 (by rfl) (by rfl) (by exact Try.infoT) (by first | exact RV.one _ | exact TV.one _ rfl | exact RV.one _ | exact TV.one _ (isT.one tv) | exact TV.one _ (isT.one t2)) (by rfl) (fun W303 hg bn => ?_)
    replace b0 := b0.kept hg (by simp only [ne_eq, Option.some.injEq]; omega)
    replace b1 := b1.kept hg (by simp only [ne_eq, Option.some.injEq]; omega)
    replace hown := hown.kept hg (.inr (hown.ne b2 (by decide)))
    replace tv := isT.kept hg (Lw.not (by omega)) tv
    replace hm := Nat.le_trans hm hg.size
    replace t2 := isT.kept hg (Lw.not (by omega)) t2
    replace hm2 := Nat.le_trans hm2 hg.size
    replace hE := ext_grow hE hg (fun q hq => by cases hq; omega)
    clear b2 hg
    have b2 := bn
    clear bn
    (try dsimp only); refine hK _ _ ?_; clear hK K; (try simp only [Act.put, List.setIfInBounds_toArray, List.set_cons_zero, List.set_cons_succ])
    replace qz : r2 < W303.heap.size := b2.lt
    refine wpList_plain rfl (fun K hK => ?_)
    go_simp
    (try dsimp only); refine hK _ _ ?_; clear hK K; (try simp only [Act.put, List.setIfInBounds_toArray, List.set_cons_zero, List.set_cons_succ])
    refine wpList_nil ?_
    go_upto_region 7 with fail
    refine wp_region_lit ?_
    refine wpList_plain rfl (fun K hK => ?_)
    go_simp
    (try dsimp only); refine hK _ _ ?_; clear hK K; (try simp only [Act.put, List.setIfInBounds_toArray, List.set_cons_zero, List.set_cons_succ])
    refine wpList_plain rfl (fun K hK => ?_)
    go_simp; (try simp (disch := omega) only [IntWalk.i64_in, IntWalk.wrap64_in]); (try simp only [heb])
    (try dsimp only); refine hK _ _ ?_; clear hK K; (try simp only [Act.put, List.setIfInBounds_toArray, List.set_cons_zero, List.set_cons_succ])
    refine wpList_nil ?_
    go_upto_region 8 with fail
    refine wp_region_lit ?_
    refine wpList_plain rfl (fun K hK => ?_)
    go_simp
    (try dsimp only); refine hK _ _ ?_; clear hK K; (try simp only [Act.put, List.setIfInBounds_toArray, List.set_cons_zero, List.set_cons_succ])
    refine wpList_nil ?_
    go_wp2_with fail
    go_ret
    exact ⟨rfl, hE⟩
  · refine wp_region_lit ?_
    refine wpList_plain rfl (fun K hK => ?_)
    (first | (refine wp_ld 28 _ (b1.range) (by rfl) (by rfl) Try.underlying28 rfl (by exact Try.infoT) ?_))
    (try dsimp only); refine hK _ _ ?_; clear hK K; (try simp only [Act.put, List.setIfInBounds_toArray, List.set_cons_zero, List.set_cons_succ])
    refine wpList_plain rfl (fun K hK => ?_)
    (first | (refine wp_ld 25 _ (b0.range) (by rfl) (by rfl) Try.underlying25 rfl (by exact Try.infoR) ?_))
    (try dsimp only); refine hK _ _ ?_; clear hK K; (try simp only [Act.put, List.setIfInBounds_toArray, List.set_cons_zero, List.set_cons_succ])
    refine wpList_plain rfl (fun K hK => ?_)
    go_simp
    (go_at_call 15; refine (insert_is p r v _ _ _ hF (A := fun _ => True) (fun _ _ => trivial) hp (isT.low tv)).mono ?_; intro e W401 hpp; obtain ⟨v2, rfl, t2, hx⟩ := hpp)
    (try dsimp only); refine hK _ _ ?_; clear hK K; (try simp only [Act.put, List.setIfInBounds_toArray, List.set_cons_zero, List.set_cons_succ])
    replace b0 := b0.ext hx
    replace b1 := b1.ext hx
    replace hown := hown.ext hx
    replace tv := isT.ext hx tv
    replace hm := Nat.le_trans hm hx.below.size
    replace hE := hE.trans hx
    clear hx
    replace qz : r1 < W401.heap.size := b1.lt
    replace t2 := isT.lw t2
    obtain ⟨m2, hm0⟩ : ∃ m, m = W401.heap.size := ⟨_, rfl⟩
    have hwm2 : w.heap.size ≤ m2 := by rw [hm0]; exact hE.below.size
    rw [← hm0] at t2
    have hm2 : m2 ≤ W401.heap.size := by omega
    have hrm2 : r1 < m2 := by omega
    clear hm0
    refine wpList_plain rfl (fun K hK => ?_)
    go_simp
    (try dsimp only); refine hK _ _ ?_; clear hK K; (try simp only [Act.put, List.setIfInBounds_toArray, List.set_cons_zero, List.set_cons_succ])
    refine wpList_plain rfl (fun K hK => ?_)
    go_simp
    (try dsimp only); refine hK _ _ ?_; clear hK K; (try simp only [Act.put, List.setIfInBounds_toArray, List.set_cons_zero, List.set_cons_succ])
    refine wpList_plain rfl (fun K hK => ?_)
    go_simp
    (try dsimp only); refine hK _ _ ?_; clear hK K; (try simp only [Act.put, List.setIfInBounds_toArray, List.set_cons_zero, List.set_cons_succ])
    refine wpList_plain rfl (fun K hK => ?_)
    have qb : m2 ≤ W401.heap.size := hm2
    go_simp
    (try dsimp only); refine hK _ _ ?_; clear hK K; (try simp only [Act.put, List.setIfInBounds_toArray, List.set_cons_zero, List.set_cons_succ])
    refine name_wl (fun W402 hW => ?_)
    have hx : Ext W401 W402 := by rw [hW]; exact ext_alloc _ _
    have b2 : Blk W402 W401.heap.size 28 TV.z.cs := by rw [hW]; exact Blk.newAt rfl
    clear hW
    replace b0 := b0.ext hx
    replace b1 := b1.ext hx
    replace hown := hown.ext hx
    replace tv := isT.ext hx tv
    replace hm := Nat.le_trans hm hx.below.size
    replace t2 := isT.ext hx t2
    replace hm2 := Nat.le_trans hm2 hx.below.size
    replace hE := hE.trans hx
    clear hx
    obtain ⟨r2, hr⟩ : ∃ r, r = W401.heap.size := ⟨_, rfl⟩
    rw [← hr] at b2
    try rw [← hr]
    have q2 : r1 < r2 := by omega
    have qb2 : m2 ≤ r2 := by omega
    clear hr
    replace qz : r2 < W402.heap.size := b2.lt
    refine wpList_plain rfl (fun K hK => ?_)
    refine wp_store_box 28 _ _ (by rfl) b2 (by rfl) (by rfl) (by exact Try.infoT) (by first | exact RV.one _ | exact TV.one _ rfl | exact RV.one _ | exact TV.one _ (isT.one tv) | exact TV.one _ (isT.one t2)) (by rfl) (fun W403 hg bn => ?_)
    replace b0 := b0.kept hg (by simp only [ne_eq, Option.some.injEq]; omega)
    replace b1 := b1.kept hg (by simp only [ne_eq, Option.some.injEq]; omega)
    replace hown := hown.kept hg (.inr (hown.ne b2 (by decide)))
    replace tv := isT.kept hg (Lw.not (by omega)) tv
    replace hm := Nat.le_trans hm hg.size
    replace t2 := isT.kept hg (Lw.not (by omega)) t2
    replace hm2 := Nat.le_trans hm2 hg.size
    replace hE := ext_grow hE hg (fun q hq => by cases hq; omega)
    clear b2 hg
    have b2 := bn
    clear bn
    (try dsimp only); refine hK _ _ ?_; clear hK K; (try simp only [Act.put, List.setIfInBounds_toArray, List.set_cons_zero, List.set_cons_succ])
    replace qz : r2 < W403.heap.size := b2.lt
    refine wpList_plain rfl (fun K hK => ?_)
    go_simp
    (try dsimp only); refine hK _ _ ?_; clear hK K; (try simp only [Act.put, List.setIfInBounds_toArray, List.set_cons_zero, List.set_cons_succ])
    refine wpList_nil ?_
    go_upto_region 7 with fail
    refine wp_region_lit ?_
    refine wpList_plain rfl (fun K hK => ?_)
    go_simp
    (try dsimp only); refine hK _ _ ?_; clear hK K; (try simp only [Act.put, List.setIfInBounds_toArray, List.set_cons_zero, List.set_cons_succ])
    refine wpList_plain rfl (fun K hK => ?_)
    go_simp; (try simp (disch := omega) only [IntWalk.i64_in, IntWalk.wrap64_in])
    (try dsimp only); refine hK _ _ ?_; clear hK K; (try simp only [Act.put, List.setIfInBounds_toArray, List.set_cons_zero, List.set_cons_succ])
    refine wpList_nil ?_
    go_upto_region 9 with fail
    refine wp_region_lit ?_
    refine wpList_plain rfl (fun K hK => ?_)
    (first | (refine wp_ld 28 _ (b2.range) (by rfl) (by rfl) Try.underlying28 rfl (by exact Try.infoT) ?_))
    (try dsimp only); refine hK _ _ ?_; clear hK K; (try simp only [Act.put, List.setIfInBounds_toArray, List.set_cons_zero, List.set_cons_succ])
    refine wpList_plain rfl (fun K hK => ?_)
    go_simp
    (try dsimp only); refine hK _ _ ?_; clear hK K; (try simp only [Act.put, List.setIfInBounds_toArray, List.set_cons_zero, List.set_cons_succ])
    refine wpList_plain rfl (fun K hK => ?_)
    have zc := b0.cell 0; go_simp; clear zc
    (try dsimp only); refine hK _ _ ?_; clear hK K; (try simp only [Act.put, List.setIfInBounds_toArray, List.set_cons_zero, List.set_cons_succ])
    refine wpList_plain rfl (fun K hK => ?_)
    go_simp
    (go_at_call 20; refine (delete_is (insP p r) r.s v2 _ _ _ hF3 (A := fun _ => True) (fun _ _ => trivial) hg2 (isT.low t2)).mono ?_; intro e W404 hpp; obtain ⟨v3, rfl, t3, hx⟩ := hpp)
    (try dsimp only); refine hK _ _ ?_; clear hK K; (try simp only [Act.put, List.setIfInBounds_toArray, List.set_cons_zero, List.set_cons_succ])
    replace b0 := b0.ext hx
    replace b1 := b1.ext hx
    replace b2 := b2.ext hx
    replace hown := hown.ext hx
    replace tv := isT.ext hx tv
    replace hm := Nat.le_trans hm hx.below.size
    replace t2 := isT.ext hx t2
    replace hm2 := Nat.le_trans hm2 hx.below.size
    replace hE := hE.trans hx
    clear hx
    replace qz : r2 < W404.heap.size := b2.lt
    replace t3 := isT.lw t3
    obtain ⟨m3, hm0⟩ : ∃ m, m = W404.heap.size := ⟨_, rfl⟩
    have hwm3 : w.heap.size ≤ m3 := by rw [hm0]; exact hE.below.size
    rw [← hm0] at t3
    have hm3 : m3 ≤ W404.heap.size := by omega
    have hrm3 : r2 < m3 := by omega
    clear hm0
    have hnum := isP_num t3
    have hnum0 := isP_num tv
    have hb3 : (v3.g == v.g) = true := by rw [hnum.2.2.2, hnum0.2.2.2, gap_flat, gap_flat, hfl3]; simp
    have hb4 : (v3.f == v.f) = true := by rw [hnum.2.1, hnum0.2.1, fst_flat, fst_flat, hfl3]; simp
    have hb5 : (v3.l == v.l) = true := by rw [hnum.2.2.1, hnum0.2.2.1, lst_flat, lst_flat, hfl3]; simp
    clear hnum hnum0
    refine wpList_plain rfl (fun K hK => ?_)
    go_simp
    (try dsimp only); refine hK _ _ ?_; clear hK K; (try simp only [Act.put, List.setIfInBounds_toArray, List.set_cons_zero, List.set_cons_succ])
    refine wpList_plain rfl (fun K hK => ?_)
    go_simp
    (try dsimp only); refine hK _ _ ?_; clear hK K; (try simp only [Act.put, List.setIfInBounds_toArray, List.set_cons_zero, List.set_cons_succ])
    refine wpList_plain rfl (fun K hK => ?_)
    go_simp
    (try dsimp only); refine hK _ _ ?_; clear hK K; (try simp only [Act.put, List.setIfInBounds_toArray, List.set_cons_zero, List.set_cons_succ])
    refine wpList_plain rfl (fun K hK => ?_)
    have qb : m3 ≤ W404.heap.size := hm3
    go_simp
    (try dsimp only); refine hK _ _ ?_; clear hK K; (try simp only [Act.put, List.setIfInBounds_toArray, List.set_cons_zero, List.set_cons_succ])
    refine name_wl (fun W405 hW => ?_)
    have hx : Ext W404 W405 := by rw [hW]; exact ext_alloc _ _
    have b3 : Blk W405 W404.heap.size 28 TV.z.cs := by rw [hW]; exact Blk.newAt rfl
    clear hW
    replace b0 := b0.ext hx
    replace b1 := b1.ext hx
    replace b2 := b2.ext hx
    replace hown := hown.ext hx
    replace tv := isT.ext hx tv
    replace hm := Nat.le_trans hm hx.below.size
    replace t2 := isT.ext hx t2
    replace hm2 := Nat.le_trans hm2 hx.below.size
    replace t3 := isT.ext hx t3
    replace hm3 := Nat.le_trans hm3 hx.below.size
    replace hE := hE.trans hx
    clear hx
    obtain ⟨r3, hr⟩ : ∃ r, r = W404.heap.size := ⟨_, rfl⟩
    rw [← hr] at b3
    try rw [← hr]
    have q3 : r2 < r3 := by omega
    have qb3 : m3 ≤ r3 := by omega
    clear hr
    replace qz : r3 < W405.heap.size := b3.lt
    refine wpList_plain rfl (fun K hK => ?_)
    refine wp_store_box 28 _ _ (by rfl) b3 (by rfl) (by rfl) (by exact Try.infoT) (by first | exact RV.one _ | exact TV.one _ rfl | exact RV.one _ | exact TV.one _ (isT.one tv) | exact TV.one _ (isT.one t2) | exact TV.one _ (isT.one t3)) (by rfl) (fun W406 hg bn => ?_)
    replace b0 := b0.kept hg (by simp only [ne_eq, Option.some.injEq]; omega)
    replace b1 := b1.kept hg (by simp only [ne_eq, Option.some.injEq]; omega)
    replace b2 := b2.kept hg (by simp only [ne_eq, Option.some.injEq]; omega)
    replace hown := hown.kept hg (.inr (hown.ne b3 (by decide)))
    replace tv := isT.kept hg (Lw.not (by omega)) tv
    replace hm := Nat.le_trans hm hg.size
    replace t2 := isT.kept hg (Lw.not (by omega)) t2
    replace hm2 := Nat.le_trans hm2 hg.size
    replace t3 := isT.kept hg (Lw.not (by omega)) t3
    replace hm3 := Nat.le_trans hm3 hg.size
    replace hE := ext_grow hE hg (fun q hq => by cases hq; omega)
    clear b3 hg
    have b3 := bn
    clear bn
    (try dsimp only); refine hK _ _ ?_; clear hK K; (try simp only [Act.put, List.setIfInBounds_toArray, List.set_cons_zero, List.set_cons_succ])
    replace qz : r3 < W406.heap.size := b3.lt
    refine wpList_plain rfl (fun K hK => ?_)
    go_simp
    (try dsimp only); refine hK _ _ ?_; clear hK K; (try simp only [Act.put, List.setIfInBounds_toArray, List.set_cons_zero, List.set_cons_succ])
    refine wpList_nil ?_
    have hb6 : (((p.flat.length + 1 : Nat) : Int) == (p.flat.length : Int) + 1) = true := by simp
    have hb7 : decide ((p.flat.length : Int) + 1 = (p.flat.length : Int) + 1) = true := by simp
    go_upto_region 10 with fail
    refine wp_region_lit ?_
    refine wpList_plain rfl (fun K hK => ?_)
    go_simp
    (try dsimp only); refine hK _ _ ?_; clear hK K; (try simp only [Act.put, List.setIfInBounds_toArray, List.set_cons_zero, List.set_cons_succ])
    refine wpList_plain rfl (fun K hK => ?_)
    go_simp; (try simp (disch := omega) only [IntWalk.i64_in, IntWalk.wrap64_in]); (try simp only [hb3, hb4, hb5, hb6, hb7])
    (try dsimp only); refine hK _ _ ?_; clear hK K; (try simp only [Act.put, List.setIfInBounds_toArray, List.set_cons_zero, List.set_cons_succ])
    refine wpList_plain rfl (fun K hK => ?_)
    go_simp
    (try dsimp only); refine hK _ _ ?_; clear hK K; (try simp only [Act.put, List.setIfInBounds_toArray, List.set_cons_zero, List.set_cons_succ])
    refine wpList_step (fun K hK => ?_)
    rw [if_pos (by rfl)]
    (first | (refine wp_ld 28 _ (b3.range) (by rfl) (by rfl) Try.underlying28 rfl (by exact Try.infoT) ?_))
    (try dsimp only); refine hK _ _ ?_; clear hK K; (try simp only [Act.put, List.setIfInBounds_toArray, List.set_cons_zero, List.set_cons_succ])
    refine wpList_step (fun K hK => ?_)
    rw [if_pos (by rfl)]
    go_simp
    (go_at_call 17; refine (list_P (remP (insP p r) r.s) v3 _ hg3 t3).mono ?_; intro e W407 hpp; obtain ⟨u3, rfl, hown3, hx⟩ := hpp)
    (try dsimp only); refine hK _ _ ?_; clear hK K; (try simp only [Act.put, List.setIfInBounds_toArray, List.set_cons_zero, List.set_cons_succ])
    replace b0 := b0.ext hx
    replace b1 := b1.ext hx
    replace b2 := b2.ext hx
    replace b3 := b3.ext hx
    replace hown := hown.ext hx
    replace tv := isT.ext hx tv
    replace hm := Nat.le_trans hm hx.below.size
    replace t2 := isT.ext hx t2
    replace hm2 := Nat.le_trans hm2 hx.below.size
    replace t3 := isT.ext hx t3
    replace hm3 := Nat.le_trans hm3 hx.below.size
    replace hE := hE.trans hx
    clear hx
    replace qz : r3 < W407.heap.size := b3.lt
    rw [hfl3] at hown3
    refine wpList_step (fun K hK => ?_)
    rw [if_pos (by rfl)]
    go_simp
    (try dsimp only); refine hK _ _ ?_; clear hK K; (try simp only [Act.put, List.setIfInBounds_toArray, List.set_cons_zero, List.set_cons_succ])
    refine wpList_step (fun K hK => ?_)
    rw [if_pos (by rfl)]
    go_simp
    (go_at_call 16; refine (lsame_refl p.flat _ _ _ hown3.isSl hown.isSl (by omega)).mono ?_; intro e W408 hpp; obtain ⟨rfl, hx⟩ := hpp)
    (try dsimp only); refine hK _ _ ?_; clear hK K; (try simp only [Act.put, List.setIfInBounds_toArray, List.set_cons_zero, List.set_cons_succ])
    replace b0 := b0.ext hx
    replace b1 := b1.ext hx
    replace b2 := b2.ext hx
    replace b3 := b3.ext hx
    replace hown := hown.ext hx
    replace tv := isT.ext hx tv
    replace hm := Nat.le_trans hm hx.below.size
    replace t2 := isT.ext hx t2
    replace hm2 := Nat.le_trans hm2 hx.below.size
    replace t3 := isT.ext hx t3
    replace hm3 := Nat.le_trans hm3 hx.below.size
    replace hown3 := hown3.ext hx
    replace hE := hE.trans hx
    clear hx
    replace qz : r3 < W408.heap.size := b3.lt
    refine wpList_plain rfl (fun K hK => ?_)
    go_simp
    (try dsimp only); refine hK _ _ ?_; clear hK K; (try simp only [Act.put, List.setIfInBounds_toArray, List.set_cons_zero, List.set_cons_succ])
    refine wpList_plain rfl (fun K hK => ?_)
    go_simp
    (try dsimp only); refine hK _ _ ?_; clear hK K; (try simp only [Act.put, List.setIfInBounds_toArray, List.set_cons_zero, List.set_cons_succ])
    refine wpList_step (fun K hK => ?_)
    rw [if_pos (by rfl)]
    (first | (refine wp_ld 28 _ (b2.range) (by rfl) (by rfl) Try.underlying28 rfl (by exact Try.infoT) ?_))
    (try dsimp only); refine hK _ _ ?_; clear hK K; (try simp only [Act.put, List.setIfInBounds_toArray, List.set_cons_zero, List.set_cons_succ])
    refine wpList_step (fun K hK => ?_)
    rw [if_pos (by rfl)]
    go_simp
    (go_at_call 17; refine (list_n (insP p r) v2 _ _ hln hg2 t2).mono ?_; intro e W409 hpp; obtain ⟨ld, lc, rfl, hx⟩ := hpp)
    (try dsimp only); refine hK _ _ ?_; clear hK K; (try simp only [Act.put, List.setIfInBounds_toArray, List.set_cons_zero, List.set_cons_succ])
    replace b0 := b0.ext hx
    replace b1 := b1.ext hx
    replace b2 := b2.ext hx
    replace b3 := b3.ext hx
    replace hown := hown.ext hx
    replace tv := isT.ext hx tv
    replace hm := Nat.le_trans hm hx.below.size
    replace t2 := isT.ext hx t2
    replace hm2 := Nat.le_trans hm2 hx.below.size
    replace t3 := isT.ext hx t3
    replace hm3 := Nat.le_trans hm3 hx.below.size
    replace hown3 := hown3.ext hx
    replace hE := hE.trans hx
    clear hx
    replace qz : r3 < W409.heap.size := b3.lt
    refine wpList_step (fun K hK => ?_)
    rw [if_pos (by rfl)]
    go_simp
    (try dsimp only); refine hK _ _ ?_; clear hK K; (try simp only [Act.put, List.setIfInBounds_toArray, List.set_cons_zero, List.set_cons_succ])
    refine wpList_step (fun K hK => ?_)
    rw [if_pos (by rfl)]
    go_simp
    (try dsimp only); refine hK _ _ ?_; clear hK K; (try simp only [Act.put, List.setIfInBounds_toArray, List.set_cons_zero, List.set_cons_succ])
    refine wpList_step (fun K hK => ?_)
    rw [if_pos (by rfl)]
    go_simp
    (try dsimp only); refine hK _ _ ?_; clear hK K; (try simp only [Act.put, List.setIfInBounds_toArray, List.set_cons_zero, List.set_cons_succ])
    refine wpList_step (fun K hK => ?_)
    rw [if_pos (by rfl)]
    go_simp; (try simp (disch := omega) only [IntWalk.i64_in, IntWalk.wrap64_in]); (try simp only [hb3, hb4, hb5, hb6, hb7])
    (try dsimp only); refine hK _ _ ?_; clear hK K; (try simp only [Act.put, List.setIfInBounds_toArray, List.set_cons_zero, List.set_cons_succ])
    refine wpList_step (fun K hK => ?_)
    rw [if_pos (by rfl)]
    go_simp; (try simp (disch := omega) only [IntWalk.i64_in, IntWalk.wrap64_in]); (try simp only [hb3, hb4, hb5, hb6, hb7])
    (try dsimp only); refine hK _ _ ?_; clear hK K; (try simp only [Act.put, List.setIfInBounds_toArray, List.set_cons_zero, List.set_cons_succ])
    refine wpList_plain rfl (fun K hK => ?_)
    go_simp
    (try dsimp only); refine hK _ _ ?_; clear hK K; (try simp only [Act.put, List.setIfInBounds_toArray, List.set_cons_zero, List.set_cons_succ])
    refine wpList_plain rfl (fun K hK => ?_)
    go_simp
    (try dsimp only); refine hK _ _ ?_; clear hK K; (try simp only [Act.put, List.setIfInBounds_toArray, List.set_cons_zero, List.set_cons_succ])
    refine wpList_step (fun K hK => ?_)
    rw [if_pos (by rfl)]
    go_simp
    (try dsimp only); refine hK _ _ ?_; clear hK K; (try simp only [Act.put, List.setIfInBounds_toArray, List.set_cons_zero, List.set_cons_succ])
    refine wpList_step (fun K hK => ?_)
    rw [if_pos (by rfl)]
    have zc := b3.cell 3; go_simp; clear zc; (try simp only [hb3, hb4, hb5, hb6, hb7])
    (try dsimp only); refine hK _ _ ?_; clear hK K; (try simp only [Act.put, List.setIfInBounds_toArray, List.set_cons_zero, List.set_cons_succ])
    refine wpList_step (fun K hK => ?_)
    rw [if_pos (by rfl)]
    go_simp
    (try dsimp only); refine hK _ _ ?_; clear hK K; (try simp only [Act.put, List.setIfInBounds_toArray, List.set_cons_zero, List.set_cons_succ])
    refine wpList_step (fun K hK => ?_)
    rw [if_pos (by rfl)]
    have zc := b1.cell 3; go_simp; clear zc; (try simp only [hb3, hb4, hb5, hb6, hb7])
    (try dsimp only); refine hK _ _ ?_; clear hK K; (try simp only [Act.put, List.setIfInBounds_toArray, List.set_cons_zero, List.set_cons_succ])
    refine wpList_step (fun K hK => ?_)
    rw [if_pos (by rfl)]
    go_simp; (try simp (disch := omega) only [IntWalk.i64_in, IntWalk.wrap64_in]); (try simp only [hb3, hb4, hb5, hb6, hb7])
    (try dsimp only); refine hK _ _ ?_; clear hK K; (try simp only [Act.put, List.setIfInBounds_toArray, List.set_cons_zero, List.set_cons_succ])
    refine wpList_plain rfl (fun K hK => ?_)
    go_simp
    (try dsimp only); refine hK _ _ ?_; clear hK K; (try simp only [Act.put, List.setIfInBounds_toArray, List.set_cons_zero, List.set_cons_succ])
    refine wpList_plain rfl (fun K hK => ?_)
    go_simp
    (try dsimp only); refine hK _ _ ?_; clear hK K; (try simp only [Act.put, List.setIfInBounds_toArray, List.set_cons_zero, List.set_cons_succ])
    refine wpList_step (fun K hK => ?_)
    rw [if_pos (by rfl)]
    go_simp
    (try dsimp only); refine hK _ _ ?_; clear hK K; (try simp only [Act.put, List.setIfInBounds_toArray, List.set_cons_zero, List.set_cons_succ])
    refine wpList_step (fun K hK => ?_)
    rw [if_pos (by rfl)]
    have zc := b3.cell 1; go_simp; clear zc; (try simp only [hb3, hb4, hb5, hb6, hb7])
    (try dsimp only); refine hK _ _ ?_; clear hK K; (try simp only [Act.put, List.setIfInBounds_toArray, List.set_cons_zero, List.set_cons_succ])
    refine wpList_step (fun K hK => ?_)
    rw [if_pos (by rfl)]
    go_simp
    (try dsimp only); refine hK _ _ ?_; clear hK K; (try simp only [Act.put, List.setIfInBounds_toArray, List.set_cons_zero, List.set_cons_succ])
    refine wpList_step (fun K hK => ?_)
    rw [if_pos (by rfl)]
    have zc := b1.cell 1; go_simp; clear zc; (try simp only [hb3, hb4, hb5, hb6, hb7])
    (try dsimp only); refine hK _ _ ?_; clear hK K; (try simp only [Act.put, List.setIfInBounds_toArray, List.set_cons_zero, List.set_cons_succ])
    refine wpList_step (fun K hK => ?_)
    rw [if_pos (by rfl)]
    go_simp; (try simp (disch := omega) only [IntWalk.i64_in, IntWalk.wrap64_in]); (try simp only [hb3, hb4, hb5, hb6, hb7])
    (try dsimp only); refine hK _ _ ?_; clear hK K; (try simp only [Act.put, List.setIfInBounds_toArray, List.set_cons_zero, List.set_cons_succ])
    refine wpList_plain rfl (fun K hK => ?_)
    go_simp
    (try dsimp only); refine hK _ _ ?_; clear hK K; (try simp only [Act.put, List.setIfInBounds_toArray, List.set_cons_zero, List.set_cons_succ])
    refine wpList_plain rfl (fun K hK => ?_)
    go_simp
    (try dsimp only); refine hK _ _ ?_; clear hK K; (try simp only [Act.put, List.setIfInBounds_toArray, List.set_cons_zero, List.set_cons_succ])
    refine wpList_step (fun K hK => ?_)
    rw [if_pos (by rfl)]
    go_simp
    (try dsimp only); refine hK _ _ ?_; clear hK K; (try simp only [Act.put, List.setIfInBounds_toArray, List.set_cons_zero, List.set_cons_succ])
    refine wpList_step (fun K hK => ?_)
    rw [if_pos (by rfl)]
    have zc := b3.cell 2; go_simp; clear zc; (try simp only [hb3, hb4, hb5, hb6, hb7])
    (try dsimp only); refine hK _ _ ?_; clear hK K; (try simp only [Act.put, List.setIfInBounds_toArray, List.set_cons_zero, List.set_cons_succ])
    refine wpList_step (fun K hK => ?_)
    rw [if_pos (by rfl)]
    go_simp
    (try dsimp only); refine hK _ _ ?_; clear hK K; (try simp only [Act.put, List.setIfInBounds_toArray, List.set_cons_zero, List.set_cons_succ])
    refine wpList_step (fun K hK => ?_)
    rw [if_pos (by rfl)]
    have zc := b1.cell 2; go_simp; clear zc; (try simp only [hb3, hb4, hb5, hb6, hb7])
    (try dsimp only); refine hK _ _ ?_; clear hK K; (try simp only [Act.put, List.setIfInBounds_toArray, List.set_cons_zero, List.set_cons_succ])
    refine wpList_step (fun K hK => ?_)
    rw [if_pos (by rfl)]
    go_simp; (try simp (disch := omega) only [IntWalk.i64_in, IntWalk.wrap64_in]); (try simp only [hb3, hb4, hb5, hb6, hb7])
    (try dsimp only); refine hK _ _ ?_; clear hK K; (try simp only [Act.put, List.setIfInBounds_toArray, List.set_cons_zero, List.set_cons_succ])
    refine wpList_plain rfl (fun K hK => ?_)
    go_simp
    (try dsimp only); refine hK _ _ ?_; clear hK K; (try simp only [Act.put, List.setIfInBounds_toArray, List.set_cons_zero, List.set_cons_succ])
    refine wpList_plain rfl (fun K hK => ?_)
    go_simp
    (try dsimp only); refine hK _ _ ?_; clear hK K; (try simp only [Act.put, List.setIfInBounds_toArray, List.set_cons_zero, List.set_cons_succ])
    refine wpList_nil ?_
    go_wp2_with fail
    go_ret
    exact ⟨rfl, hE⟩

theorem law_back (l : List OV) (s : Value) (r : RV) (w : World) (hs : isSl w s 7 l.length (oF l)) :
    Calls Try.prog 10 #[s, .agg r.cs.toArray] w fun e w' => e = .returned (.bool true) ∧ Ext w w' := by
  by_cases hl : 40 < l.length
  · exact law_back_big l s r w hs hl
  · exact law_back_ok l s r w hs hl

end Go.Proofs.Ytnbohogkfdeddaa
