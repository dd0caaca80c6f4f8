/- Rangetree: Check. -/
import Derived.Test.YtnbohogkfdeddaaRtu
set_option linter.unusedSimpArgs false
set_option linter.unusedVariables false
namespace Go.Proofs.Ytnbohogkfdeddaa
open Go.RowKit

def avA (t : BT) : Bool := t.nodes.foldl (fun ok b => ok && vldB b.rg) true
def odA (t : BT) : Bool × Int := t.nodes.foldl (fun s b => (s.1 && decide (s.2 ≤ b.rg.s), b.rg.e)) (true, 0)
def chkA (t : BT) : Int := if avA t = false then 2 else if (odA t).1 = false then 10 else if numA t = false then 11 else 0
theorem rg_of {A : Nat → Prop} {w : World} {b : BT} {v : TV} (ht : isT A w b v) (hb : b ≠ .E) : v.x = b.rg := by
  cases b with
  | E => exact absurd rfl hb
  | N h f l g a x b => exact ht.2.2.2.2.1
theorem chk1_step (r1 : Nat) (A : Nat → Prop) : StepOK 43 #[.pointer (some ⟨r1, 0, none⟩)] [r1] A (SB r1) (fun ok b => ok && vldB b.rg) (fun _ => True) := by
  intro ok b v w hs ht hb _
  cases ok with
  | true =>
    refine (chk1_true r1 A b v w hs ht hb).mono ?_
    rintro e w' ⟨he, hS, hG⟩
    rw [rg_of ht hb] at hS
    exact ⟨he, hS, hG⟩
  | false => exact chk1_false r1 A b v w hs ht hb
theorem chk2_step (r1 r2 : Nat) (hne : r1 ≠ r2) (A : Nat → Prop) : StepOK 44 #[.pointer (some ⟨r1, 0, none⟩), .pointer (some ⟨r2, 0, none⟩)] [r1, r2] A (SO r1 r2) (fun s b => (s.1 && decide (s.2 ≤ b.rg.s), b.rg.e)) (fun b => vld b.rg) := by
  rintro ⟨ok, la⟩ b v w hs ht hb hv
  cases ok with
  | true =>
    refine (chk2_true r1 r2 la A b v w hs hne ht hb hv).mono ?_
    rintro e w' ⟨he, hS, hG⟩
    rw [rg_of ht hb] at hS
    exact ⟨he, hS, hG⟩
  | false =>
    refine (chk2_false r1 r2 la A b v w hs hne ht hb hv).mono ?_
    rintro e w' ⟨he, hS, hG⟩
    rw [rg_of ht hb] at hS
    exact ⟨he, hS, hG⟩
theorem numbered_is {A : Nat → Prop} (t : BT) (v : TV) (w : World) (ht : isT A w t v) (hv : ∀ b ∈ t.nodes, vld b.rg) (b : Bool) (hn : numA t = b) :
    Calls Try.prog 45 #[.agg v.cs.toArray] w fun e w' => e = .returned (.bool b) ∧ Ext w w' := by
  subst hn
  exact numbered_any t v w ht hv
theorem Try.enter_c1 : ∀ args w, (callFunc 43 args).run Try.prog w = .ok (.enter 43 args) w := by
  intro args w
  go_simp
theorem Try.enter_c2 : ∀ args w, (callFunc 44 args).run Try.prog w = .ok (.enter 44 args) w := by
  intro args w
  go_simp
theorem foldl_and (l : List BT) : ∀ (ok : Bool), l.foldl (fun ok b => ok && vldB b.rg) ok = true → ok = true ∧ ∀ b ∈ l, vld b.rg := by
  induction l with
  | nil => intro ok h; exact ⟨h, fun b hb => by cases hb⟩
  | cons x l ih =>
    intro ok h
    obtain ⟨h1, h2⟩ := ih _ h
    rw [Bool.and_eq_true] at h1
    refine ⟨h1.1, fun b hb => ?_⟩
    rcases List.mem_cons.1 hb with rfl | hb
    · exact (vldB_iff _).1 h1.2
    · exact h2 b hb
theorem avA_all {t : BT} (h : avA t = true) : ∀ b ∈ t.nodes, vld b.rg := (foldl_and _ _ h).2

set_option maxRecDepth 100000 in
set_option maxHeartbeats 1000000 in
theorem chk_2 {A : Nat → Prop} (t : BT) (v : TV) (w : World) (ht : isT A w t v) (h1 : avA t = false) :
    Calls Try.prog 22 #[.agg v.cs.toArray] w fun e w' => e = .returned (.int .i64 2) ∧ Ext w w' := by
  replace ht := ht.lw
  replace h1 : Hid (avA t = _) := h1
  go_enter Try.func22, Try.ntmps22
  go_upto_region 1 with fail
  refine name_wX (fun W1 hW => ?_)
  have hE : Ext w W1 := by rw [hW]; repeat' (first | exact Ext.refl _ | apply Ext.al)
  have b0 : Blk W1 (w.heap.size) 28 v.cs := by rw [hW]; exact Blk.newAt rfl
  clear hW
  obtain ⟨r0, hr0⟩ : ∃ r, r = w.heap.size := ⟨_, rfl⟩
  rw [← hr0] at b0
  try rw [← hr0]
  have q0 : w.heap.size ≤ r0 := by omega
  clear hr0
  have qz : r0 < W1.heap.size := b0.lt
  replace ht := isT.ext hE ht
  refine wp_region_lit ?_
  refine wpList_plain rfl (fun K hK => ?_); (first | (refine wp_ld 28 _ (b0.range) (by rfl) (by rfl) Try.underlying28 rfl (by exact Try.infoT) ?_)); (try dsimp only); refine hK _ _ ?_; clear hK K; (try simp only [Act.put, Zs, Zz, Zc])
  refine wpList_plain rfl (fun K hK => ?_); go_simp; (go_at_call 42; refine (formed_P _ _ _ _ ht).mono ?_; intro e W2 hpp; obtain ⟨rfl, hx⟩ := hpp); (try dsimp only); refine hK _ _ ?_; clear hK K; (try simp only [Act.put, Zs, Zz, Zc])
  replace b0 := b0.ext hx
  replace ht := isT.ext hx ht
  replace hE := hE.trans hx
  clear hx
  replace qz : r0 < W2.heap.size := b0.lt
  refine wpList_plain rfl (fun K hK => ?_); go_simp; (try dsimp only); refine hK _ _ ?_; clear hK K; (try simp only [Act.put, Zs, Zz, Zc])
  refine wpList_nil ?_
  go_upto_region 3 with fail
  refine wp_region_lit ?_
  refine wpList_plain rfl (fun K hK => ?_); go_simp; (try dsimp only); refine hK _ _ ?_; clear hK K; (try simp only [Act.put, Zs, Zz, Zc])
  refine name_wl (fun W3 hW => ?_)
  have hx : Ext W2 W3 := by rw [hW]; exact ext_alloc _ _
  have b1 : Blk W3 W2.heap.size 4 [.bool false] := by rw [hW]; exact Blk.newAt rfl
  clear hW
  replace b0 := b0.ext hx
  replace ht := isT.ext hx ht
  replace hE := hE.trans hx
  clear hx
  obtain ⟨r1, hr⟩ : ∃ r, r = W2.heap.size := ⟨_, rfl⟩
  rw [← hr] at b1
  try rw [← hr]
  have q1 : r0 < r1 := by omega
  clear hr
  replace qz : r1 < W3.heap.size := b1.lt
  refine wpList_plain rfl (fun K hK => ?_); go_simp; (try dsimp only); refine hK _ _ ?_; clear hK K; (try simp only [Act.put, Zs, Zz, Zc])
  refine name_wl (fun W4 hW => ?_)
  have hx : Ext W3 W4 := by rw [hW]; exact ext_alloc _ _
  have b2 : Blk W4 W3.heap.size 4 [.bool false] := by rw [hW]; exact Blk.newAt rfl
  clear hW
  replace b0 := b0.ext hx
  replace b1 := b1.ext hx
  replace ht := isT.ext hx ht
  replace hE := hE.trans hx
  clear hx
  obtain ⟨r2, hr⟩ : ∃ r, r = W3.heap.size := ⟨_, rfl⟩
  rw [← hr] at b2
  try rw [← hr]
  have q2 : r1 < r2 := by omega
  clear hr
  replace qz : r2 < W4.heap.size := b2.lt
  refine wpList_plain rfl (fun K hK => ?_); go_simp; (try dsimp only); refine hK _ _ ?_; clear hK K; (try simp only [Act.put, Zs, Zz, Zc])
  refine name_wl (fun W5 hW => ?_)
  have hx : Ext W4 W5 := by rw [hW]; exact ext_alloc _ _
  have b3 : Blk W5 W4.heap.size 3 [.int .i64 0] := by rw [hW]; exact Blk.newAt rfl
  clear hW
  replace b0 := b0.ext hx
  replace b1 := b1.ext hx
  replace b2 := b2.ext hx
  replace ht := isT.ext hx ht
  replace hE := hE.trans hx
  clear hx
  obtain ⟨r3, hr⟩ : ∃ r, r = W4.heap.size := ⟨_, rfl⟩
  rw [← hr] at b3
  try rw [← hr]
  have q3 : r2 < r3 := by omega
  clear hr
  replace qz : r3 < W5.heap.size := b3.lt
  refine wpList_plain rfl (fun K hK => ?_)
  have zc := b1.cell 0; have zf := b1.frozen 0; have zl := b1.lt; go_simp; clear zc zf zl
  (try dsimp only)
  refine name_k (fun W6 hW => ?_)
  have hg : W5.grownBy W6 (some r1) := by rw [hW]; exact grown_set _ _ _ _
  have bn := Blk.setW b1 hW
  replace b0 := b0.kept hg (Zn (by omega))
  replace b2 := b2.kept hg (Zn (by omega))
  replace b3 := b3.kept hg (Zn (by omega))
  replace ht := isT.kept hg (Lw.not (by omega)) ht
  replace hE := ext_grow hE hg (fun q hq => by cases hq; omega)
  clear b1 hg hW
  have b1 := bn
  clear bn
  replace qz : r3 < W6.heap.size := b3.lt
  (try dsimp only); refine hK _ _ ?_; clear hK K; (try simp only [Act.put, Zs, Zz, Zc])
  refine wpList_plain rfl (fun K hK => ?_)
  have zc := b2.cell 0; have zf := b2.frozen 0; have zl := b2.lt; go_simp; clear zc zf zl
  (try dsimp only)
  refine name_k (fun W7 hW => ?_)
  have hg : W6.grownBy W7 (some r2) := by rw [hW]; exact grown_set _ _ _ _
  have bn := Blk.setW b2 hW
  replace b0 := b0.kept hg (Zn (by omega))
  replace b1 := b1.kept hg (Zn (by omega))
  replace b3 := b3.kept hg (Zn (by omega))
  replace ht := isT.kept hg (Lw.not (by omega)) ht
  replace hE := ext_grow hE hg (fun q hq => by cases hq; omega)
  clear b2 hg hW
  have b2 := bn
  clear bn
  replace qz : r3 < W7.heap.size := b3.lt
  (try dsimp only); refine hK _ _ ?_; clear hK K; (try simp only [Act.put, Zs, Zz, Zc])
  refine wpList_plain rfl (fun K hK => ?_)
  have zc := b3.cell 0; have zf := b3.frozen 0; have zl := b3.lt; go_simp; clear zc zf zl
  (try dsimp only)
  refine name_k (fun W8 hW => ?_)
  have hg : W7.grownBy W8 (some r3) := by rw [hW]; exact grown_set _ _ _ _
  have bn := Blk.setW b3 hW
  replace b0 := b0.kept hg (Zn (by omega))
  replace b1 := b1.kept hg (Zn (by omega))
  replace b2 := b2.kept hg (Zn (by omega))
  replace ht := isT.kept hg (Lw.not (by omega)) ht
  replace hE := ext_grow hE hg (fun q hq => by cases hq; omega)
  clear b3 hg hW
  have b3 := bn
  clear bn
  replace qz : r3 < W8.heap.size := b3.lt
  (try dsimp only); refine hK _ _ ?_; clear hK K; (try simp only [Act.put, Zs, Zz, Zc])
  refine wpList_nil ?_
  replace b1 : Blk W8 r1 4 [.bool true] := b1
  replace b2 : Blk W8 r2 4 [.bool true] := b2
  replace b3 : Blk W8 r3 3 [.int .i64 0] := b3
  go_upto_region 4 with fail
  refine wp_region_lit ?_
  refine wpList_plain rfl (fun K hK => ?_); (first | (refine wp_ld 28 _ (b0.range) (by rfl) (by rfl) Try.underlying28 rfl (by exact Try.infoT) ?_)); (try dsimp only); refine hK _ _ ?_; clear hK K; (try simp only [Act.put, Zs, Zz, Zc])
  refine wpList_plain rfl (fun K hK => ?_); go_simp; (try dsimp only); refine hK _ _ ?_; clear hK K; (try simp only [Act.put, Zs, Zz, Zc])
  refine wpList_plain rfl (fun K hK => ?_); go_simp; (go_at_call 36; refine (each_P _ 43 #[.pointer (some ⟨r1, 0, none⟩)] [r1] (Lw A w.heap.size) (SB r1) _ _ Try.enter_c1 (chk1_step r1 _) (fun _ _ _ h hx => h.ext hx) (fun q hq => by have := hq.2; simp; omega) (fun _ _ => trivial) true v _ b1 ht (fun q hq => by simp; omega)).mono ?_; intro e W9 hpp; obtain ⟨rfl, hs2, hx⟩ := hpp); (try dsimp only); refine hK _ _ ?_; clear hK K; (try simp only [Act.put, Zs, Zz, Zc])
  have ht_ := isT.gx hx (fun q hq => by have := hq.2; simp; omega) ht
  replace b0 := GrownX.blk hx b0 (by simp; omega)
  replace b2 := GrownX.blk hx b2 (by simp; omega)
  replace b3 := GrownX.blk hx b3 (by simp; omega)
  replace ht := ht_
  replace hE := ext_gx hE hx (by intro q hq; simp at hq; omega)
  clear hx
  clear b1
  have b1 : Blk W9 r1 4 [.bool false] := by have hh : SB r1 (avA t) W9 := hs2; rw [h1.out] at hh; exact hh
  clear hs2
  replace qz : r3 < W9.heap.size := b3.lt
  refine wpList_nil ?_
  go_upto_region 5 with fail
  refine wp_region_lit ?_
  refine wpList_plain rfl (fun K hK => ?_); have zc := b1.cell 0; go_simp; clear zc; (try dsimp only); refine hK _ _ ?_; clear hK K; (try simp only [Act.put, Zs, Zz, Zc])
  refine wpList_plain rfl (fun K hK => ?_); go_simp; (try dsimp only); refine hK _ _ ?_; clear hK K; (try simp only [Act.put, Zs, Zz, Zc])
  refine wpList_nil ?_
  go_upto_region 6 with fail
  refine wp_region_lit ?_
  refine wpList_plain rfl (fun K hK => ?_); go_simp; (try dsimp only); refine hK _ _ ?_; clear hK K; (try simp only [Act.put, Zs, Zz, Zc])
  refine wpList_nil ?_
  go_wp2_with fail
  go_ret
  exact ⟨rfl, hE⟩

set_option maxRecDepth 100000 in
set_option maxHeartbeats 1000000 in
theorem chk_10 {A : Nat → Prop} (t : BT) (v : TV) (w : World) (ht : isT A w t v) (h1 : avA t = true) (h2 : (odA t).1 = false) :
    Calls Try.prog 22 #[.agg v.cs.toArray] w fun e w' => e = .returned (.int .i64 10) ∧ Ext w w' := by
  replace ht := ht.lw
  have hv := avA_all h1
  replace h1 : Hid (avA t = _) := h1
  replace h2 : Hid ((odA t).1 = _) := h2
  go_enter Try.func22, Try.ntmps22
  go_upto_region 1 with fail
  refine name_wX (fun W1 hW => ?_)
  have hE : Ext w W1 := by rw [hW]; repeat' (first | exact Ext.refl _ | apply Ext.al)
  have b0 : Blk W1 (w.heap.size) 28 v.cs := by rw [hW]; exact Blk.newAt rfl
  clear hW
  obtain ⟨r0, hr0⟩ : ∃ r, r = w.heap.size := ⟨_, rfl⟩
  rw [← hr0] at b0
  try rw [← hr0]
  have q0 : w.heap.size ≤ r0 := by omega
  clear hr0
  have qz : r0 < W1.heap.size := b0.lt
  replace ht := isT.ext hE ht
  refine wp_region_lit ?_
  refine wpList_plain rfl (fun K hK => ?_); (first | (refine wp_ld 28 _ (b0.range) (by rfl) (by rfl) Try.underlying28 rfl (by exact Try.infoT) ?_)); (try dsimp only); refine hK _ _ ?_; clear hK K; (try simp only [Act.put, Zs, Zz, Zc])
  refine wpList_plain rfl (fun K hK => ?_); go_simp; (go_at_call 42; refine (formed_P _ _ _ _ ht).mono ?_; intro e W2 hpp; obtain ⟨rfl, hx⟩ := hpp); (try dsimp only); refine hK _ _ ?_; clear hK K; (try simp only [Act.put, Zs, Zz, Zc])
  replace b0 := b0.ext hx
  replace ht := isT.ext hx ht
  replace hE := hE.trans hx
  clear hx
  replace qz : r0 < W2.heap.size := b0.lt
  refine wpList_plain rfl (fun K hK => ?_); go_simp; (try dsimp only); refine hK _ _ ?_; clear hK K; (try simp only [Act.put, Zs, Zz, Zc])
  refine wpList_nil ?_
  go_upto_region 3 with fail
  refine wp_region_lit ?_
  refine wpList_plain rfl (fun K hK => ?_); go_simp; (try dsimp only); refine hK _ _ ?_; clear hK K; (try simp only [Act.put, Zs, Zz, Zc])
  refine name_wl (fun W3 hW => ?_)
  have hx : Ext W2 W3 := by rw [hW]; exact ext_alloc _ _
  have b1 : Blk W3 W2.heap.size 4 [.bool false] := by rw [hW]; exact Blk.newAt rfl
  clear hW
  replace b0 := b0.ext hx
  replace ht := isT.ext hx ht
  replace hE := hE.trans hx
  clear hx
  obtain ⟨r1, hr⟩ : ∃ r, r = W2.heap.size := ⟨_, rfl⟩
  rw [← hr] at b1
  try rw [← hr]
  have q1 : r0 < r1 := by omega
  clear hr
  replace qz : r1 < W3.heap.size := b1.lt
  refine wpList_plain rfl (fun K hK => ?_); go_simp; (try dsimp only); refine hK _ _ ?_; clear hK K; (try simp only [Act.put, Zs, Zz, Zc])
  refine name_wl (fun W4 hW => ?_)
  have hx : Ext W3 W4 := by rw [hW]; exact ext_alloc _ _
  have b2 : Blk W4 W3.heap.size 4 [.bool false] := by rw [hW]; exact Blk.newAt rfl
  clear hW
  replace b0 := b0.ext hx
  replace b1 := b1.ext hx
  replace ht := isT.ext hx ht
  replace hE := hE.trans hx
  clear hx
  obtain ⟨r2, hr⟩ : ∃ r, r = W3.heap.size := ⟨_, rfl⟩
  rw [← hr] at b2
  try rw [← hr]
  have q2 : r1 < r2 := by omega
  clear hr
  replace qz : r2 < W4.heap.size := b2.lt
  refine wpList_plain rfl (fun K hK => ?_); go_simp; (try dsimp only); refine hK _ _ ?_; clear hK K; (try simp only [Act.put, Zs, Zz, Zc])
  refine name_wl (fun W5 hW => ?_)
  have hx : Ext W4 W5 := by rw [hW]; exact ext_alloc _ _
  have b3 : Blk W5 W4.heap.size 3 [.int .i64 0] := by rw [hW]; exact Blk.newAt rfl
  clear hW
  replace b0 := b0.ext hx
  replace b1 := b1.ext hx
  replace b2 := b2.ext hx
  replace ht := isT.ext hx ht
  replace hE := hE.trans hx
  clear hx
  obtain ⟨r3, hr⟩ : ∃ r, r = W4.heap.size := ⟨_, rfl⟩
  rw [← hr] at b3
  try rw [← hr]
  have q3 : r2 < r3 := by omega
  clear hr
  replace qz : r3 < W5.heap.size := b3.lt
  refine wpList_plain rfl (fun K hK => ?_)
  have zc := b1.cell 0; have zf := b1.frozen 0; have zl := b1.lt; go_simp; clear zc zf zl
  (try dsimp only)
  refine name_k (fun W6 hW => ?_)
  have hg : W5.grownBy W6 (some r1) := by rw [hW]; exact grown_set _ _ _ _
  have bn := Blk.setW b1 hW
  replace b0 := b0.kept hg (Zn (by omega))
  replace b2 := b2.kept hg (Zn (by omega))
  replace b3 := b3.kept hg (Zn (by omega))
  replace ht := isT.kept hg (Lw.not (by omega)) ht
  replace hE := ext_grow hE hg (fun q hq => by cases hq; omega)
  clear b1 hg hW
  have b1 := bn
  clear bn
  replace qz : r3 < W6.heap.size := b3.lt
  (try dsimp only); refine hK _ _ ?_; clear hK K; (try simp only [Act.put, Zs, Zz, Zc])
  refine wpList_plain rfl (fun K hK => ?_)
  have zc := b2.cell 0; have zf := b2.frozen 0; have zl := b2.lt; go_simp; clear zc zf zl
  (try dsimp only)
  refine name_k (fun W7 hW => ?_)
  have hg : W6.grownBy W7 (some r2) := by rw [hW]; exact grown_set _ _ _ _
  have bn := Blk.setW b2 hW
  replace b0 := b0.kept hg (Zn (by omega))
  replace b1 := b1.kept hg (Zn (by omega))
  replace b3 := b3.kept hg (Zn (by omega))
  replace ht := isT.kept hg (Lw.not (by omega)) ht
  replace hE := ext_grow hE hg (fun q hq => by cases hq; omega)
  clear b2 hg hW
  have b2 := bn
  clear bn
  replace qz : r3 < W7.heap.size := b3.lt
  (try dsimp only); refine hK _ _ ?_; clear hK K; (try simp only [Act.put, Zs, Zz, Zc])
  refine wpList_plain rfl (fun K hK => ?_)
  have zc := b3.cell 0; have zf := b3.frozen 0; have zl := b3.lt; go_simp; clear zc zf zl
  (try dsimp only)
  refine name_k (fun W8 hW => ?_)
  have hg : W7.grownBy W8 (some r3) := by rw [hW]; exact grown_set _ _ _ _
  have bn := Blk.setW b3 hW
  replace b0 := b0.kept hg (Zn (by omega))
  replace b1 := b1.kept hg (Zn (by omega))
  replace b2 := b2.kept hg (Zn (by omega))
  replace ht := isT.kept hg (Lw.not (by omega)) ht
  replace hE := ext_grow hE hg (fun q hq => by cases hq; omega)
  clear b3 hg hW
  have b3 := bn
  clear bn
  replace qz : r3 < W8.heap.size := b3.lt
  (try dsimp only); refine hK _ _ ?_; clear hK K; (try simp only [Act.put, Zs, Zz, Zc])
  refine wpList_nil ?_
  replace b1 : Blk W8 r1 4 [.bool true] := b1
  replace b2 : Blk W8 r2 4 [.bool true] := b2
  replace b3 : Blk W8 r3 3 [.int .i64 0] := b3
  go_upto_region 4 with fail
  refine wp_region_lit ?_
  refine wpList_plain rfl (fun K hK => ?_); (first | (refine wp_ld 28 _ (b0.range) (by rfl) (by rfl) Try.underlying28 rfl (by exact Try.infoT) ?_)); (try dsimp only); refine hK _ _ ?_; clear hK K; (try simp only [Act.put, Zs, Zz, Zc])
  refine wpList_plain rfl (fun K hK => ?_); go_simp; (try dsimp only); refine hK _ _ ?_; clear hK K; (try simp only [Act.put, Zs, Zz, Zc])
  refine wpList_plain rfl (fun K hK => ?_); go_simp; (go_at_call 36; refine (each_P _ 43 #[.pointer (some ⟨r1, 0, none⟩)] [r1] (Lw A w.heap.size) (SB r1) _ _ Try.enter_c1 (chk1_step r1 _) (fun _ _ _ h hx => h.ext hx) (fun q hq => by have := hq.2; simp; omega) (fun _ _ => trivial) true v _ b1 ht (fun q hq => by simp; omega)).mono ?_; intro e W9 hpp; obtain ⟨rfl, hs2, hx⟩ := hpp); (try dsimp only); refine hK _ _ ?_; clear hK K; (try simp only [Act.put, Zs, Zz, Zc])
  have ht_ := isT.gx hx (fun q hq => by have := hq.2; simp; omega) ht
  replace b0 := GrownX.blk hx b0 (by simp; omega)
  replace b2 := GrownX.blk hx b2 (by simp; omega)
  replace b3 := GrownX.blk hx b3 (by simp; omega)
  replace ht := ht_
  replace hE := ext_gx hE hx (by intro q hq; simp at hq; omega)
  clear hx
  clear b1
  have b1 : Blk W9 r1 4 [.bool true] := by have hh : SB r1 (avA t) W9 := hs2; rw [h1.out] at hh; exact hh
  clear hs2
  replace qz : r3 < W9.heap.size := b3.lt
  refine wpList_nil ?_
  go_upto_region 5 with fail
  refine wp_region_lit ?_
  refine wpList_plain rfl (fun K hK => ?_); have zc := b1.cell 0; go_simp; clear zc; (try dsimp only); refine hK _ _ ?_; clear hK K; (try simp only [Act.put, Zs, Zz, Zc])
  refine wpList_plain rfl (fun K hK => ?_); go_simp; (try dsimp only); refine hK _ _ ?_; clear hK K; (try simp only [Act.put, Zs, Zz, Zc])
  refine wpList_nil ?_
  go_upto_region 7 with fail
  refine wp_region_lit ?_
  refine wpList_plain rfl (fun K hK => ?_); (first | (refine wp_ld 28 _ (b0.range) (by rfl) (by rfl) Try.underlying28 rfl (by exact Try.infoT) ?_)); (try dsimp only); refine hK _ _ ?_; clear hK K; (try simp only [Act.put, Zs, Zz, Zc])
  refine wpList_plain rfl (fun K hK => ?_); go_simp; (try dsimp only); refine hK _ _ ?_; clear hK K; (try simp only [Act.put, Zs, Zz, Zc])
  refine wpList_plain rfl (fun K hK => ?_); go_simp; (go_at_call 36; refine (each_P _ 44 #[.pointer (some ⟨r2, 0, none⟩), .pointer (some ⟨r3, 0, none⟩)] [r2, r3] (Lw A w.heap.size) (SO r2 r3) _ _ Try.enter_c2 (chk2_step r2 r3 (by omega) _) (fun _ _ _ h hx => h.ext hx) (fun q hq => by have := hq.2; simp; omega) hv (true, 0) v _ ⟨b2, b3⟩ ht (fun q hq => by simp; omega)).mono ?_; intro e W10 hpp; obtain ⟨rfl, hs2, hx⟩ := hpp); (try dsimp only); refine hK _ _ ?_; clear hK K; (try simp only [Act.put, Zs, Zz, Zc])
  have ht_ := isT.gx hx (fun q hq => by have := hq.2; simp; omega) ht
  replace b0 := GrownX.blk hx b0 (by simp; omega)
  replace b1 := GrownX.blk hx b1 (by simp; omega)
  replace ht := ht_
  replace hE := ext_gx hE hx (by intro q hq; simp at hq; omega)
  clear hx
  clear b2 b3
  have b2 : Blk W10 r2 4 [.bool false] := by have hh : Blk W10 r2 4 [.bool (odA t).1] := hs2.1; rw [h2.out] at hh; exact hh
  have b3 := hs2.2
  clear hs2
  replace qz : r3 < W10.heap.size := b3.lt
  refine wpList_nil ?_
  go_upto_region 8 with fail
  refine wp_region_lit ?_
  refine wpList_plain rfl (fun K hK => ?_); have zc := b2.cell 0; go_simp; clear zc; (try dsimp only); refine hK _ _ ?_; clear hK K; (try simp only [Act.put, Zs, Zz, Zc])
  iterate 2 (refine wpList_plain rfl (fun K hK => ?_); go_simp; (try dsimp only); refine hK _ _ ?_; clear hK K; (try simp only [Act.put, Zs, Zz, Zc]))
  refine wpList_nil ?_
  go_upto_region 9 with fail
  refine wp_region_lit ?_
  refine wpList_plain rfl (fun K hK => ?_); go_simp; (try dsimp only); refine hK _ _ ?_; clear hK K; (try simp only [Act.put, Zs, Zz, Zc])
  refine wpList_nil ?_
  go_wp2_with fail
  go_ret
  exact ⟨rfl, hE⟩

set_option maxRecDepth 100000 in
set_option maxHeartbeats 1000000 in
theorem chk_11 {A : Nat → Prop} (t : BT) (v : TV) (w : World) (ht : isT A w t v) (h1 : avA t = true) (h2 : (odA t).1 = true) (h3 : numA t = false) :
    Calls Try.prog 22 #[.agg v.cs.toArray] w fun e w' => e = .returned (.int .i64 11) ∧ Ext w w' := by
  replace ht := ht.lw
  have hv := avA_all h1
  replace h1 : Hid (avA t = _) := h1
  replace h2 : Hid ((odA t).1 = _) := h2
  replace h3 : Hid (numA t = _) := h3
  go_enter Try.func22, Try.ntmps22
  go_upto_region 1 with fail
  refine name_wX (fun W1 hW => ?_)
  have hE : Ext w W1 := by rw [hW]; repeat' (first | exact Ext.refl _ | apply Ext.al)
  have b0 : Blk W1 (w.heap.size) 28 v.cs := by rw [hW]; exact Blk.newAt rfl
  clear hW
  obtain ⟨r0, hr0⟩ : ∃ r, r = w.heap.size := ⟨_, rfl⟩
  rw [← hr0] at b0
  try rw [← hr0]
  have q0 : w.heap.size ≤ r0 := by omega
  clear hr0
  have qz : r0 < W1.heap.size := b0.lt
  replace ht := isT.ext hE ht
  refine wp_region_lit ?_
  refine wpList_plain rfl (fun K hK => ?_); (first | (refine wp_ld 28 _ (b0.range) (by rfl) (by rfl) Try.underlying28 rfl (by exact Try.infoT) ?_)); (try dsimp only); refine hK _ _ ?_; clear hK K; (try simp only [Act.put, Zs, Zz, Zc])
  refine wpList_plain rfl (fun K hK => ?_); go_simp; (go_at_call 42; refine (formed_P _ _ _ _ ht).mono ?_; intro e W2 hpp; obtain ⟨rfl, hx⟩ := hpp); (try dsimp only); refine hK _ _ ?_; clear hK K; (try simp only [Act.put, Zs, Zz, Zc])
  replace b0 := b0.ext hx
  replace ht := isT.ext hx ht
  replace hE := hE.trans hx
  clear hx
  replace qz : r0 < W2.heap.size := b0.lt
  refine wpList_plain rfl (fun K hK => ?_); go_simp; (try dsimp only); refine hK _ _ ?_; clear hK K; (try simp only [Act.put, Zs, Zz, Zc])
  refine wpList_nil ?_
  go_upto_region 3 with fail
  refine wp_region_lit ?_
  refine wpList_plain rfl (fun K hK => ?_); go_simp; (try dsimp only); refine hK _ _ ?_; clear hK K; (try simp only [Act.put, Zs, Zz, Zc])
  refine name_wl (fun W3 hW => ?_)
  have hx : Ext W2 W3 := by rw [hW]; exact ext_alloc _ _
  have b1 : Blk W3 W2.heap.size 4 [.bool false] := by rw [hW]; exact Blk.newAt rfl
  clear hW
  replace b0 := b0.ext hx
  replace ht := isT.ext hx ht
  replace hE := hE.trans hx
  clear hx
  obtain ⟨r1, hr⟩ : ∃ r, r = W2.heap.size := ⟨_, rfl⟩
  rw [← hr] at b1
  try rw [← hr]
  have q1 : r0 < r1 := by omega
  clear hr
  replace qz : r1 < W3.heap.size := b1.lt
  refine wpList_plain rfl (fun K hK => ?_); go_simp; (try dsimp only); refine hK _ _ ?_; clear hK K; (try simp only [Act.put, Zs, Zz, Zc])
  refine name_wl (fun W4 hW => ?_)
  have hx : Ext W3 W4 := by rw [hW]; exact ext_alloc _ _
  have b2 : Blk W4 W3.heap.size 4 [.bool false] := by rw [hW]; exact Blk.newAt rfl
  clear hW
  replace b0 := b0.ext hx
  replace b1 := b1.ext hx
  replace ht := isT.ext hx ht
  replace hE := hE.trans hx
  clear hx
  obtain ⟨r2, hr⟩ : ∃ r, r = W3.heap.size := ⟨_, rfl⟩
  rw [← hr] at b2
  try rw [← hr]
  have q2 : r1 < r2 := by omega
  clear hr
  replace qz : r2 < W4.heap.size := b2.lt
  refine wpList_plain rfl (fun K hK => ?_); go_simp; (try dsimp only); refine hK _ _ ?_; clear hK K; (try simp only [Act.put, Zs, Zz, Zc])
  refine name_wl (fun W5 hW => ?_)
  have hx : Ext W4 W5 := by rw [hW]; exact ext_alloc _ _
  have b3 : Blk W5 W4.heap.size 3 [.int .i64 0] := by rw [hW]; exact Blk.newAt rfl
  clear hW
  replace b0 := b0.ext hx
  replace b1 := b1.ext hx
  replace b2 := b2.ext hx
  replace ht := isT.ext hx ht
  replace hE := hE.trans hx
  clear hx
  obtain ⟨r3, hr⟩ : ∃ r, r = W4.heap.size := ⟨_, rfl⟩
  rw [← hr] at b3
  try rw [← hr]
  have q3 : r2 < r3 := by omega
  clear hr
  replace qz : r3 < W5.heap.size := b3.lt
  refine wpList_plain rfl (fun K hK => ?_)
  have zc := b1.cell 0; have zf := b1.frozen 0; have zl := b1.lt; go_simp; clear zc zf zl
  (try dsimp only)
  refine name_k (fun W6 hW => ?_)
  have hg : W5.grownBy W6 (some r1) := by rw [hW]; exact grown_set _ _ _ _
  have bn := Blk.setW b1 hW
  replace b0 := b0.kept hg (Zn (by omega))
  replace b2 := b2.kept hg (Zn (by omega))
  replace b3 := b3.kept hg (Zn (by omega))
  replace ht := isT.kept hg (Lw.not (by omega)) ht
  replace hE := ext_grow hE hg (fun q hq => by cases hq; omega)
  clear b1 hg hW
  have b1 := bn
  clear bn
  replace qz : r3 < W6.heap.size := b3.lt
  (try dsimp only); refine hK _ _ ?_; clear hK K; (try simp only [Act.put, Zs, Zz, Zc])
  refine wpList_plain rfl (fun K hK => ?_)
  have zc := b2.cell 0; have zf := b2.frozen 0; have zl := b2.lt; go_simp; clear zc zf zl
  (try dsimp only)
  refine name_k (fun W7 hW => ?_)
  have hg : W6.grownBy W7 (some r2) := by rw [hW]; exact grown_set _ _ _ _
  have bn := Blk.setW b2 hW
  replace b0 := b0.kept hg (Zn (by omega))
  replace b1 := b1.kept hg (Zn (by omega))
  replace b3 := b3.kept hg (Zn (by omega))
  replace ht := isT.kept hg (Lw.not (by omega)) ht
  replace hE := ext_grow hE hg (fun q hq => by cases hq; omega)
  clear b2 hg hW
  have b2 := bn
  clear bn
  replace qz : r3 < W7.heap.size := b3.lt
  (try dsimp only); refine hK _ _ ?_; clear hK K; (try simp only [Act.put, Zs, Zz, Zc])
  refine wpList_plain rfl (fun K hK => ?_)
  have zc := b3.cell 0; have zf := b3.frozen 0; have zl := b3.lt; go_simp; clear zc zf zl
  (try dsimp only)
  refine name_k (fun W8 hW => ?_)
  have hg : W7.grownBy W8 (some r3) := by rw [hW]; exact grown_set _ _ _ _
  have bn := Blk.setW b3 hW
  replace b0 := b0.kept hg (Zn (by omega))
  replace b1 := b1.kept hg (Zn (by omega))
  replace b2 := b2.kept hg (Zn (by omega))
  replace ht := isT.kept hg (Lw.not (by omega)) ht
  replace hE := ext_grow hE hg (fun q hq => by cases hq; omega)
  clear b3 hg hW
  have b3 := bn
  clear bn
  replace qz : r3 < W8.heap.size := b3.lt
  (try dsimp only); refine hK _ _ ?_; clear hK K; (try simp only [Act.put, Zs, Zz, Zc])
  refine wpList_nil ?_
  replace b1 : Blk W8 r1 4 [.bool true] := b1
  replace b2 : Blk W8 r2 4 [.bool true] := b2
  replace b3 : Blk W8 r3 3 [.int .i64 0] := b3
  go_upto_region 4 with fail
  refine wp_region_lit ?_
  refine wpList_plain rfl (fun K hK => ?_); (first | (refine wp_ld 28 _ (b0.range) (by rfl) (by rfl) Try.underlying28 rfl (by exact Try.infoT) ?_)); (try dsimp only); refine hK _ _ ?_; clear hK K; (try simp only [Act.put, Zs, Zz, Zc])
  refine wpList_plain rfl (fun K hK => ?_); go_simp; (try dsimp only); refine hK _ _ ?_; clear hK K; (try simp only [Act.put, Zs, Zz, Zc])
  refine wpList_plain rfl (fun K hK => ?_); go_simp; (go_at_call 36; refine (each_P _ 43 #[.pointer (some ⟨r1, 0, none⟩)] [r1] (Lw A w.heap.size) (SB r1) _ _ Try.enter_c1 (chk1_step r1 _) (fun _ _ _ h hx => h.ext hx) (fun q hq => by have := hq.2; simp; omega) (fun _ _ => trivial) true v _ b1 ht (fun q hq => by simp; omega)).mono ?_; intro e W9 hpp; obtain ⟨rfl, hs2, hx⟩ := hpp); (try dsimp only); refine hK _ _ ?_; clear hK K; (try simp only [Act.put, Zs, Zz, Zc])
  have ht_ := isT.gx hx (fun q hq => by have := hq.2; simp; omega) ht
  replace b0 := GrownX.blk hx b0 (by simp; omega)
  replace b2 := GrownX.blk hx b2 (by simp; omega)
  replace b3 := GrownX.blk hx b3 (by simp; omega)
  replace ht := ht_
  replace hE := ext_gx hE hx (by intro q hq; simp at hq; omega)
  clear hx
  clear b1
  have b1 : Blk W9 r1 4 [.bool true] := by have hh : SB r1 (avA t) W9 := hs2; rw [h1.out] at hh; exact hh
  clear hs2
  replace qz : r3 < W9.heap.size := b3.lt
  refine wpList_nil ?_
  go_upto_region 5 with fail
  refine wp_region_lit ?_
  refine wpList_plain rfl (fun K hK => ?_); have zc := b1.cell 0; go_simp; clear zc; (try dsimp only); refine hK _ _ ?_; clear hK K; (try simp only [Act.put, Zs, Zz, Zc])
  refine wpList_plain rfl (fun K hK => ?_); go_simp; (try dsimp only); refine hK _ _ ?_; clear hK K; (try simp only [Act.put, Zs, Zz, Zc])
  refine wpList_nil ?_
  go_upto_region 7 with fail
  refine wp_region_lit ?_
  refine wpList_plain rfl (fun K hK => ?_); (first | (refine wp_ld 28 _ (b0.range) (by rfl) (by rfl) Try.underlying28 rfl (by exact Try.infoT) ?_)); (try dsimp only); refine hK _ _ ?_; clear hK K; (try simp only [Act.put, Zs, Zz, Zc])
  refine wpList_plain rfl (fun K hK => ?_); go_simp; (try dsimp only); refine hK _ _ ?_; clear hK K; (try simp only [Act.put, Zs, Zz, Zc])
  refine wpList_plain rfl (fun K hK => ?_); go_simp; (go_at_call 36; refine (each_P _ 44 #[.pointer (some ⟨r2, 0, none⟩), .pointer (some ⟨r3, 0, none⟩)] [r2, r3] (Lw A w.heap.size) (SO r2 r3) _ _ Try.enter_c2 (chk2_step r2 r3 (by omega) _) (fun _ _ _ h hx => h.ext hx) (fun q hq => by have := hq.2; simp; omega) hv (true, 0) v _ ⟨b2, b3⟩ ht (fun q hq => by simp; omega)).mono ?_; intro e W10 hpp; obtain ⟨rfl, hs2, hx⟩ := hpp); (try dsimp only); refine hK _ _ ?_; clear hK K; (try simp only [Act.put, Zs, Zz, Zc])
  have ht_ := isT.gx hx (fun q hq => by have := hq.2; simp; omega) ht
  replace b0 := GrownX.blk hx b0 (by simp; omega)
  replace b1 := GrownX.blk hx b1 (by simp; omega)
  replace ht := ht_
  replace hE := ext_gx hE hx (by intro q hq; simp at hq; omega)
  clear hx
  clear b2 b3
  have b2 : Blk W10 r2 4 [.bool true] := by have hh : Blk W10 r2 4 [.bool (odA t).1] := hs2.1; rw [h2.out] at hh; exact hh
  have b3 := hs2.2
  clear hs2
  replace qz : r3 < W10.heap.size := b3.lt
  refine wpList_nil ?_
  go_upto_region 8 with fail
  refine wp_region_lit ?_
  refine wpList_plain rfl (fun K hK => ?_); have zc := b2.cell 0; go_simp; clear zc; (try dsimp only); refine hK _ _ ?_; clear hK K; (try simp only [Act.put, Zs, Zz, Zc])
  iterate 2 (refine wpList_plain rfl (fun K hK => ?_); go_simp; (try dsimp only); refine hK _ _ ?_; clear hK K; (try simp only [Act.put, Zs, Zz, Zc]))
  refine wpList_nil ?_
  go_upto_region 10 with fail
  refine wp_region_lit ?_
  refine wpList_plain rfl (fun K hK => ?_); (first | (refine wp_ld 28 _ (b0.range) (by rfl) (by rfl) Try.underlying28 rfl (by exact Try.infoT) ?_)); (try dsimp only); refine hK _ _ ?_; clear hK K; (try simp only [Act.put, Zs, Zz, Zc])
  refine wpList_plain rfl (fun K hK => ?_); go_simp; (go_at_call 45; refine (numbered_is t v _ ht hv false h3.out).mono ?_; intro e W11 hpp; obtain ⟨rfl, hx⟩ := hpp); (try dsimp only); refine hK _ _ ?_; clear hK K; (try simp only [Act.put, Zs, Zz, Zc])
  replace b0 := b0.ext hx
  replace b1 := b1.ext hx
  replace b2 := b2.ext hx
  replace b3 := b3.ext hx
  replace ht := isT.ext hx ht
  replace hE := hE.trans hx
  clear hx
  replace qz : r3 < W11.heap.size := b3.lt
  iterate 2 (refine wpList_plain rfl (fun K hK => ?_); go_simp; (try dsimp only); refine hK _ _ ?_; clear hK K; (try simp only [Act.put, Zs, Zz, Zc]))
  refine wpList_nil ?_
  go_upto_region 11 with fail
  refine wp_region_lit ?_
  refine wpList_plain rfl (fun K hK => ?_); go_simp; (try dsimp only); refine hK _ _ ?_; clear hK K; (try simp only [Act.put, Zs, Zz, Zc])
  refine wpList_nil ?_
  go_wp2_with fail
  go_ret
  exact ⟨rfl, hE⟩

set_option maxRecDepth 100000 in
set_option maxHeartbeats 1000000 in
theorem chk_0 {A : Nat → Prop} (t : BT) (v : TV) (w : World) (ht : isT A w t v) (h1 : avA t = true) (h2 : (odA t).1 = true) (h3 : numA t = true) :
    Calls Try.prog 22 #[.agg v.cs.toArray] w fun e w' => e = .returned (.int .i64 0) ∧ Ext w w' := by
  replace ht := ht.lw
  have hv := avA_all h1
  replace h1 : Hid (avA t = _) := h1
  replace h2 : Hid ((odA t).1 = _) := h2
  replace h3 : Hid (numA t = _) := h3
  go_enter Try.func22, Try.ntmps22
  go_upto_region 1 with fail
  refine name_wX (fun W1 hW => ?_)
  have hE : Ext w W1 := by rw [hW]; repeat' (first | exact Ext.refl _ | apply Ext.al)
  have b0 : Blk W1 (w.heap.size) 28 v.cs := by rw [hW]; exact Blk.newAt rfl
  clear hW
  obtain ⟨r0, hr0⟩ : ∃ r, r = w.heap.size := ⟨_, rfl⟩
  rw [← hr0] at b0
  try rw [← hr0]
  have q0 : w.heap.size ≤ r0 := by omega
  clear hr0
  have qz : r0 < W1.heap.size := b0.lt
  replace ht := isT.ext hE ht
  refine wp_region_lit ?_
  refine wpList_plain rfl (fun K hK => ?_); (first | (refine wp_ld 28 _ (b0.range) (by rfl) (by rfl) Try.underlying28 rfl (by exact Try.infoT) ?_)); (try dsimp only); refine hK _ _ ?_; clear hK K; (try simp only [Act.put, Zs, Zz, Zc])
  refine wpList_plain rfl (fun K hK => ?_); go_simp; (go_at_call 42; refine (formed_P _ _ _ _ ht).mono ?_; intro e W2 hpp; obtain ⟨rfl, hx⟩ := hpp); (try dsimp only); refine hK _ _ ?_; clear hK K; (try simp only [Act.put, Zs, Zz, Zc])
  replace b0 := b0.ext hx
  replace ht := isT.ext hx ht
  replace hE := hE.trans hx
  clear hx
  replace qz : r0 < W2.heap.size := b0.lt
  refine wpList_plain rfl (fun K hK => ?_); go_simp; (try dsimp only); refine hK _ _ ?_; clear hK K; (try simp only [Act.put, Zs, Zz, Zc])
  refine wpList_nil ?_
  go_upto_region 3 with fail
  refine wp_region_lit ?_
  refine wpList_plain rfl (fun K hK => ?_); go_simp; (try dsimp only); refine hK _ _ ?_; clear hK K; (try simp only [Act.put, Zs, Zz, Zc])
  refine name_wl (fun W3 hW => ?_)
  have hx : Ext W2 W3 := by rw [hW]; exact ext_alloc _ _
  have b1 : Blk W3 W2.heap.size 4 [.bool false] := by rw [hW]; exact Blk.newAt rfl
  clear hW
  replace b0 := b0.ext hx
  replace ht := isT.ext hx ht
  replace hE := hE.trans hx
  clear hx
  obtain ⟨r1, hr⟩ : ∃ r, r = W2.heap.size := ⟨_, rfl⟩
  rw [← hr] at b1
  try rw [← hr]
  have q1 : r0 < r1 := by omega
  clear hr
  replace qz : r1 < W3.heap.size := b1.lt
  refine wpList_plain rfl (fun K hK => ?_); go_simp; (try dsimp only); refine hK _ _ ?_; clear hK K; (try simp only [Act.put, Zs, Zz, Zc])
  refine name_wl (fun W4 hW => ?_)
  have hx : Ext W3 W4 := by rw [hW]; exact ext_alloc _ _
  have b2 : Blk W4 W3.heap.size 4 [.bool false] := by rw [hW]; exact Blk.newAt rfl
  clear hW
  replace b0 := b0.ext hx
  replace b1 := b1.ext hx
  replace ht := isT.ext hx ht
  replace hE := hE.trans hx
  clear hx
  obtain ⟨r2, hr⟩ : ∃ r, r = W3.heap.size := ⟨_, rfl⟩
  rw [← hr] at b2
  try rw [← hr]
  have q2 : r1 < r2 := by omega
  clear hr
  replace qz : r2 < W4.heap.size := b2.lt
  refine wpList_plain rfl (fun K hK => ?_); go_simp; (try dsimp only); refine hK _ _ ?_; clear hK K; (try simp only [Act.put, Zs, Zz, Zc])
  refine name_wl (fun W5 hW => ?_)
  have hx : Ext W4 W5 := by rw [hW]; exact ext_alloc _ _
  have b3 : Blk W5 W4.heap.size 3 [.int .i64 0] := by rw [hW]; exact Blk.newAt rfl
  clear hW
  replace b0 := b0.ext hx
  replace b1 := b1.ext hx
  replace b2 := b2.ext hx
  replace ht := isT.ext hx ht
  replace hE := hE.trans hx
  clear hx
  obtain ⟨r3, hr⟩ : ∃ r, r = W4.heap.size := ⟨_, rfl⟩
  rw [← hr] at b3
  try rw [← hr]
  have q3 : r2 < r3 := by omega
  clear hr
  replace qz : r3 < W5.heap.size := b3.lt
  refine wpList_plain rfl (fun K hK => ?_)
  have zc := b1.cell 0; have zf := b1.frozen 0; have zl := b1.lt; go_simp; clear zc zf zl
  (try dsimp only)
  refine name_k (fun W6 hW => ?_)
  have hg : W5.grownBy W6 (some r1) := by rw [hW]; exact grown_set _ _ _ _
  have bn := Blk.setW b1 hW
  replace b0 := b0.kept hg (Zn (by omega))
  replace b2 := b2.kept hg (Zn (by omega))
  replace b3 := b3.kept hg (Zn (by omega))
  replace ht := isT.kept hg (Lw.not (by omega)) ht
  replace hE := ext_grow hE hg (fun q hq => by cases hq; omega)
  clear b1 hg hW
  have b1 := bn
  clear bn
  replace qz : r3 < W6.heap.size := b3.lt
  (try dsimp only); refine hK _ _ ?_; clear hK K; (try simp only [Act.put, Zs, Zz, Zc])
  refine wpList_plain rfl (fun K hK => ?_)
  have zc := b2.cell 0; have zf := b2.frozen 0; have zl := b2.lt; go_simp; clear zc zf zl
  (try dsimp only)
  refine name_k (fun W7 hW => ?_)
  have hg : W6.grownBy W7 (some r2) := by rw [hW]; exact grown_set _ _ _ _
  have bn := Blk.setW b2 hW
  replace b0 := b0.kept hg (Zn (by omega))
  replace b1 := b1.kept hg (Zn (by omega))
  replace b3 := b3.kept hg (Zn (by omega))
  replace ht := isT.kept hg (Lw.not (by omega)) ht
  replace hE := ext_grow hE hg (fun q hq => by cases hq; omega)
  clear b2 hg hW
  have b2 := bn
  clear bn
  replace qz : r3 < W7.heap.size := b3.lt
  (try dsimp only); refine hK _ _ ?_; clear hK K; (try simp only [Act.put, Zs, Zz, Zc])
  refine wpList_plain rfl (fun K hK => ?_)
  have zc := b3.cell 0; have zf := b3.frozen 0; have zl := b3.lt; go_simp; clear zc zf zl
  (try dsimp only)
  refine name_k (fun W8 hW => ?_)
  have hg : W7.grownBy W8 (some r3) := by rw [hW]; exact grown_set _ _ _ _
  have bn := Blk.setW b3 hW
  replace b0 := b0.kept hg (Zn (by omega))
  replace b1 := b1.kept hg (Zn (by omega))
  replace b2 := b2.kept hg (Zn (by omega))
  replace ht := isT.kept hg (Lw.not (by omega)) ht
  replace hE := ext_grow hE hg (fun q hq => by cases hq; omega)
  clear b3 hg hW
  have b3 := bn
  clear bn
  replace qz : r3 < W8.heap.size := b3.lt
  (try dsimp only); refine hK _ _ ?_; clear hK K; (try simp only [Act.put, Zs, Zz, Zc])
  refine wpList_nil ?_
  replace b1 : Blk W8 r1 4 [.bool true] := b1
  replace b2 : Blk W8 r2 4 [.bool true] := b2
  replace b3 : Blk W8 r3 3 [.int .i64 0] := b3
  go_upto_region 4 with fail
  refine wp_region_lit ?_
  refine wpList_plain rfl (fun K hK => ?_); (first | (refine wp_ld 28 _ (b0.range) (by rfl) (by rfl) Try.underlying28 rfl (by exact Try.infoT) ?_)); (try dsimp only); refine hK _ _ ?_; clear hK K; (try simp only [Act.put, Zs, Zz, Zc])
  refine wpList_plain rfl (fun K hK => ?_); go_simp; (try dsimp only); refine hK _ _ ?_; clear hK K; (try simp only [Act.put, Zs, Zz, Zc])
  refine wpList_plain rfl (fun K hK => ?_); go_simp; (go_at_call 36; refine (each_P _ 43 #[.pointer (some ⟨r1, 0, none⟩)] [r1] (Lw A w.heap.size) (SB r1) _ _ Try.enter_c1 (chk1_step r1 _) (fun _ _ _ h hx => h.ext hx) (fun q hq => by have := hq.2; simp; omega) (fun _ _ => trivial) true v _ b1 ht (fun q hq => by simp; omega)).mono ?_; intro e W9 hpp; obtain ⟨rfl, hs2, hx⟩ := hpp); (try dsimp only); refine hK _ _ ?_; clear hK K; (try simp only [Act.put, Zs, Zz, Zc])
  have ht_ := isT.gx hx (fun q hq => by have := hq.2; simp; omega) ht
  replace b0 := GrownX.blk hx b0 (by simp; omega)
  replace b2 := GrownX.blk hx b2 (by simp; omega)
  replace b3 := GrownX.blk hx b3 (by simp; omega)
  replace ht := ht_
  replace hE := ext_gx hE hx (by intro q hq; simp at hq; omega)
  clear hx
  clear b1
  have b1 : Blk W9 r1 4 [.bool true] := by have hh : SB r1 (avA t) W9 := hs2; rw [h1.out] at hh; exact hh
  clear hs2
  replace qz : r3 < W9.heap.size := b3.lt
  refine wpList_nil ?_
  go_upto_region 5 with fail
  refine wp_region_lit ?_
  refine wpList_plain rfl (fun K hK => ?_); have zc := b1.cell 0; go_simp; clear zc; (try dsimp only); refine hK _ _ ?_; clear hK K; (try simp only [Act.put, Zs, Zz, Zc])
  refine wpList_plain rfl (fun K hK => ?_); go_simp; (try dsimp only); refine hK _ _ ?_; clear hK K; (try simp only [Act.put, Zs, Zz, Zc])
  refine wpList_nil ?_
  go_upto_region 7 with fail
  refine wp_region_lit ?_
  refine wpList_plain rfl (fun K hK => ?_); (first | (refine wp_ld 28 _ (b0.range) (by rfl) (by rfl) Try.underlying28 rfl (by exact Try.infoT) ?_)); (try dsimp only); refine hK _ _ ?_; clear hK K; (try simp only [Act.put, Zs, Zz, Zc])
  refine wpList_plain rfl (fun K hK => ?_); go_simp; (try dsimp only); refine hK _ _ ?_; clear hK K; (try simp only [Act.put, Zs, Zz, Zc])
  refine wpList_plain rfl (fun K hK => ?_); go_simp; (go_at_call 36; refine (each_P _ 44 #[.pointer (some ⟨r2, 0, none⟩), .pointer (some ⟨r3, 0, none⟩)] [r2, r3] (Lw A w.heap.size) (SO r2 r3) _ _ Try.enter_c2 (chk2_step r2 r3 (by omega) _) (fun _ _ _ h hx => h.ext hx) (fun q hq => by have := hq.2; simp; omega) hv (true, 0) v _ ⟨b2, b3⟩ ht (fun q hq => by simp; omega)).mono ?_; intro e W10 hpp; obtain ⟨rfl, hs2, hx⟩ := hpp); (try dsimp only); refine hK _ _ ?_; clear hK K; (try simp only [Act.put, Zs, Zz, Zc])
  have ht_ := isT.gx hx (fun q hq => by have := hq.2; simp; omega) ht
  replace b0 := GrownX.blk hx b0 (by simp; omega)
  replace b1 := GrownX.blk hx b1 (by simp; omega)
  replace ht := ht_
  replace hE := ext_gx hE hx (by intro q hq; simp at hq; omega)
  clear hx
  clear b2 b3
  have b2 : Blk W10 r2 4 [.bool true] := by have hh : Blk W10 r2 4 [.bool (odA t).1] := hs2.1; rw [h2.out] at hh; exact hh
  have b3 := hs2.2
  clear hs2
  replace qz : r3 < W10.heap.size := b3.lt
  refine wpList_nil ?_
  go_upto_region 8 with fail
  refine wp_region_lit ?_
  refine wpList_plain rfl (fun K hK => ?_); have zc := b2.cell 0; go_simp; clear zc; (try dsimp only); refine hK _ _ ?_; clear hK K; (try simp only [Act.put, Zs, Zz, Zc])
  iterate 2 (refine wpList_plain rfl (fun K hK => ?_); go_simp; (try dsimp only); refine hK _ _ ?_; clear hK K; (try simp only [Act.put, Zs, Zz, Zc]))
  refine wpList_nil ?_
  go_upto_region 10 with fail
  refine wp_region_lit ?_
  refine wpList_plain rfl (fun K hK => ?_); (first | (refine wp_ld 28 _ (b0.range) (by rfl) (by rfl) Try.underlying28 rfl (by exact Try.infoT) ?_)); (try dsimp only); refine hK _ _ ?_; clear hK K; (try simp only [Act.put, Zs, Zz, Zc])
  refine wpList_plain rfl (fun K hK => ?_); go_simp; (go_at_call 45; refine (numbered_is t v _ ht hv true h3.out).mono ?_; intro e W11 hpp; obtain ⟨rfl, hx⟩ := hpp); (try dsimp only); refine hK _ _ ?_; clear hK K; (try simp only [Act.put, Zs, Zz, Zc])
  replace b0 := b0.ext hx
  replace b1 := b1.ext hx
  replace b2 := b2.ext hx
  replace b3 := b3.ext hx
  replace ht := isT.ext hx ht
  replace hE := hE.trans hx
  clear hx
  replace qz : r3 < W11.heap.size := b3.lt
  iterate 2 (refine wpList_plain rfl (fun K hK => ?_); go_simp; (try dsimp only); refine hK _ _ ?_; clear hK K; (try simp only [Act.put, Zs, Zz, Zc]))
  refine wpList_nil ?_
  go_upto_region 12 with fail
  refine wp_region_lit ?_
  refine wpList_plain rfl (fun K hK => ?_); go_simp; (try dsimp only); refine hK _ _ ?_; clear hK K; (try simp only [Act.put, Zs, Zz, Zc])
  refine wpList_nil ?_
  go_wp2_with fail
  go_ret
  exact ⟨rfl, hE⟩

theorem check_any {A : Nat → Prop} (t : BT) (v : TV) (w : World) (ht : isT A w t v) :
    Calls Try.prog 22 #[.agg v.cs.toArray] w fun e w' => e = .returned (.int .i64 (chkA t)) ∧ Ext w w' := by
  unfold chkA
  cases h1 : avA t with
  | false => rw [if_pos rfl]; exact chk_2 t v w ht h1
  | true =>
    rw [if_neg (by decide)]
    cases h2 : (odA t).1 with
    | false => rw [if_pos rfl]; exact chk_10 t v w ht h1 h2
    | true =>
      rw [if_neg (by decide)]
      cases h3 : numA t with
      | false => rw [if_pos rfl]; exact chk_11 t v w ht h1 h2 h3
      | true => rw [if_neg (by decide)]; exact chk_0 t v w ht h1 h2 h3

end Go.Proofs.Ytnbohogkfdeddaa
