/- Rangetree: numbered. -/
import Derived.Test.YtnbohogkfdeddaaRtt
set_option linter.unusedSimpArgs false
set_option linter.unusedVariables false
namespace Go.Proofs.Ytnbohogkfdeddaa
open Go.RowKit

theorem ext_gx {w X Y : World} {L : List Nat} (hE : Ext w X) (h : GrownX X L Y) (hL : ∀ g, L.contains g = true → w.heap.size ≤ g) : Ext w Y := by
  refine Ext.of_below (hE.below.trans ⟨h.os, h.tape, h.output, h.size, fun k hk => h.block k (Nat.lt_of_lt_of_le hk hE.below.size) ?_⟩)
  cases hc : L.contains k with
  | false => rfl
  | true => have := hL k hc; omega
def BT.h : BT → Int
  | .E => 0
  | .N h _ _ _ _ _ _ => h
def badN : BT → Bool
  | .E => false
  | .N h f l g a y b => badV ⟨h, f, l, g, y, .int .i64 0⟩ (nodeV (a.tv (.int .i64 0)) y (b.tv (.int .i64 0)) (.int .i64 0)) (W64 (a.h - b.h))
def numA (t : BT) : Bool := t.nodes.foldl (fun ok b => bif badN b then false else ok) true
theorem tv_h (b : BT) (k : Value) : (b.tv k).h = b.h := by cases b <;> rfl
theorem nodeV_k (a b : BT) (y : RV) (k k1 k2 : Value) : nodeV (a.tv k1) y (b.tv k2) k = nodeV (a.tv (.int .i64 0)) y (b.tv (.int .i64 0)) k := by cases a <;> cases b <;> rfl
theorem badN_eq {A : Nat → Prop} {w : World} {h f l g : Int} {a b : BT} {y : RV} {v va vb : TV} (ht : isT A w (.N h f l g a y b) v) (ta : isT A w a va) (tb : isT A w b vb) :
    badV v (nodeV va y vb (.int .i64 0)) (W64 (va.h - vb.h)) = badN (.N h f l g a y b) := by
  rw [isT_tv ht, isT_tv ta, isT_tv tb, nodeV_k, tv_h, tv_h]
  rfl
theorem num_step (r1 : Nat) (A : Nat → Prop) : StepOK 58 #[.pointer (some ⟨r1, 0, none⟩)] [r1] A (SB r1) (fun ok b => bif badN b then false else ok) (fun b => vld b.rg) := by
  intro ok b v w hs ht hb hv
  cases b with
  | E => exact absurd rfl hb
  | N h f l g a y b =>
    refine (num1 r1 ok A h f l g a b y v w hs hv ht).mono ?_
    rintro e w' ⟨he, ⟨va, vb, ta, tb, hS⟩, hG⟩
    rw [badN_eq ht ta tb] at hS
    exact ⟨he, hS, hG⟩
theorem Try.enter_num : ∀ args w, (callFunc 58 args).run Try.prog w = .ok (.enter 58 args) w := by
  intro args w
  go_simp

set_option maxRecDepth 100000 in
set_option maxHeartbeats 1000000 in
theorem numbered_any {A : Nat → Prop} (t : BT) (v : TV) (w : World) (ht : isT A w t v) (hv : ∀ b ∈ t.nodes, vld b.rg) :
    Calls Try.prog 45 #[.agg v.cs.toArray] w fun e w' => e = .returned (.bool (numA t)) ∧ Ext w w' := by
  replace ht := ht.lw
  go_enter Try.func45, Try.ntmps45
  go_upto_region 1 with fail
  refine name_wX (fun W1 hW => ?_)
  have hE : Ext w W1 := by rw [hW]; repeat' (first | exact Ext.refl _ | apply Ext.al)
  have b0 : Blk W1 (w.heap.size) 28 v.cs := by rw [hW]; exact Blk.newAt rfl
  clear hW
  obtain ⟨r0, hr0⟩ : ∃ r, r = w.heap.size := ⟨_, rfl⟩
  rw [← hr0] at b0
  try rw [← hr0]
  have q0 : w.heap.size ≤ r0 := by omega
  clear hr0
  have qz : r0 < W1.heap.size := b0.lt
  replace ht := isT.ext hE ht
  go_upto_region 1 with fail
  refine wp_region_lit ?_
  refine wpList_plain rfl (fun K hK => ?_); go_simp; (try dsimp only); refine hK _ _ ?_; clear hK K; (try simp only [Act.put, Zs, Zz, Zc])
  refine name_wl (fun W2 hW => ?_)
  have hx : Ext W1 W2 := by rw [hW]; exact ext_alloc _ _
  have b1 : Blk W2 W1.heap.size 4 [.bool false] := by rw [hW]; exact Blk.newAt rfl
  clear hW
  replace b0 := b0.ext hx
  replace ht := isT.ext hx ht
  replace hE := hE.trans hx
  clear hx
  obtain ⟨r1, hr⟩ : ∃ r, r = W1.heap.size := ⟨_, rfl⟩
  rw [← hr] at b1
  try rw [← hr]
  have q1 : r0 < r1 := by omega
  clear hr
  replace qz : r1 < W2.heap.size := b1.lt
  refine wpList_plain rfl (fun K hK => ?_)
  have zc := b1.cell 0; have zf := b1.frozen 0; have zl := b1.lt; go_simp; clear zc zf zl
  (try dsimp only)
  refine name_k (fun W3 hW => ?_)
  have hg : W2.grownBy W3 (some r1) := by rw [hW]; exact grown_set _ _ _ _
  have bn := Blk.setW b1 hW
  replace b0 := b0.kept hg (Zn (by omega))
  replace ht := isT.kept hg (Lw.not (by omega)) ht
  replace hE := ext_grow hE hg (fun q hq => by cases hq; omega)
  clear b1 hg hW
  have b1 := bn
  clear bn
  replace qz : r1 < W3.heap.size := b1.lt
  (try dsimp only); refine hK _ _ ?_; clear hK K; (try simp only [Act.put, Zs, Zz, Zc])
  refine wpList_nil ?_
  replace b1 : Blk W3 r1 4 [.bool true] := b1
  go_upto_region 2 with fail
  refine wp_region_lit ?_
  refine wpList_plain rfl (fun K hK => ?_); (first | (refine wp_ld 28 _ (b0.range) (by rfl) (by rfl) Try.underlying28 rfl (by exact Try.infoT) ?_)); (try dsimp only); refine hK _ _ ?_; clear hK K; (try simp only [Act.put, Zs, Zz, Zc])
  refine wpList_plain rfl (fun K hK => ?_); go_simp; (try dsimp only); refine hK _ _ ?_; clear hK K; (try simp only [Act.put, Zs, Zz, Zc])
  refine wpList_plain rfl (fun K hK => ?_); go_simp; (go_at_call 36; refine (each_P _ 58 #[.pointer (some ⟨r1, 0, none⟩)] [r1] (Lw A w.heap.size) (SB r1) _ _ Try.enter_num (num_step r1 _) (fun _ _ _ h hx => h.ext hx) (fun q hq => by have := hq.2; simp; omega) hv true v _ b1 ht (fun q hq => by simp; omega)).mono ?_; intro e W4 hpp; obtain ⟨rfl, hs2, hx⟩ := hpp); (try dsimp only); refine hK _ _ ?_; clear hK K; (try simp only [Act.put, Zs, Zz, Zc])
  have ht_ := isT.gx hx (fun q hq => by have := hq.2; simp; omega) ht
  replace b0 := GrownX.blk hx b0 (by simp; omega)
  replace ht := ht_
  replace hE := ext_gx hE hx (by intro q hq; simp at hq; omega)
  clear hx
  clear b1
  have b1 : Blk W4 r1 4 [.bool (numA t)] := hs2
  replace qz : r1 < W4.heap.size := b1.lt
  refine wpList_nil ?_
  go_upto_region 3 with fail
  refine wp_region_lit ?_
  refine wpList_plain rfl (fun K hK => ?_); have zc := b1.cell 0; go_simp; clear zc; (try dsimp only); refine hK _ _ ?_; clear hK K; (try simp only [Act.put, Zs, Zz, Zc])
  refine wpList_plain rfl (fun K hK => ?_); go_simp; (try dsimp only); refine hK _ _ ?_; clear hK K; (try simp only [Act.put, Zs, Zz, Zc])
  refine wpList_nil ?_
  go_wp2_with fail
  go_ret
  exact ⟨rfl, hE⟩

end Go.Proofs.Ytnbohogkfdeddaa
