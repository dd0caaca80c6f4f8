/- Rangetree: the reference: formed, regions. -/
/- Rangetree: the reference: numbered. -/
/- Rangetree: the reference: Check, List. -/
/- Rangetree: the reference: remove. -/
/- Rangetree: the reference: Insert, Delete. -/
/- Rangetree: the law RangetreeSteps. -/
import Derived.Test.YtnbohogkfdeddaaRug
import Derived.Test.YtnbohogkfdeddaaRui
import Derived.Test.YtnbohogkfdeddaaRuw
import Derived.Test.YtnbohogkfdeddaaRvc
import Derived.Test.YtnbohogkfdeddaaRuk
import Derived.Test.YtnbohogkfdeddaaRva
import Derived.Test.YtnbohogkfdeddaaRtp
import Derived.Test.YtnbohogkfdeddaaRvd
import Derived.Test.YtnbohogkfdeddaaRux
set_option linter.unusedSimpArgs false
set_option linter.unusedVariables false
namespace Go.Proofs.Ytnbohogkfdeddaa
open Go.RowKit

/-- W has grown out of w but for the row k; u is the row now. -/
structure RW (w : World) (k : Option Nat) (W : World) (u : Value) : Prop where
  g : w.grownBy W k
  r : u.ownBlock = k ∨ ∃ b, u.ownBlock = some b ∧ w.heap.size ≤ b
theorem RW.of_ext {w W : World} {u : Value} (h : Ext w W) : RW w u.ownBlock W u := ⟨grown_ext h _, .inl rfl⟩
theorem RW.trans {w W W' : World} {k : Option Nat} {u u' : Value} (h : RW w k W u) (h' : RW W u.ownBlock W' u') : RW w k W' u' := by
  obtain ⟨g1, r1⟩ := h
  obtain ⟨g2, r2⟩ := h'
  refine ⟨⟨g2.os.trans g1.os, g2.tape.trans g1.tape, g2.output.trans g1.output, Nat.le_trans g1.size g2.size, fun b hb hk => ?_⟩, ?_⟩
  · refine (g2.block b (Nat.lt_of_lt_of_le hb g1.size) (fun e => ?_)).trans (g1.block b hb hk)
    rcases r1 with h | ⟨c, h, hc⟩
    · exact hk (e.trans h)
    · rw [h] at e
      cases e
      omega
  · rcases r2 with h | ⟨c, h, hc⟩
    · rw [h]; exact r1
    · exact .inr ⟨c, h, Nat.le_trans g1.size hc⟩
theorem RW.ext {w W W' : World} {k : Option Nat} {u : Value} (h : RW w k W u) (hE : Ext W W') : RW w k W' u := h.trans (RW.of_ext hE)
/-- A block that is there and is not the row. -/
def NR (W : World) (u : Value) (g : Nat) : Prop := g < W.heap.size ∧ u.ownBlock ≠ some g
theorem NR.rw {W W' : World} {u u' : Value} {g : Nat} (h : NR W u g) (hx : RW W u.ownBlock W' u') : NR W' u' g := by
  refine ⟨Nat.lt_of_lt_of_le h.1 hx.g.size, fun e => ?_⟩
  rcases hx.r with r | ⟨b, r, hb⟩
  · exact h.2 (r.symm.trans e)
  · rw [r] at e
    cases e
    have := h.1
    omega
theorem NR.ext {W W' : World} {u : Value} {g : Nat} (h : NR W u g) (hE : Ext W W') : NR W' u g := ⟨Nat.lt_of_lt_of_le h.1 hE.below.size, h.2⟩
theorem RW.blk {W W' : World} {u u' : Value} {r : Nat} {T : TypeId} {cs : List Value} (hx : RW W u.ownBlock W' u') (h : NR W u r) (b : Blk W r T cs) : Blk W' r T cs := b.kept hx.g (fun e => h.2 e.symm)
theorem RW.range {W W' : World} {u u' : Value} {g o : Nat} {cs : List Value} (hx : RW W u.ownBlock W' u') (h : NR W u g) (b : W.rangeAt g o cs) : W'.rangeAt g o cs := rangeAt.kept b h.1 hx.g (fun e => h.2 e.symm)
theorem isT.rw {A : Nat → Prop} {w w' : World} {u u' : Value} (hx : RW w u.ownBlock w' u') (hL : ∀ g, A g → NR w u g) : ∀ {t : BT} {v : TV}, isT A w t v → isT A w' t v
  | .E, v, h => h
  | .N _ _ _ _ a x b, v, ⟨h1, h2, h3, h4, h5, h6, r, o, c, va, vb, h7, h8, h9, hr, h10, h11, h12, h13⟩ =>
    ⟨h1, h2, h3, h4, h5, h6, r, o, c, va, vb, h7, h8, Nat.lt_of_lt_of_le h9 hx.g.size, hr, hx.range (hL r hr) h10, hx.range (hL r hr) h11, isT.rw hx hL h12, isT.rw hx hL h13⟩
theorem eqR_zz : eqR RV.z RV.z = true := (eqR_iff _ _).2 rfl
/-- The regions of a tree, in order. -/
def BT.regs : BT → List RV
  | .E => []
  | .N _ _ _ _ a x b => a.regs ++ x :: b.regs
theorem regs_flat : ∀ p : PT, p.bt.regs = p.flat
  | .E => rfl
  | .N l x r => by
    show l.bt.regs ++ x :: r.bt.regs = l.flat ++ x :: r.flat
    rw [regs_flat l, regs_flat r]
set_option maxRecDepth 100000 in
set_option maxHeartbeats 4000000 in
theorem rempty_E {A : Nat → Prop} (v : TV) (w : World) (ht : isT A w .E v) :
    Calls Try.prog 59 #[.agg v.cs.toArray] w fun e w' => e = .returned (.bool true) ∧ Ext w w' := by
  obtain ⟨e1, e2, e3, e4, e5, ka, c, hk⟩ := ht
  obtain ⟨h, f, l, gg, x, k⟩ := v
  dsimp only at e1 e2 e3 e4 e5 hk
  subst h f l gg x k
  go_enter Try.func59, Try.ntmps59
  go_upto_region 1 with fail
  refine name_wX (fun W1 hW => ?_)
  have hE : Ext w W1 := by rw [hW]; repeat' (first | exact Ext.refl _ | apply Ext.al)
  have b0 : Blk W1 (w.heap.size) 28 (TV.cs ⟨0, 0, 0, 0, RV.z, .slice ka 0 c⟩) := by rw [hW]; exact Blk.newAt rfl
  clear hW
  obtain ⟨r0, hr0⟩ : ∃ r, r = w.heap.size := ⟨_, rfl⟩
  rw [← hr0] at b0
  try rw [← hr0]
  have q0 : w.heap.size ≤ r0 := by omega
  clear hr0
  have qz : r0 < W1.heap.size := b0.lt
  go_upto_region 1 with fail
  refine wp_region_lit ?_
  refine wpList_plain rfl (fun K hK => ?_); go_simp; (try dsimp only); refine hK _ _ ?_; clear hK K; (try simp only [Act.put, Zs, Zz, Zc])
  refine wpList_plain rfl (fun K hK => ?_); have zc := b0.cell 0; go_simp; clear zc; (try simp only [beq_self_eq_true, eqR_zz]); (try dsimp only); refine hK _ _ ?_; clear hK K; (try simp only [Act.put, Zs, Zz, Zc])
  refine wpList_plain rfl (fun K hK => ?_); go_simp; (try simp (disch := omega) only [Yq, Yr]); (try simp only [beq_self_eq_true, eqR_zz]); (try dsimp only); refine hK _ _ ?_; clear hK K; (try simp only [Act.put, Zs, Zz, Zc])
  refine wpList_plain rfl (fun K hK => ?_); go_simp; (try dsimp only); refine hK _ _ ?_; clear hK K; (try simp only [Act.put, Zs, Zz, Zc])
  refine wpList_step (fun K hK => ?_); rw [if_pos (by rfl)]; go_simp; (try dsimp only); refine hK _ _ ?_; clear hK K; (try simp only [Act.put, Zs, Zz, Zc])
  refine wpList_step (fun K hK => ?_); rw [if_pos (by rfl)]; have zc := b0.cell 1; go_simp; clear zc; (try simp only [beq_self_eq_true, eqR_zz]); (try dsimp only); refine hK _ _ ?_; clear hK K; (try simp only [Act.put, Zs, Zz, Zc])
  refine wpList_step (fun K hK => ?_); rw [if_pos (by rfl)]; go_simp; (try simp (disch := omega) only [Yq, Yr]); (try simp only [beq_self_eq_true, eqR_zz]); (try dsimp only); refine hK _ _ ?_; clear hK K; (try simp only [Act.put, Zs, Zz, Zc])
  iterate 2 (refine wpList_plain rfl (fun K hK => ?_); go_simp; (try dsimp only); refine hK _ _ ?_; clear hK K; (try simp only [Act.put, Zs, Zz, Zc]))
  refine wpList_step (fun K hK => ?_); rw [if_pos (by rfl)]; go_simp; (try dsimp only); refine hK _ _ ?_; clear hK K; (try simp only [Act.put, Zs, Zz, Zc])
  refine wpList_step (fun K hK => ?_); rw [if_pos (by rfl)]; have zc := b0.cell 2; go_simp; clear zc; (try simp only [beq_self_eq_true, eqR_zz]); (try dsimp only); refine hK _ _ ?_; clear hK K; (try simp only [Act.put, Zs, Zz, Zc])
  refine wpList_step (fun K hK => ?_); rw [if_pos (by rfl)]; go_simp; (try simp (disch := omega) only [Yq, Yr]); (try simp only [beq_self_eq_true, eqR_zz]); (try dsimp only); refine hK _ _ ?_; clear hK K; (try simp only [Act.put, Zs, Zz, Zc])
  iterate 2 (refine wpList_plain rfl (fun K hK => ?_); go_simp; (try dsimp only); refine hK _ _ ?_; clear hK K; (try simp only [Act.put, Zs, Zz, Zc]))
  refine wpList_step (fun K hK => ?_); rw [if_pos (by rfl)]; go_simp; (try dsimp only); refine hK _ _ ?_; clear hK K; (try simp only [Act.put, Zs, Zz, Zc])
  refine wpList_step (fun K hK => ?_); rw [if_pos (by rfl)]; have zc := b0.cell 3; go_simp; clear zc; (try simp only [beq_self_eq_true, eqR_zz]); (try dsimp only); refine hK _ _ ?_; clear hK K; (try simp only [Act.put, Zs, Zz, Zc])
  refine wpList_step (fun K hK => ?_); rw [if_pos (by rfl)]; go_simp; (try simp (disch := omega) only [Yq, Yr]); (try simp only [beq_self_eq_true, eqR_zz]); (try dsimp only); refine hK _ _ ?_; clear hK K; (try simp only [Act.put, Zs, Zz, Zc])
  iterate 2 (refine wpList_plain rfl (fun K hK => ?_); go_simp; (try dsimp only); refine hK _ _ ?_; clear hK K; (try simp only [Act.put, Zs, Zz, Zc]))
  refine wpList_step (fun K hK => ?_); rw [if_pos (by rfl)]; go_simp; (try dsimp only); refine hK _ _ ?_; clear hK K; (try simp only [Act.put, Zs, Zz, Zc])
  refine wpList_step (fun K hK => ?_); rw [if_pos (by rfl)]; (first | (refine wp_ld 25 _ (Blk.rgn b0) (by rfl) (by rfl) Try.underlying25 rfl (by exact Try.infoR) ?_)); (try dsimp only); refine hK _ _ ?_; clear hK K; (try simp only [Act.put, Zs, Zz, Zc])
  refine wpList_step (fun K hK => ?_); rw [if_pos (by rfl)]; go_simp; (try dsimp only); refine hK _ _ ?_; clear hK K; (try simp only [Act.put, Zs, Zz, Zc])
  refine wpList_step (fun K hK => ?_); rw [if_pos (by rfl)]; (first | refine wp_eqlR _ _ (by rfl) (by rfl) (by rfl) ?_ | refine wp_eqlR (v := RV.z) _ _ (by rfl) (by rfl) (by rfl) ?_); (try simp only [beq_self_eq_true, eqR_zz]); (try dsimp only); refine hK _ _ ?_; clear hK K; (try simp only [Act.put, Zs, Zz, Zc])
  iterate 2 (refine wpList_plain rfl (fun K hK => ?_); go_simp; (try dsimp only); refine hK _ _ ?_; clear hK K; (try simp only [Act.put, Zs, Zz, Zc]))
  refine wpList_step (fun K hK => ?_); rw [if_pos (by rfl)]; go_simp; (try dsimp only); refine hK _ _ ?_; clear hK K; (try simp only [Act.put, Zs, Zz, Zc])
  refine wpList_step (fun K hK => ?_); rw [if_pos (by rfl)]; have zc := b0.cell 10; go_simp; clear zc; (try simp only [beq_self_eq_true, eqR_zz]); (try dsimp only); refine hK _ _ ?_; clear hK K; (try simp only [Act.put, Zs, Zz, Zc])
  refine wpList_step (fun K hK => ?_); rw [if_pos (by rfl)]; go_simp; (try dsimp only); refine hK _ _ ?_; clear hK K; (try simp only [Act.put, Zs, Zz, Zc])
  refine wpList_step (fun K hK => ?_); rw [if_pos (by rfl)]; go_simp; (try simp (disch := omega) only [Yq, Yr]); (try simp only [beq_self_eq_true, eqR_zz]); (try dsimp only); refine hK _ _ ?_; clear hK K; (try simp only [Act.put, Zs, Zz, Zc])
  iterate 2 (refine wpList_plain rfl (fun K hK => ?_); go_simp; (try dsimp only); refine hK _ _ ?_; clear hK K; (try simp only [Act.put, Zs, Zz, Zc]))
  refine wpList_nil ?_
  go_wp2_with fail
  go_ret
  exact ⟨rfl, hE⟩

def FormOK (t : BT) : Prop := ∀ (A : Nat → Prop) (v : TV) (w : World), isT A w t v →
  Calls Try.prog 47 #[.agg v.cs.toArray] w fun e w' => e = .returned (.bool true) ∧ Ext w w'
set_option maxRecDepth 100000 in
set_option maxHeartbeats 4000000 in
theorem rform_E : FormOK .E := by
  intro A v w ht
  have HT := ht
  obtain ⟨e1, e2, e3, e4, e5, ka, c, hk⟩ := ht
  obtain ⟨h, f, l, gg, x, k⟩ := v
  dsimp only at e1 e2 e3 e4 e5 hk
  subst h f l gg x k
  go_enter Try.func47, Try.ntmps47
  go_upto_region 1 with fail
  refine name_wX (fun W1 hW => ?_)
  have hE : Ext w W1 := by rw [hW]; repeat' (first | exact Ext.refl _ | apply Ext.al)
  have b0 : Blk W1 (w.heap.size) 28 (TV.cs ⟨0, 0, 0, 0, RV.z, .slice ka 0 c⟩) := by rw [hW]; exact Blk.newAt rfl
  clear hW
  obtain ⟨r0, hr0⟩ : ∃ r, r = w.heap.size := ⟨_, rfl⟩
  rw [← hr0] at b0
  try rw [← hr0]
  have q0 : w.heap.size ≤ r0 := by omega
  clear hr0
  have qz : r0 < W1.heap.size := b0.lt
  go_upto_region 1 with fail
  refine wp_region_lit ?_
  refine wpList_plain rfl (fun K hK => ?_); go_simp; (try dsimp only); refine hK _ _ ?_; clear hK K; (try simp only [Act.put, Zs, Zz, Zc])
  refine wpList_plain rfl (fun K hK => ?_); have zc := b0.cell 0; go_simp; clear zc; (try simp only [beq_self_eq_true]); (try dsimp only); refine hK _ _ ?_; clear hK K; (try simp only [Act.put, Zs, Zz, Zc])
  refine wpList_plain rfl (fun K hK => ?_); go_simp; (try simp (disch := omega) only [Yq, Yr]); (try simp only [beq_self_eq_true]); (try dsimp only); refine hK _ _ ?_; clear hK K; (try simp only [Act.put, Zs, Zz, Zc])
  refine wpList_nil ?_
  go_upto_region 2 with fail
  refine wp_region_lit ?_
  refine wpList_plain rfl (fun K hK => ?_); (first | (refine wp_ld 28 _ (b0.range) (by rfl) (by rfl) Try.underlying28 rfl (by exact Try.infoT) ?_)); (try dsimp only); refine hK _ _ ?_; clear hK K; (try simp only [Act.put, Zs, Zz, Zc])
  refine wpList_plain rfl (fun K hK => ?_); go_simp; (go_at_call 59; refine (rempty_E (A := A) _ _ (HT.ext hE)).mono ?_; intro e W2 hpp; obtain ⟨rfl, hx⟩ := hpp); (try dsimp only); refine hK _ _ ?_; clear hK K; (try simp only [Act.put, Zs, Zz, Zc])
  replace b0 := b0.ext hx
  replace hE := hE.trans hx
  clear hx
  replace qz : r0 < W2.heap.size := b0.lt
  refine wpList_plain rfl (fun K hK => ?_); go_simp; (try dsimp only); refine hK _ _ ?_; clear hK K; (try simp only [Act.put, Zs, Zz, Zc])
  refine wpList_nil ?_
  go_wp2_with fail
  go_ret
  exact ⟨rfl, hE⟩

set_option maxRecDepth 100000 in
set_option maxHeartbeats 4000000 in
theorem rform_N {h f l gg : Int} {a b : BT} {y : RV} (iha : FormOK a) (ihb : FormOK b) : FormOK (.N h f l gg a y b) := by
  intro A v w ht
  obtain ⟨e1, e2, e3, e4, e5, e6, g, o, c, va, vb, hk, hc, hgw, hAg, hra, hrb, ta, tb⟩ := ht
  obtain ⟨vh, vf, vl, vg, vx, vk⟩ := v
  dsimp only at e1 e2 e3 e4 e5 hk
  subst vh vf vl vg vx vk
  have hcI : (2 : Int) ≤ (c : Int) := by omega
  have hh0 : (h == 0) = false := by simpa using e6
  clear e6
  go_enter Try.func47, Try.ntmps47
  go_upto_region 1 with fail
  refine name_wX (fun W1 hW => ?_)
  have hE : Ext w W1 := by rw [hW]; repeat' (first | exact Ext.refl _ | apply Ext.al)
  have b0 : Blk W1 (w.heap.size) 28 (TV.cs ⟨h, f, l, gg, y, .slice (some ⟨g, o, none⟩) 2 c⟩) := by rw [hW]; exact Blk.newAt rfl
  clear hW
  obtain ⟨r0, hr0⟩ : ∃ r, r = w.heap.size := ⟨_, rfl⟩
  rw [← hr0] at b0
  try rw [← hr0]
  have q0 : w.heap.size ≤ r0 := by omega
  clear hr0
  have qz : r0 < W1.heap.size := b0.lt
  replace ta := isT.ext hE ta
  replace tb := isT.ext hE tb
  replace hra := rangeAt.ext hra hgw hE
  replace hrb := rangeAt.ext hrb hgw hE
  replace hgw := Nat.lt_of_lt_of_le hgw hE.below.size
  go_upto_region 1 with fail
  refine wp_region_lit ?_
  refine wpList_plain rfl (fun K hK => ?_); go_simp; (try dsimp only); refine hK _ _ ?_; clear hK K; (try simp only [Act.put, Zs, Zz, Zc])
  refine wpList_plain rfl (fun K hK => ?_); have zc := b0.cell 0; go_simp; clear zc; (try simp only [hh0]); (try dsimp only); refine hK _ _ ?_; clear hK K; (try simp only [Act.put, Zs, Zz, Zc])
  refine wpList_plain rfl (fun K hK => ?_); go_simp; (try simp (disch := omega) only [Yq, Yr]); (try simp only [hh0]); (try dsimp only); refine hK _ _ ?_; clear hK K; (try simp only [Act.put, Zs, Zz, Zc])
  refine wpList_nil ?_
  go_upto_region 3 with fail
  refine wp_region_lit ?_
  refine wpList_plain rfl (fun K hK => ?_); go_simp; (try dsimp only); refine hK _ _ ?_; clear hK K; (try simp only [Act.put, Zs, Zz, Zc])
  refine wpList_plain rfl (fun K hK => ?_); have zc := b0.cell 10; go_simp; clear zc; (try simp only [beq_self_eq_true]); (try dsimp only); refine hK _ _ ?_; clear hK K; (try simp only [Act.put, Zs, Zz, Zc])
  refine wpList_plain rfl (fun K hK => ?_); go_simp; (try dsimp only); refine hK _ _ ?_; clear hK K; (try simp only [Act.put, Zs, Zz, Zc])
  refine wpList_plain rfl (fun K hK => ?_); go_simp; (try simp (disch := omega) only [Yq, Yr]); (try simp only [beq_self_eq_true]); (try dsimp only); refine hK _ _ ?_; clear hK K; (try simp only [Act.put, Zs, Zz, Zc])
  refine wpList_plain rfl (fun K hK => ?_); go_simp; (try dsimp only); refine hK _ _ ?_; clear hK K; (try simp only [Act.put, Zs, Zz, Zc])
  refine wpList_step (fun K hK => ?_); rw [if_pos (by rfl)]; go_simp; (try dsimp only); refine hK _ _ ?_; clear hK K; (try simp only [Act.put, Zs, Zz, Zc])
  refine wpList_step (fun K hK => ?_); rw [if_pos (by rfl)]; have zc := b0.cell 10; go_simp; clear zc; (try simp only [beq_self_eq_true]); (try dsimp only); refine hK _ _ ?_; clear hK K; (try simp only [Act.put, Zs, Zz, Zc])
  refine wpList_step (fun K hK => ?_); rw [if_pos (by rfl)]; go_simp; (try dsimp only); refine hK _ _ ?_; clear hK K; (try simp only [Act.put, Zs, Zz, Zc])
  refine wpList_step (fun K hK => ?_); rw [if_pos (by rfl)]; (first | (refine wp_ld 28 _ (hra) (by rfl) (by rfl) Try.underlying28 rfl (by exact Try.infoT) ?_) | (refine wp_ld 28 _ (hrb) (by rfl) (by rfl) Try.underlying28 rfl (by exact Try.infoT) ?_)); (try dsimp only); refine hK _ _ ?_; clear hK K; (try simp only [Act.put, Zs, Zz, Zc])
  refine wpList_step (fun K hK => ?_); rw [if_pos (by rfl)]; go_simp; (go_at_call 47; refine (iha A _ _ ta).mono ?_; intro e W2 hpp; obtain ⟨rfl, hx⟩ := hpp); (try dsimp only); refine hK _ _ ?_; clear hK K; (try simp only [Act.put, Zs, Zz, Zc])
  replace b0 := b0.ext hx
  replace ta := isT.ext hx ta
  replace tb := isT.ext hx tb
  replace hra := rangeAt.ext hra hgw hx
  replace hrb := rangeAt.ext hrb hgw hx
  replace hgw := Nat.lt_of_lt_of_le hgw hx.below.size
  replace hE := hE.trans hx
  clear hx
  replace qz : r0 < W2.heap.size := b0.lt
  iterate 2 (refine wpList_plain rfl (fun K hK => ?_); go_simp; (try dsimp only); refine hK _ _ ?_; clear hK K; (try simp only [Act.put, Zs, Zz, Zc]))
  refine wpList_step (fun K hK => ?_); rw [if_pos (by rfl)]; go_simp; (try dsimp only); refine hK _ _ ?_; clear hK K; (try simp only [Act.put, Zs, Zz, Zc])
  refine wpList_step (fun K hK => ?_); rw [if_pos (by rfl)]; have zc := b0.cell 10; go_simp; clear zc; (try simp only [beq_self_eq_true]); (try dsimp only); refine hK _ _ ?_; clear hK K; (try simp only [Act.put, Zs, Zz, Zc])
  refine wpList_step (fun K hK => ?_); rw [if_pos (by rfl)]; go_simp; (try dsimp only); refine hK _ _ ?_; clear hK K; (try simp only [Act.put, Zs, Zz, Zc])
  refine wpList_step (fun K hK => ?_); rw [if_pos (by rfl)]; (first | (refine wp_ld 28 _ (hra) (by rfl) (by rfl) Try.underlying28 rfl (by exact Try.infoT) ?_) | (refine wp_ld 28 _ (hrb) (by rfl) (by rfl) Try.underlying28 rfl (by exact Try.infoT) ?_)); (try dsimp only); refine hK _ _ ?_; clear hK K; (try simp only [Act.put, Zs, Zz, Zc])
  refine wpList_step (fun K hK => ?_); rw [if_pos (by rfl)]; go_simp; (go_at_call 47; refine (ihb A _ _ tb).mono ?_; intro e W3 hpp; obtain ⟨rfl, hx⟩ := hpp); (try dsimp only); refine hK _ _ ?_; clear hK K; (try simp only [Act.put, Zs, Zz, Zc])
  replace b0 := b0.ext hx
  replace ta := isT.ext hx ta
  replace tb := isT.ext hx tb
  replace hra := rangeAt.ext hra hgw hx
  replace hrb := rangeAt.ext hrb hgw hx
  replace hgw := Nat.lt_of_lt_of_le hgw hx.below.size
  replace hE := hE.trans hx
  clear hx
  replace qz : r0 < W3.heap.size := b0.lt
  iterate 2 (refine wpList_plain rfl (fun K hK => ?_); go_simp; (try dsimp only); refine hK _ _ ?_; clear hK K; (try simp only [Act.put, Zs, Zz, Zc]))
  refine wpList_nil ?_
  go_wp2_with fail
  go_ret
  exact ⟨rfl, hE⟩
theorem rform_P : ∀ t : BT, FormOK t
  | .E => rform_E
  | .N _ _ _ _ a _ b => rform_N (rform_P a) (rform_P b)
def RegsOK (t : BT) : Prop := ∀ (A : Nat → Prop) (base : Nat) (L : List RV) (u : Value) (v : TV) (w : World), ownR w base u L → isT A w t v → (∀ g, A g → NR w u g) → base ≤ w.heap.size → L.length + t.regs.length ≤ 90000 →
  Calls Try.prog 48 #[.agg v.cs.toArray, u] w fun e w' => ∃ u', e = .returned u' ∧ ownR w' base u' (L ++ t.regs) ∧ RW w u.ownBlock w' u'
set_option maxRecDepth 100000 in
set_option maxHeartbeats 4000000 in
theorem rregs_E : RegsOK .E := by
  intro A base L u v w hown ht hAK hb hlen
  obtain ⟨ad, cu, rfl⟩ := hown.shape
  obtain ⟨e1, e2, e3, e4, e5, ka, c, hk⟩ := ht
  obtain ⟨h, f, l, gg, x, k⟩ := v
  dsimp only at e1 e2 e3 e4 e5 hk
  subst h f l gg x k
  go_enter Try.func48, Try.ntmps48
  go_upto_region 1 with fail
  refine name_wX (fun W1 hW => ?_)
  have hE : Ext w W1 := by rw [hW]; repeat' (first | exact Ext.refl _ | apply Ext.al)
  have b0 : Blk W1 (w.heap.size) 28 (TV.cs ⟨0, 0, 0, 0, RV.z, .slice ka 0 c⟩) := by rw [hW]; exact Blk.newAt rfl
  clear hW
  obtain ⟨r0, hr0⟩ : ∃ r, r = w.heap.size := ⟨_, rfl⟩
  rw [← hr0] at b0
  try rw [← hr0]
  have q0 : w.heap.size ≤ r0 := by omega
  clear hr0
  have qz : r0 < W1.heap.size := b0.lt
  go_upto_region 1 with fail
  refine wp_region_lit ?_
  refine wpList_plain rfl (fun K hK => ?_); go_simp; (try dsimp only); refine hK _ _ ?_; clear hK K; (try simp only [Act.put, Zs, Zz, Zc])
  refine wpList_plain rfl (fun K hK => ?_); have zc := b0.cell 0; go_simp; clear zc; (try simp only [beq_self_eq_true]); (try dsimp only); refine hK _ _ ?_; clear hK K; (try simp only [Act.put, Zs, Zz, Zc])
  refine wpList_plain rfl (fun K hK => ?_); go_simp; (try simp (disch := omega) only [Yq, Yr]); (try simp only [beq_self_eq_true]); (try dsimp only); refine hK _ _ ?_; clear hK K; (try simp only [Act.put, Zs, Zz, Zc])
  refine wpList_nil ?_
  go_upto_region 2 with fail
  refine wp_region_lit ?_
  iterate 2 (refine wpList_plain rfl (fun K hK => ?_); go_simp; (try dsimp only); refine hK _ _ ?_; clear hK K; (try simp only [Act.put, Zs, Zz, Zc]))
  refine wpList_nil ?_
  go_wp2_with fail
  go_ret
  exact ⟨_, rfl, by simpa [BT.regs] using hown.ext hE, RW.of_ext hE⟩

set_option maxRecDepth 100000 in
set_option maxHeartbeats 4000000 in
theorem rregs_N {h f l gg : Int} {a b : BT} {y : RV} (iha : RegsOK a) (ihb : RegsOK b) : RegsOK (.N h f l gg a y b) := by
  intro A base L u v w hown ht hAK hb hlen
  obtain ⟨ad, cu, rfl⟩ := hown.shape
  have hl1 : L.length + a.regs.length ≤ 90000 := by simp only [BT.regs, List.length_append, List.length_cons] at hlen; omega
  have hl2 : (L ++ a.regs).length + [y].length ≤ 100000 := by simp only [BT.regs, List.length_append, List.length_cons, List.length_nil] at hlen ⊢; omega
  have hl3 : (L ++ a.regs ++ [y]).length + b.regs.length ≤ 90000 := by simp only [BT.regs, List.length_append, List.length_cons, List.length_nil] at hlen ⊢; omega
  replace hl1 : Hid _ := hl1
  replace hl2 : Hid _ := hl2
  replace hl3 : Hid _ := hl3
  clear hlen
  obtain ⟨e1, e2, e3, e4, e5, e6, g, o, c, va, vb, hk, hc, hgw, hAg, hra, hrb, ta, tb⟩ := ht
  obtain ⟨vh, vf, vl, vg, vx, vk⟩ := v
  dsimp only at e1 e2 e3 e4 e5 hk
  subst vh vf vl vg vx vk
  have hcI : (2 : Int) ≤ (c : Int) := by omega
  have hh0 : (h == 0) = false := by simpa using e6
  clear e6
  go_enter Try.func48, Try.ntmps48
  go_upto_region 1 with fail
  refine name_wX (fun W1 hW => ?_)
  have hE : Ext w W1 := by rw [hW]; repeat' (first | exact Ext.refl _ | apply Ext.al)
  have b0 : Blk W1 (w.heap.size) 28 (TV.cs ⟨h, f, l, gg, y, .slice (some ⟨g, o, none⟩) 2 c⟩) := by rw [hW]; exact Blk.newAt rfl
  clear hW
  obtain ⟨r0, hr0⟩ : ∃ r, r = w.heap.size := ⟨_, rfl⟩
  rw [← hr0] at b0
  try rw [← hr0]
  have q0 : w.heap.size ≤ r0 := by omega
  clear hr0
  have qz : r0 < W1.heap.size := b0.lt
  have k0 : NR W1 (.slice ad L.length cu) r0 := ⟨qz, fun he => by have := (hown.lt r0 he).2; omega⟩
  replace ta := isT.ext hE ta
  replace tb := isT.ext hE tb
  replace hra := rangeAt.ext hra hgw hE
  replace hrb := rangeAt.ext hrb hgw hE
  replace hgw := Nat.lt_of_lt_of_le hgw hE.below.size
  replace hown := hown.ext hE
  replace hAK : ∀ q, A q → NR W1 (.slice ad L.length cu) q := fun q hq => (hAK q hq).ext hE
  replace hb := Nat.le_trans hb hE.below.size
  have hE0 : RW w (Value.slice ad L.length cu).ownBlock W1 (.slice ad L.length cu) := RW.of_ext hE
  clear hE
  have hE := hE0
  clear hE0
  go_upto_region 1 with fail
  refine wp_region_lit ?_
  refine wpList_plain rfl (fun K hK => ?_); go_simp; (try dsimp only); refine hK _ _ ?_; clear hK K; (try simp only [Act.put, Zs, Zz, Zc])
  refine wpList_plain rfl (fun K hK => ?_); have zc := b0.cell 0; go_simp; clear zc; (try simp only [hh0]); (try dsimp only); refine hK _ _ ?_; clear hK K; (try simp only [Act.put, Zs, Zz, Zc])
  refine wpList_plain rfl (fun K hK => ?_); go_simp; (try simp (disch := omega) only [Yq, Yr]); (try simp only [hh0]); (try dsimp only); refine hK _ _ ?_; clear hK K; (try simp only [Act.put, Zs, Zz, Zc])
  refine wpList_nil ?_
  go_upto_region 3 with fail
  refine wp_region_lit ?_
  refine wpList_plain rfl (fun K hK => ?_); go_simp; (try dsimp only); refine hK _ _ ?_; clear hK K; (try simp only [Act.put, Zs, Zz, Zc])
  refine wpList_plain rfl (fun K hK => ?_); have zc := b0.cell 10; go_simp; clear zc; (try dsimp only); refine hK _ _ ?_; clear hK K; (try simp only [Act.put, Zs, Zz, Zc])
  refine wpList_plain rfl (fun K hK => ?_); go_simp; (try dsimp only); refine hK _ _ ?_; clear hK K; (try simp only [Act.put, Zs, Zz, Zc])
  refine wpList_plain rfl (fun K hK => ?_); (first | (refine wp_ld 28 _ (hra) (by rfl) (by rfl) Try.underlying28 rfl (by exact Try.infoT) ?_) | (refine wp_ld 28 _ (hrb) (by rfl) (by rfl) Try.underlying28 rfl (by exact Try.infoT) ?_)); (try dsimp only); refine hK _ _ ?_; clear hK K; (try simp only [Act.put, Zs, Zz, Zc])
  refine wpList_plain rfl (fun K hK => ?_); go_simp; (try dsimp only); refine hK _ _ ?_; clear hK K; (try simp only [Act.put, Zs, Zz, Zc])
  refine wpList_plain rfl (fun K hK => ?_); go_simp; (go_at_call 48; refine (iha A base L _ _ _ hown ta hAK hb hl1.out).mono ?_; intro e W2 hpp; obtain ⟨u1, rfl, hown2, hx⟩ := hpp); (try dsimp only); refine hK _ _ ?_; clear hK K; (try simp only [Act.put, Zs, Zz, Zc])
  replace b0 := RW.blk hx k0 b0
  replace ta := isT.rw hx hAK ta
  replace tb := isT.rw hx hAK tb
  replace hra := RW.range hx (hAK g hAg) hra
  replace hrb := RW.range hx (hAK g hAg) hrb
  replace hgw := Nat.lt_of_lt_of_le hgw hx.g.size
  replace hb := Nat.le_trans hb hx.g.size
  replace k0 := NR.rw k0 hx
  replace hAK := (fun q hq => (hAK q hq).rw hx)
  replace hE := RW.trans hE hx
  clear hx
  replace qz : r0 < W2.heap.size := b0.lt
  clear hown
  have hown := hown2
  clear hown2
  refine wpList_plain rfl (fun K hK => ?_); go_simp; (try dsimp only); refine hK _ _ ?_; clear hK K; (try simp only [Act.put, Zs, Zz, Zc])
  refine wpList_nil ?_
  go_upto_region 4 with fail
  refine wp_region_lit ?_
  iterate 2 (refine wpList_plain rfl (fun K hK => ?_); go_simp; (try dsimp only); refine hK _ _ ?_; clear hK K; (try simp only [Act.put, Zs, Zz, Zc]))
  refine wpList_plain rfl (fun K hK => ?_); refine wp_ld 25 _ (Blk.rgn b0) (by rfl) (by rfl) Try.underlying25 rfl (by exact Try.infoR) ?_; (try dsimp only); refine hK _ _ ?_; clear hK K; (try simp only [Act.put, Zs, Zz, Zc])
  refine wpList_plain rfl (fun K hK => ?_); refine wp_bs1 _ (by rfl) (by rfl) ?_; (try dsimp only); refine hK _ _ ?_; clear hK K; (try simp only [Act.put, Zs, Zz, Zc])
  refine name_wl (fun W3 hW => ?_)
  have hx : Ext W2 W3 := by rw [hW]; exact ext_alloc _ _
  have bs : Blk W3 W2.heap.size 25 y.cs := by rw [hW]; exact Blk.newAt rfl
  clear hW
  replace hown := hown.ext hx
  replace b0 := b0.ext hx
  replace ta := isT.ext hx ta
  replace tb := isT.ext hx tb
  replace hra := rangeAt.ext hra hgw hx
  replace hrb := rangeAt.ext hrb hgw hx
  replace hgw := Nat.lt_of_lt_of_le hgw hx.below.size
  replace hb := Nat.le_trans hb hx.below.size
  replace k0 := NR.ext k0 hx
  replace hAK := (fun q hq => (hAK q hq).ext hx)
  replace hE := hE.ext hx
  clear hx
  refine wpList_plain rfl (fun K hK => ?_); refine wp_app _ _ (by rfl) (by rfl) hown (ys := [y]) (by rfl) rfl (by simpa [rF] using bs.range) hl2.out hb (fun u2 W4 hown2 hgr hat => ?_); (try dsimp only); refine hK _ _ ?_; clear hK K; (try simp only [Act.put, Zs, Zz, Zc])
  have hx : RW W3 u1.ownBlock W4 u2 := ⟨hgr, hat.imp_right (fun e => ⟨_, e, Nat.le_refl _⟩)⟩
  clear hgr hat bs
  replace b0 := RW.blk hx k0 b0
  replace ta := isT.rw hx hAK ta
  replace tb := isT.rw hx hAK tb
  replace hra := RW.range hx (hAK g hAg) hra
  replace hrb := RW.range hx (hAK g hAg) hrb
  replace hgw := Nat.lt_of_lt_of_le hgw hx.g.size
  replace hb := Nat.le_trans hb hx.g.size
  replace k0 := NR.rw k0 hx
  replace hAK := (fun q hq => (hAK q hq).rw hx)
  replace hE := hE.trans hx
  clear hx hown
  have hown := hown2
  clear hown2
  replace qz : r0 < W4.heap.size := b0.lt
  refine wpList_plain rfl (fun K hK => ?_); go_simp; (try dsimp only); refine hK _ _ ?_; clear hK K; (try simp only [Act.put, Zs, Zz, Zc])
  refine wpList_nil ?_
  go_upto_region 5 with fail
  refine wp_region_lit ?_
  refine wpList_plain rfl (fun K hK => ?_); go_simp; (try dsimp only); refine hK _ _ ?_; clear hK K; (try simp only [Act.put, Zs, Zz, Zc])
  refine wpList_plain rfl (fun K hK => ?_); have zc := b0.cell 10; go_simp; clear zc; (try dsimp only); refine hK _ _ ?_; clear hK K; (try simp only [Act.put, Zs, Zz, Zc])
  refine wpList_plain rfl (fun K hK => ?_); go_simp; (try dsimp only); refine hK _ _ ?_; clear hK K; (try simp only [Act.put, Zs, Zz, Zc])
  refine wpList_plain rfl (fun K hK => ?_); (first | (refine wp_ld 28 _ (hra) (by rfl) (by rfl) Try.underlying28 rfl (by exact Try.infoT) ?_) | (refine wp_ld 28 _ (hrb) (by rfl) (by rfl) Try.underlying28 rfl (by exact Try.infoT) ?_)); (try dsimp only); refine hK _ _ ?_; clear hK K; (try simp only [Act.put, Zs, Zz, Zc])
  refine wpList_plain rfl (fun K hK => ?_); go_simp; (try dsimp only); refine hK _ _ ?_; clear hK K; (try simp only [Act.put, Zs, Zz, Zc])
  refine wpList_plain rfl (fun K hK => ?_); go_simp; (go_at_call 48; refine (ihb A base _ _ _ _ hown tb hAK hb hl3.out).mono ?_; intro e W5 hpp; obtain ⟨u3, rfl, hown2, hx⟩ := hpp); (try dsimp only); refine hK _ _ ?_; clear hK K; (try simp only [Act.put, Zs, Zz, Zc])
  replace b0 := RW.blk hx k0 b0
  replace ta := isT.rw hx hAK ta
  replace tb := isT.rw hx hAK tb
  replace hra := RW.range hx (hAK g hAg) hra
  replace hrb := RW.range hx (hAK g hAg) hrb
  replace hgw := Nat.lt_of_lt_of_le hgw hx.g.size
  replace hb := Nat.le_trans hb hx.g.size
  replace k0 := NR.rw k0 hx
  replace hAK := (fun q hq => (hAK q hq).rw hx)
  replace hE := RW.trans hE hx
  clear hx
  replace qz : r0 < W5.heap.size := b0.lt
  clear hown
  have hown := hown2
  clear hown2
  refine wpList_plain rfl (fun K hK => ?_); go_simp; (try dsimp only); refine hK _ _ ?_; clear hK K; (try simp only [Act.put, Zs, Zz, Zc])
  refine wpList_nil ?_
  go_wp2_with fail
  go_ret
  exact ⟨u3, rfl, by simpa [BT.regs] using hown, hE⟩
theorem rregs_P : ∀ t : BT, RegsOK t
  | .E => rregs_E
  | .N _ _ _ _ a _ b => rregs_N (rregs_P a) (rregs_P b)
/-- The list of a tree's regions, made anew. -/
theorem rregs_any {A : Nat → Prop} (t : BT) (v : TV) (w : World) (ht : isT A w t v) (hl : t.regs.length ≤ 90000) :
    Calls Try.prog 48 #[.agg v.cs.toArray, .slice none 0 0] w fun e w' => ∃ u', e = .returned u' ∧ ownR w' w.heap.size u' t.regs ∧ Ext w w' :=
  (rregs_P t (Lw A w.heap.size) w.heap.size [] _ v w (ownR_nil _ _) ht.lw (fun g hg => ⟨hg.2, by simp [Value.ownBlock]⟩) (Nat.le_refl _) (by simpa using hl)).mono fun e w' ⟨u', he, ho, hE⟩ => ⟨u', he, by simpa using ho, Ext.of_below (below_of_grown hE.g (Nat.le_refl _) (fun r hr => by simp [Value.ownBlock] at hr))⟩

end Go.Proofs.Ytnbohogkfdeddaa

set_option linter.unusedSimpArgs false
set_option linter.unusedVariables false
namespace Go.Proofs.Ytnbohogkfdeddaa
open Go.RowKit

/-- A node's numbers are right, as the reference asks it. -/
def okV (m n l r : TV) : Bool := (((((m.h == n.h) && (m.f == n.f)) && (m.l == n.l)) && (m.g == n.g)) && decide (l.h ≤ r.h + 1)) && decide (r.h ≤ l.h + 1)
def okN : BT → Bool
  | .E => true
  | .N h f l g a y b => okV ⟨h, f, l, g, y, .int .i64 0⟩ (nodeV (a.tv (.int .i64 0)) y (b.tv (.int .i64 0)) (.int .i64 0)) (a.tv (.int .i64 0)) (b.tv (.int .i64 0))
def numR : BT → Bool
  | .E => true
  | .N h f l g a y b => numR a && numR b && okN (.N h f l g a y b)
def BT.dp : BT → Int
  | .E => 0
  | .N _ _ _ _ a _ b => 1 + max a.dp b.dp
theorem BT.dp_nn : ∀ t : BT, 0 ≤ t.dp
  | .E => Int.le_refl _
  | .N _ _ _ _ a _ b => by have := BT.dp_nn a; have := BT.dp_nn b; simp only [BT.dp]; omega
theorem BT.dp_len : ∀ t : BT, t.dp ≤ t.regs.length
  | .E => by simp [BT.dp, BT.regs]
  | .N _ _ _ _ a _ b => by
    have := BT.dp_len a
    have := BT.dp_len b
    simp only [BT.dp, BT.regs, List.length_append, List.length_cons]
    omega
theorem numR_h : ∀ t : BT, numR t = true → t.dp ≤ 1000 → t.h = t.dp
  | .E, _, _ => rfl
  | .N h f l g a y b, hn, hd => by
    simp only [numR, Bool.and_eq_true] at hn
    obtain ⟨⟨h1, h2⟩, h3⟩ := hn
    have na := BT.dp_nn a
    have nb := BT.dp_nn b
    simp only [BT.dp] at hd
    have e1 := numR_h a h1 (by omega)
    have e2 := numR_h b h2 (by omega)
    simp only [okN, okV, Bool.and_eq_true, beq_iff_eq] at h3
    have h4 : h = W64 (1 + mx (a.tv (.int .i64 0)).h (b.tv (.int .i64 0)).h) := h3.1.1.1.1.1
    rw [tv_h, tv_h, e1, e2, mx_max, W64_in (by omega)] at h4
    show h = 1 + max a.dp b.dp
    exact h4
theorem okN_eq {A : Nat → Prop} {w : World} {h f l g : Int} {a b : BT} {y : RV} {va vb : TV} (k : Value) (ta : isT A w a va) (tb : isT A w b vb) :
    okV ⟨h, f, l, g, y, k⟩ (nodeV va y vb k) va vb = okN (.N h f l g a y b) := by
  rw [isT_tv ta, isT_tv tb]
  have e := nodeV_k a b y k va.k vb.k
  simp only [okN, okV, tv_h, e]
  cases a <;> cases b <;> rfl
def NumROK (t : BT) : Prop := ∀ (A : Nat → Prop) (v : TV) (w : World), isT A w t v → (∀ x ∈ t.regs, vld x) → t.dp ≤ 1000 →
  Calls Try.prog 49 #[.agg v.cs.toArray] w fun e w' => e = .returned (.bool (numR t)) ∧ Ext w w'
set_option maxRecDepth 100000 in
set_option maxHeartbeats 4000000 in
theorem rnum_E : NumROK .E := by
  intro A v w ht hv hd
  obtain ⟨e1, e2, e3, e4, e5, ka, c, hk⟩ := ht
  obtain ⟨h, f, l, gg, x, k⟩ := v
  dsimp only at e1 e2 e3 e4 e5 hk
  subst h f l gg x k
  go_enter Try.func49, Try.ntmps49
  go_upto_region 1 with fail
  refine name_wX (fun W1 hW => ?_)
  have hE : Ext w W1 := by rw [hW]; repeat' (first | exact Ext.refl _ | apply Ext.al)
  have b0 : Blk W1 (w.heap.size) 28 (TV.cs ⟨0, 0, 0, 0, RV.z, .slice ka 0 c⟩) := by rw [hW]; exact Blk.newAt rfl
  clear hW
  obtain ⟨r0, hr0⟩ : ∃ r, r = w.heap.size := ⟨_, rfl⟩
  rw [← hr0] at b0
  try rw [← hr0]
  have q0 : w.heap.size ≤ r0 := by omega
  clear hr0
  have qz : r0 < W1.heap.size := b0.lt
  go_upto_region 1 with fail
  refine wp_region_lit ?_
  have zc0 := b0.cell 0
  iterate 3 (refine wpList_plain rfl (fun K hK => ?_); go_simp; (try simp only [beq_self_eq_true]); (try dsimp only); refine hK _ _ ?_; clear hK K; (try simp only [Act.put, Zs, Zz, Zc]))
  clear zc0
  refine wpList_nil ?_
  go_upto_region 2 with fail
  refine wp_region_lit ?_
  refine wpList_plain rfl (fun K hK => ?_); go_simp; (try dsimp only); refine hK _ _ ?_; clear hK K; (try simp only [Act.put, Zs, Zz, Zc])
  refine wpList_nil ?_
  go_wp2_with fail
  go_ret
  exact ⟨rfl, hE⟩

theorem rnum_is {t : BT} (ih : NumROK t) {A : Nat → Prop} {v : TV} {w : World} (ht : isT A w t v) (hv : ∀ x ∈ t.regs, vld x) (hd : t.dp ≤ 1000) {b : Bool} (hb : numR t = b) :
    Calls Try.prog 49 #[.agg v.cs.toArray] w fun e w' => e = .returned (.bool b) ∧ Ext w w' := by
  subst hb
  exact ih A v w ht hv hd
set_option maxRecDepth 100000 in
set_option maxHeartbeats 4000000 in
theorem rnum_f {h f l gg : Int} {a b : BT} {y : RV} (iha : NumROK a) (ihb : NumROK b) (h1 : numR a = false) (A : Nat → Prop) (v : TV) (w : World) (ht : isT A w (.N h f l gg a y b) v) (hv : ∀ x ∈ (BT.N h f l gg a y b).regs, vld x) (hd : (BT.N h f l gg a y b).dp ≤ 1000) :
    Calls Try.prog 49 #[.agg v.cs.toArray] w fun e w' => e = .returned (.bool (numR (.N h f l gg a y b))) ∧ Ext w w' := by
  have hva : ∀ x ∈ a.regs, vld x := fun x hx => hv x (by simp [BT.regs, hx])
  have hvb : ∀ x ∈ b.regs, vld x := fun x hx => hv x (by simp [BT.regs, hx])
  have hvy : vld y := hv y (by simp [BT.regs])
  have hda : a.dp ≤ 999 ∧ b.dp ≤ 999 := by have := BT.dp_nn a; have := BT.dp_nn b; simp only [BT.dp] at hd; omega
  clear hv hd
  replace ht := ht.lw
  obtain ⟨e1, e2, e3, e4, e5, e6, g, o, c, va, vb, hk, hc, hg1, hAg, hra1, hrb1, ta, tb⟩ := ht
  have HN := okN_eq (h := h) (f := f) (l := l) (g := gg) (y := y) (.int .i64 0) ta tb
  have na : va.h = a.h := by rw [isT_tv ta, tv_h]
  have nb : vb.h = b.h := by rw [isT_tv tb, tv_h]
  obtain ⟨vh, vf, vl, vg, vx, vk⟩ := v
  dsimp only at e1 e2 e3 e4 e5 hk
  subst vh vf vl vg vx vk
  have hcI : (2 : Int) ≤ (c : Int) := by omega
  have hgw1 := hg1
  have hh0 : (h == 0) = false := by simpa using e6
  clear e6
  have HR : numR (.N h f l gg a y b) = false := by simp [numR, h1]
  replace h1 : Hid _ := h1
  replace HR : Hid _ := HR
  replace HN : Hid _ := HN
  clear na nb
  go_enter Try.func49, Try.ntmps49
  go_upto_region 1 with fail
  refine name_wX (fun W1 hW => ?_)
  have hE : Ext w W1 := by rw [hW]; repeat' (first | exact Ext.refl _ | apply Ext.al)
  have b0 : Blk W1 (w.heap.size) 28 (TV.cs ⟨h, f, l, gg, y, .slice (some ⟨g, o, none⟩) 2 c⟩) := by rw [hW]; exact Blk.newAt rfl
  clear hW
  obtain ⟨r0, hr0⟩ : ∃ r, r = w.heap.size := ⟨_, rfl⟩
  rw [← hr0] at b0
  try rw [← hr0]
  have q0 : w.heap.size ≤ r0 := by omega
  clear hr0
  have qz : r0 < W1.heap.size := b0.lt
  replace ta := isT.ext hE ta
  replace tb := isT.ext hE tb
  replace hra1 := rangeAt.ext hra1 hg1 hE
  replace hrb1 := rangeAt.ext hrb1 hg1 hE
  replace hg1 := Nat.lt_of_lt_of_le hg1 hE.below.size
  go_upto_region 1 with fail
  refine wp_region_lit ?_
  have zc0 := b0.cell 0
  iterate 3 (refine wpList_plain rfl (fun K hK => ?_); go_simp; (try simp only [hh0]); (try dsimp only); refine hK _ _ ?_; clear hK K; (try simp only [Act.put, Zs, Zz, Zc]))
  clear zc0
  refine wpList_nil ?_
  go_upto_region 3 with fail
  have ya1 := hra1
  have yb1 := hrb1
  have yg1 := hg1
  go_cut [3, 4] (fun sva svb wc => ∃ sra srb : Nat, sva = .pointer (some ⟨sra, 0, none⟩) ∧ svb = .pointer (some ⟨srb, 0, none⟩) ∧ r0 < sra ∧ r0 < srb ∧ sra ≠ srb ∧ Blk wc sra 28 va.cs ∧ Blk wc srb 28 vb.cs ∧ Ext W1 wc)
  case first =>
    have hEz : Ext W1 W1 := Ext.refl _
    have x0 := b0
    obtain ⟨mX, hmX⟩ : ∃ m, m = W1.heap.size := ⟨_, rfl⟩
    have hS : GrownX W1 [] W1 := GrownX.refl _ _
    refine wp_region_S (GrownX W1 []) (by kernel_rfl) ?_
    refine name_wd (fun W2 hW => ?_)
    have hx : Ext W1 W2 := by rw [hW]; exact ext_drew _
    clear hW
    replace hS := hS.ext hx
    replace b0 := b0.ext hx
    replace ta := isT.ext hx ta
    replace tb := isT.ext hx tb
    replace hra1 := rangeAt.ext hra1 hg1 hx
    replace hrb1 := rangeAt.ext hrb1 hg1 hx
    replace hg1 := Nat.lt_of_lt_of_le hg1 hx.below.size
    replace hEz := hEz.trans hx
    replace hE := hE.trans hx
    clear hx
    replace qz : r0 < W2.heap.size := b0.lt
    refine wpAnyD_takeSL (i := 0) rfl (by kernel_rfl) (fun _ _ _ _ h => h) hS ?_
    apply Exists.intro
    refine ⟨Or.inl ⟨by rfl, ?_⟩, ?_⟩
    (focus (intro wz hz; go_simp; (try with_reducible rfl); done))
    (try simp only [Act.put, Zs, Zz, Zc])
    refine wpAnyD_takeSL (i := 1) rfl (by kernel_rfl) (fun _ _ _ _ h => h) hS ?_
    apply Exists.intro
    refine ⟨Or.inl ⟨by rfl, ?_⟩, ?_⟩
    (focus (intro wz hz; have zc := (GrownX.blk hz x0 (by first | decide | (simp; done) | (simp; omega) | omega)).cell 10; go_simp; (try with_reducible rfl); done))
    (try simp only [Act.put, Zs, Zz, Zc])
    refine wpAnyD_takeSL (i := 2) rfl (by kernel_rfl) (fun _ _ _ _ h => h) hS ?_
    apply Exists.intro
    refine ⟨Or.inl ⟨by rfl, ?_⟩, ?_⟩
    (focus (intro wz hz; go_simp; (try with_reducible rfl); done))
    (try simp only [Act.put, Zs, Zz, Zc])
    refine wpAnyD_takeSL (i := 3) rfl (by kernel_rfl) (fun _ _ _ _ h => h) hS ?_
    apply Exists.intro
    refine ⟨Or.inl ⟨by rfl, ?_⟩, ?_⟩
    (focus (intro wz hz; (first | exact exec_ld 28 _ rfl rfl (GrownX.range hz (ya1) (yg1) (by first | decide | (simp; done) | (simp; omega) | omega)) Try.underlying28 rfl (by exact Try.infoT) | exact exec_ld 28 _ rfl rfl (GrownX.range hz (yb1) (yg1) (by first | decide | (simp; done) | (simp; omega) | omega)) Try.underlying28 rfl (by exact Try.infoT))))
    (try simp only [Act.put, Zs, Zz, Zc])
    refine wpAnyD_takeSL (i := 4) rfl (by kernel_rfl) (fun _ _ _ _ h => h) hS ?_
    apply Exists.intro
    refine ⟨Or.inl ⟨by rfl, ?_⟩, ?_⟩
    (focus (intro wz hz; go_simp; (try with_reducible rfl); done))
    (try simp only [Act.put, Zs, Zz, Zc])
    refine wpAnyD_takeSL (i := 5) rfl (by kernel_rfl) (fun _ _ _ _ h => h) hS ?_
    apply Exists.intro
    refine ⟨Or.inl ⟨by rfl, ?_⟩, ?_⟩
    (focus (intro wz hz; have zc := (GrownX.blk hz x0 (by first | decide | (simp; done) | (simp; omega) | omega)).cell 10; go_simp; (try with_reducible rfl); done))
    (try simp only [Act.put, Zs, Zz, Zc])
    refine wpAnyD_takeSL (i := 6) rfl (by kernel_rfl) (fun _ _ _ _ h => h) hS ?_
    apply Exists.intro
    refine ⟨Or.inl ⟨by rfl, ?_⟩, ?_⟩
    (focus (intro wz hz; go_simp; (try with_reducible rfl); done))
    (try simp only [Act.put, Zs, Zz, Zc])
    refine wpAnyD_takeSL (i := 7) rfl (by kernel_rfl) (fun _ _ _ _ h => h) hS ?_
    apply Exists.intro
    refine ⟨Or.inl ⟨by rfl, ?_⟩, ?_⟩
    (focus (intro wz hz; (first | exact exec_ld 28 _ rfl rfl (GrownX.range hz (ya1) (yg1) (by first | decide | (simp; done) | (simp; omega) | omega)) Try.underlying28 rfl (by exact Try.infoT) | exact exec_ld 28 _ rfl rfl (GrownX.range hz (yb1) (yg1) (by first | decide | (simp; done) | (simp; omega) | omega)) Try.underlying28 rfl (by exact Try.infoT))))
    (try simp only [Act.put, Zs, Zz, Zc])
    refine wpAnyD_many [8, 9] (by kernel_rfl) (by simp) (AllD_consL rfl (fun K hK => ?_) (AllD_consL rfl (fun K hK => ?_) AllD_nil))
    · rw [if_pos (by rfl)]
      have qb : mX ≤ W2.heap.size := (by rw [hmX]; exact hS.size)
      go_simp
      (try dsimp only); refine hK.out _ _ (fun _ => hS.ext (ext_alloc _ _)) ?_; clear hK K; (try simp only [Act.put, Zs, Zz, Zc])
      refine name_wd (fun W33 hW => ?_)
      have hx : Ext W2 W33 := by rw [hW]; exact ext_alloc _ _
      have b1 : Blk W33 W2.heap.size 28 TV.z.cs := by rw [hW]; exact Blk.newAt rfl
      clear hW
      replace hS := hS.ext hx
      replace b0 := b0.ext hx
      replace ta := isT.ext hx ta
      replace tb := isT.ext hx tb
      replace hra1 := rangeAt.ext hra1 hg1 hx
      replace hrb1 := rangeAt.ext hrb1 hg1 hx
      replace hg1 := Nat.lt_of_lt_of_le hg1 hx.below.size
      replace hEz := hEz.trans hx
      replace hE := hE.trans hx
      clear hx
      obtain ⟨r1, hr⟩ : ∃ r, r = W2.heap.size := ⟨_, rfl⟩
      rw [← hr] at b1
      try rw [← hr]
      have q1 : r0 < r1 := by omega
      have qb1 : mX ≤ r1 := by omega
      clear hr
      replace qz : r1 < W33.heap.size := b1.lt
      refine wpAnyD_oneL (i := 9) rfl (by kernel_rfl) (fun K hK => ?_)
      rw [if_pos (by rfl)]
      have qb : mX ≤ W33.heap.size := (by rw [hmX]; exact hS.size)
      go_simp
      (try dsimp only); refine hK.out _ _ (fun _ => hS.ext (ext_alloc _ _)) ?_; clear hK K; (try simp only [Act.put, Zs, Zz, Zc])
      refine name_wd (fun W34 hW => ?_)
      have hx : Ext W33 W34 := by rw [hW]; exact ext_alloc _ _
      have b2 : Blk W34 W33.heap.size 28 TV.z.cs := by rw [hW]; exact Blk.newAt rfl
      clear hW
      replace hS := hS.ext hx
      replace b0 := b0.ext hx
      replace b1 := b1.ext hx
      replace ta := isT.ext hx ta
      replace tb := isT.ext hx tb
      replace hra1 := rangeAt.ext hra1 hg1 hx
      replace hrb1 := rangeAt.ext hrb1 hg1 hx
      replace hg1 := Nat.lt_of_lt_of_le hg1 hx.below.size
      replace hEz := hEz.trans hx
      replace hE := hE.trans hx
      clear hx
      obtain ⟨r2, hr⟩ : ∃ r, r = W33.heap.size := ⟨_, rfl⟩
      rw [← hr] at b2
      try rw [← hr]
      have q2 : r1 < r2 := by omega
      have qb2 : mX ≤ r2 := by omega
      clear hr
      replace qz : r2 < W34.heap.size := b2.lt
      refine wpAnyD_oneL (i := 10) rfl (by kernel_rfl) (fun K hK => ?_)
      rw [if_pos (by rfl)]
      refine wp_store_box 28 _ _ (by rfl) b1 (by rfl) (by rfl) (by exact Try.infoT) (by first | exact RV.one _ | exact TV.one _ rfl | exact TV.one _ (isT.one ta) | exact TV.one _ (isT.one tb)) (by rfl) (fun W35 hg bn => ?_)
      replace b0 := b0.kept hg (Zn (by omega))
      replace b2 := b2.kept hg (Zn (by omega))
      replace ta := isT.kept hg (Lw.not (by omega)) ta
      replace tb := isT.kept hg (Lw.not (by omega)) tb
      replace hra1 := rangeAt.kept hra1 hg1 hg (Zn (by omega))
      replace hrb1 := rangeAt.kept hrb1 hg1 hg (Zn (by omega))
      replace hg1 := Nat.lt_of_lt_of_le hg1 hg.size
      replace hEz := ext_grow hEz hg (fun q hq => by cases hq; omega)
      replace hE := ext_grow hE hg (fun q hq => by cases hq; omega)
      replace hS := hS.stepNew hg (by omega)
      clear b1 hg
      have b1 := bn
      clear bn
      (try dsimp only); refine hK.out _ _ (fun _ => hS) ?_; clear hK K; (try simp only [Act.put, Zs, Zz, Zc])
      replace qz : r2 < W35.heap.size := b2.lt
      refine wpAnyD_oneL (i := 11) rfl (by kernel_rfl) (fun K hK => ?_)
      rw [if_pos (by rfl)]
      refine wp_store_box 28 _ _ (by rfl) b2 (by rfl) (by rfl) (by exact Try.infoT) (by first | exact RV.one _ | exact TV.one _ rfl | exact TV.one _ (isT.one ta) | exact TV.one _ (isT.one tb)) (by rfl) (fun W36 hg bn => ?_)
      replace b0 := b0.kept hg (Zn (by omega))
      replace b1 := b1.kept hg (Zn (by omega))
      replace ta := isT.kept hg (Lw.not (by omega)) ta
      replace tb := isT.kept hg (Lw.not (by omega)) tb
      replace hra1 := rangeAt.kept hra1 hg1 hg (Zn (by omega))
      replace hrb1 := rangeAt.kept hrb1 hg1 hg (Zn (by omega))
      replace hg1 := Nat.lt_of_lt_of_le hg1 hg.size
      replace hEz := ext_grow hEz hg (fun q hq => by cases hq; omega)
      replace hE := ext_grow hE hg (fun q hq => by cases hq; omega)
      replace hS := hS.stepNew hg (by omega)
      clear b2 hg
      have b2 := bn
      clear bn
      (try dsimp only); refine hK.out _ _ (fun _ => hS) ?_; clear hK K; (try simp only [Act.put, Zs, Zz, Zc])
      replace qz : r2 < W36.heap.size := b2.lt
      refine wpAnyD_done (by kernel_rfl) ?_ _
      clear hS hmX x0
      simp only [Exit.then]; go_step; go_meet
      exact ⟨r1, r2, rfl, rfl, by omega, by omega, by omega, b1, b2, hEz⟩
    · rw [if_pos (by rfl)]
      have qb : mX ≤ W2.heap.size := (by rw [hmX]; exact hS.size)
      go_simp
      (try dsimp only); refine hK.out _ _ (fun _ => hS.ext (ext_alloc _ _)) ?_; clear hK K; (try simp only [Act.put, Zs, Zz, Zc])
      refine name_wd (fun W63 hW => ?_)
      have hx : Ext W2 W63 := by rw [hW]; exact ext_alloc _ _
      have b1 : Blk W63 W2.heap.size 28 TV.z.cs := by rw [hW]; exact Blk.newAt rfl
      clear hW
      replace hS := hS.ext hx
      replace b0 := b0.ext hx
      replace ta := isT.ext hx ta
      replace tb := isT.ext hx tb
      replace hra1 := rangeAt.ext hra1 hg1 hx
      replace hrb1 := rangeAt.ext hrb1 hg1 hx
      replace hg1 := Nat.lt_of_lt_of_le hg1 hx.below.size
      replace hEz := hEz.trans hx
      replace hE := hE.trans hx
      clear hx
      obtain ⟨r1, hr⟩ : ∃ r, r = W2.heap.size := ⟨_, rfl⟩
      rw [← hr] at b1
      try rw [← hr]
      have q1 : r0 < r1 := by omega
      have qb1 : mX ≤ r1 := by omega
      clear hr
      replace qz : r1 < W63.heap.size := b1.lt
      refine wpAnyD_oneL (i := 8) rfl (by kernel_rfl) (fun K hK => ?_)
      rw [if_pos (by rfl)]
      have qb : mX ≤ W63.heap.size := (by rw [hmX]; exact hS.size)
      go_simp
      (try dsimp only); refine hK.out _ _ (fun _ => hS.ext (ext_alloc _ _)) ?_; clear hK K; (try simp only [Act.put, Zs, Zz, Zc])
      refine name_wd (fun W64 hW => ?_)
      have hx : Ext W63 W64 := by rw [hW]; exact ext_alloc _ _
      have b2 : Blk W64 W63.heap.size 28 TV.z.cs := by rw [hW]; exact Blk.newAt rfl
      clear hW
      replace hS := hS.ext hx
      replace b0 := b0.ext hx
      replace b1 := b1.ext hx
      replace ta := isT.ext hx ta
      replace tb := isT.ext hx tb
      replace hra1 := rangeAt.ext hra1 hg1 hx
      replace hrb1 := rangeAt.ext hrb1 hg1 hx
      replace hg1 := Nat.lt_of_lt_of_le hg1 hx.below.size
      replace hEz := hEz.trans hx
      replace hE := hE.trans hx
      clear hx
      obtain ⟨r2, hr⟩ : ∃ r, r = W63.heap.size := ⟨_, rfl⟩
      rw [← hr] at b2
      try rw [← hr]
      have q2 : r1 < r2 := by omega
      have qb2 : mX ≤ r2 := by omega
      clear hr
      replace qz : r2 < W64.heap.size := b2.lt
      refine wpAnyD_oneL (i := 10) rfl (by kernel_rfl) (fun K hK => ?_)
      rw [if_pos (by rfl)]
      refine wp_store_box 28 _ _ (by rfl) b2 (by rfl) (by rfl) (by exact Try.infoT) (by first | exact RV.one _ | exact TV.one _ rfl | exact TV.one _ (isT.one ta) | exact TV.one _ (isT.one tb)) (by rfl) (fun W65 hg bn => ?_)
      replace b0 := b0.kept hg (Zn (by omega))
      replace b1 := b1.kept hg (Zn (by omega))
      replace ta := isT.kept hg (Lw.not (by omega)) ta
      replace tb := isT.kept hg (Lw.not (by omega)) tb
      replace hra1 := rangeAt.kept hra1 hg1 hg (Zn (by omega))
      replace hrb1 := rangeAt.kept hrb1 hg1 hg (Zn (by omega))
      replace hg1 := Nat.lt_of_lt_of_le hg1 hg.size
      replace hEz := ext_grow hEz hg (fun q hq => by cases hq; omega)
      replace hE := ext_grow hE hg (fun q hq => by cases hq; omega)
      replace hS := hS.stepNew hg (by omega)
      clear b2 hg
      have b2 := bn
      clear bn
      (try dsimp only); refine hK.out _ _ (fun _ => hS) ?_; clear hK K; (try simp only [Act.put, Zs, Zz, Zc])
      replace qz : r2 < W65.heap.size := b2.lt
      refine wpAnyD_oneL (i := 11) rfl (by kernel_rfl) (fun K hK => ?_)
      rw [if_pos (by rfl)]
      refine wp_store_box 28 _ _ (by rfl) b1 (by rfl) (by rfl) (by exact Try.infoT) (by first | exact RV.one _ | exact TV.one _ rfl | exact TV.one _ (isT.one ta) | exact TV.one _ (isT.one tb)) (by rfl) (fun W66 hg bn => ?_)
      replace b0 := b0.kept hg (Zn (by omega))
      replace b2 := b2.kept hg (Zn (by omega))
      replace ta := isT.kept hg (Lw.not (by omega)) ta
      replace tb := isT.kept hg (Lw.not (by omega)) tb
      replace hra1 := rangeAt.kept hra1 hg1 hg (Zn (by omega))
      replace hrb1 := rangeAt.kept hrb1 hg1 hg (Zn (by omega))
      replace hg1 := Nat.lt_of_lt_of_le hg1 hg.size
      replace hEz := ext_grow hEz hg (fun q hq => by cases hq; omega)
      replace hE := ext_grow hE hg (fun q hq => by cases hq; omega)
      replace hS := hS.stepNew hg (by omega)
      clear b1 hg
      have b1 := bn
      clear bn
      (try dsimp only); refine hK.out _ _ (fun _ => hS) ?_; clear hK K; (try simp only [Act.put, Zs, Zz, Zc])
      replace qz : r2 < W66.heap.size := b2.lt
      refine wpAnyD_done (by kernel_rfl) ?_ _
      clear hS hmX x0
      simp only [Exit.then]; go_step; go_meet
      exact ⟨r2, r1, rfl, rfl, by omega, by omega, by omega, b2, b1, hEz⟩
  obtain ⟨r1, r2, rfl, rfl, q1x, q2x, qne1, b1, b2, hx⟩ := hcut
  obtain ⟨W2, rfl⟩ : ∃ W, W = wc := ⟨_, rfl⟩
  replace b0 := b0.ext hx
  replace ta := isT.ext hx ta
  replace tb := isT.ext hx tb
  replace hra1 := rangeAt.ext hra1 hg1 hx
  replace hrb1 := rangeAt.ext hrb1 hg1 hx
  replace hg1 := Nat.lt_of_lt_of_le hg1 hx.below.size
  replace hE := hE.trans hx
  clear hx
  replace qz : r0 < W2.heap.size := b0.lt
  replace qz : r2 < W2.heap.size := b2.lt
  have qz1 : r1 < W2.heap.size := b1.lt
  clear ya1 yb1 yg1 hra1 hrb1 hg1
  go_upto_region 4 with fail
  refine wp_region_lit ?_
  refine wpList_plain rfl (fun K hK => ?_); (first | (refine wp_ld 28 _ (b1.range) (by rfl) (by rfl) Try.underlying28 rfl (by exact Try.infoT) ?_)); (try dsimp only); refine hK _ _ ?_; clear hK K; (try simp only [Act.put, Zs, Zz, Zc])
  refine wpList_plain rfl (fun K hK => ?_); go_simp; (go_at_call 49; refine (rnum_is iha ta.low hva (by omega) h1.out).mono ?_; intro e W3 hpp; obtain ⟨rfl, hx⟩ := hpp); (try dsimp only); refine hK _ _ ?_; clear hK K; (try simp only [Act.put, Zs, Zz, Zc])
  replace b0 := b0.ext hx
  replace b1 := b1.ext hx
  replace b2 := b2.ext hx
  replace ta := isT.ext hx ta
  replace tb := isT.ext hx tb
  replace hE := hE.trans hx
  clear hx
  replace qz : r2 < W3.heap.size := b2.lt
  replace qz1 : r1 < W3.heap.size := b1.lt
  iterate 2 (refine wpList_plain rfl (fun K hK => ?_); go_simp; (try dsimp only); refine hK _ _ ?_; clear hK K; (try simp only [Act.put, Zs, Zz, Zc]))
  iterate 3 (refine wpList_step (fun K hK => ?_); rw [if_neg (by exact Bool.false_ne_true)]; (try dsimp only); refine hK _ _ ?_; clear hK K; (try simp only [Act.put, Zs, Zz, Zc]))
  refine wpList_plain rfl (fun K hK => ?_); go_simp; (try dsimp only); refine hK _ _ ?_; clear hK K; (try simp only [Act.put, Zs, Zz, Zc])
  refine wpList_nil ?_
  go_upto_region 5 with fail
  refine wp_region_lit ?_
  refine wpList_plain rfl (fun K hK => ?_); go_simp; (try dsimp only); refine hK _ _ ?_; clear hK K; (try simp only [Act.put, Zs, Zz, Zc])
  refine wpList_nil ?_
  go_wp2_with fail
  go_ret
  exact ⟨ret_b HR.out.symm, hE⟩

set_option maxRecDepth 100000 in
set_option maxHeartbeats 4000000 in
theorem rnum_tf {h f l gg : Int} {a b : BT} {y : RV} (iha : NumROK a) (ihb : NumROK b) (h1 : numR a = true) (h2 : numR b = false) (A : Nat → Prop) (v : TV) (w : World) (ht : isT A w (.N h f l gg a y b) v) (hv : ∀ x ∈ (BT.N h f l gg a y b).regs, vld x) (hd : (BT.N h f l gg a y b).dp ≤ 1000) :
    Calls Try.prog 49 #[.agg v.cs.toArray] w fun e w' => e = .returned (.bool (numR (.N h f l gg a y b))) ∧ Ext w w' := by
  have hva : ∀ x ∈ a.regs, vld x := fun x hx => hv x (by simp [BT.regs, hx])
  have hvb : ∀ x ∈ b.regs, vld x := fun x hx => hv x (by simp [BT.regs, hx])
  have hvy : vld y := hv y (by simp [BT.regs])
  have hda : a.dp ≤ 999 ∧ b.dp ≤ 999 := by have := BT.dp_nn a; have := BT.dp_nn b; simp only [BT.dp] at hd; omega
  clear hv hd
  replace ht := ht.lw
  obtain ⟨e1, e2, e3, e4, e5, e6, g, o, c, va, vb, hk, hc, hg1, hAg, hra1, hrb1, ta, tb⟩ := ht
  have HN := okN_eq (h := h) (f := f) (l := l) (g := gg) (y := y) (.int .i64 0) ta tb
  have na : va.h = a.h := by rw [isT_tv ta, tv_h]
  have nb : vb.h = b.h := by rw [isT_tv tb, tv_h]
  obtain ⟨vh, vf, vl, vg, vx, vk⟩ := v
  dsimp only at e1 e2 e3 e4 e5 hk
  subst vh vf vl vg vx vk
  have hcI : (2 : Int) ≤ (c : Int) := by omega
  have hgw1 := hg1
  have hh0 : (h == 0) = false := by simpa using e6
  clear e6
  have HR : numR (.N h f l gg a y b) = false := by simp [numR, h1, h2]
  replace h1 : Hid _ := h1
  replace h2 : Hid _ := h2
  replace HR : Hid _ := HR
  replace HN : Hid _ := HN
  clear na nb
  go_enter Try.func49, Try.ntmps49
  go_upto_region 1 with fail
  refine name_wX (fun W1 hW => ?_)
  have hE : Ext w W1 := by rw [hW]; repeat' (first | exact Ext.refl _ | apply Ext.al)
  have b0 : Blk W1 (w.heap.size) 28 (TV.cs ⟨h, f, l, gg, y, .slice (some ⟨g, o, none⟩) 2 c⟩) := by rw [hW]; exact Blk.newAt rfl
  clear hW
  obtain ⟨r0, hr0⟩ : ∃ r, r = w.heap.size := ⟨_, rfl⟩
  rw [← hr0] at b0
  try rw [← hr0]
  have q0 : w.heap.size ≤ r0 := by omega
  clear hr0
  have qz : r0 < W1.heap.size := b0.lt
  replace ta := isT.ext hE ta
  replace tb := isT.ext hE tb
  replace hra1 := rangeAt.ext hra1 hg1 hE
  replace hrb1 := rangeAt.ext hrb1 hg1 hE
  replace hg1 := Nat.lt_of_lt_of_le hg1 hE.below.size
  go_upto_region 1 with fail
  refine wp_region_lit ?_
  have zc0 := b0.cell 0
  iterate 3 (refine wpList_plain rfl (fun K hK => ?_); go_simp; (try simp only [hh0]); (try dsimp only); refine hK _ _ ?_; clear hK K; (try simp only [Act.put, Zs, Zz, Zc]))
  clear zc0
  refine wpList_nil ?_
  go_upto_region 3 with fail
  have ya1 := hra1
  have yb1 := hrb1
  have yg1 := hg1
  go_cut [3, 4] (fun sva svb wc => ∃ sra srb : Nat, sva = .pointer (some ⟨sra, 0, none⟩) ∧ svb = .pointer (some ⟨srb, 0, none⟩) ∧ r0 < sra ∧ r0 < srb ∧ sra ≠ srb ∧ Blk wc sra 28 va.cs ∧ Blk wc srb 28 vb.cs ∧ Ext W1 wc)
  case first =>
    have hEz : Ext W1 W1 := Ext.refl _
    have x0 := b0
    obtain ⟨mX, hmX⟩ : ∃ m, m = W1.heap.size := ⟨_, rfl⟩
    have hS : GrownX W1 [] W1 := GrownX.refl _ _
    refine wp_region_S (GrownX W1 []) (by kernel_rfl) ?_
    refine name_wd (fun W2 hW => ?_)
    have hx : Ext W1 W2 := by rw [hW]; exact ext_drew _
    clear hW
    replace hS := hS.ext hx
    replace b0 := b0.ext hx
    replace ta := isT.ext hx ta
    replace tb := isT.ext hx tb
    replace hra1 := rangeAt.ext hra1 hg1 hx
    replace hrb1 := rangeAt.ext hrb1 hg1 hx
    replace hg1 := Nat.lt_of_lt_of_le hg1 hx.below.size
    replace hEz := hEz.trans hx
    replace hE := hE.trans hx
    clear hx
    replace qz : r0 < W2.heap.size := b0.lt
    refine wpAnyD_takeSL (i := 0) rfl (by kernel_rfl) (fun _ _ _ _ h => h) hS ?_
    apply Exists.intro
    refine ⟨Or.inl ⟨by rfl, ?_⟩, ?_⟩
    (focus (intro wz hz; go_simp; (try with_reducible rfl); done))
    (try simp only [Act.put, Zs, Zz, Zc])
    refine wpAnyD_takeSL (i := 1) rfl (by kernel_rfl) (fun _ _ _ _ h => h) hS ?_
    apply Exists.intro
    refine ⟨Or.inl ⟨by rfl, ?_⟩, ?_⟩
    (focus (intro wz hz; have zc := (GrownX.blk hz x0 (by first | decide | (simp; done) | (simp; omega) | omega)).cell 10; go_simp; (try with_reducible rfl); done))
    (try simp only [Act.put, Zs, Zz, Zc])
    refine wpAnyD_takeSL (i := 2) rfl (by kernel_rfl) (fun _ _ _ _ h => h) hS ?_
    apply Exists.intro
    refine ⟨Or.inl ⟨by rfl, ?_⟩, ?_⟩
    (focus (intro wz hz; go_simp; (try with_reducible rfl); done))
    (try simp only [Act.put, Zs, Zz, Zc])
    refine wpAnyD_takeSL (i := 3) rfl (by kernel_rfl) (fun _ _ _ _ h => h) hS ?_
    apply Exists.intro
    refine ⟨Or.inl ⟨by rfl, ?_⟩, ?_⟩
    (focus (intro wz hz; (first | exact exec_ld 28 _ rfl rfl (GrownX.range hz (ya1) (yg1) (by first | decide | (simp; done) | (simp; omega) | omega)) Try.underlying28 rfl (by exact Try.infoT) | exact exec_ld 28 _ rfl rfl (GrownX.range hz (yb1) (yg1) (by first | decide | (simp; done) | (simp; omega) | omega)) Try.underlying28 rfl (by exact Try.infoT))))
    (try simp only [Act.put, Zs, Zz, Zc])
    refine wpAnyD_takeSL (i := 4) rfl (by kernel_rfl) (fun _ _ _ _ h => h) hS ?_
    apply Exists.intro
    refine ⟨Or.inl ⟨by rfl, ?_⟩, ?_⟩
    (focus (intro wz hz; go_simp; (try with_reducible rfl); done))
    (try simp only [Act.put, Zs, Zz, Zc])
    refine wpAnyD_takeSL (i := 5) rfl (by kernel_rfl) (fun _ _ _ _ h => h) hS ?_
    apply Exists.intro
    refine ⟨Or.inl ⟨by rfl, ?_⟩, ?_⟩
    (focus (intro wz hz; have zc := (GrownX.blk hz x0 (by first | decide | (simp; done) | (simp; omega) | omega)).cell 10; go_simp; (try with_reducible rfl); done))
    (try simp only [Act.put, Zs, Zz, Zc])
    refine wpAnyD_takeSL (i := 6) rfl (by kernel_rfl) (fun _ _ _ _ h => h) hS ?_
    apply Exists.intro
    refine ⟨Or.inl ⟨by rfl, ?_⟩, ?_⟩
    (focus (intro wz hz; go_simp; (try with_reducible rfl); done))
    (try simp only [Act.put, Zs, Zz, Zc])
    refine wpAnyD_takeSL (i := 7) rfl (by kernel_rfl) (fun _ _ _ _ h => h) hS ?_
    apply Exists.intro
    refine ⟨Or.inl ⟨by rfl, ?_⟩, ?_⟩
    (focus (intro wz hz; (first | exact exec_ld 28 _ rfl rfl (GrownX.range hz (ya1) (yg1) (by first | decide | (simp; done) | (simp; omega) | omega)) Try.underlying28 rfl (by exact Try.infoT) | exact exec_ld 28 _ rfl rfl (GrownX.range hz (yb1) (yg1) (by first | decide | (simp; done) | (simp; omega) | omega)) Try.underlying28 rfl (by exact Try.infoT))))
    (try simp only [Act.put, Zs, Zz, Zc])
    refine wpAnyD_many [8, 9] (by kernel_rfl) (by simp) (AllD_consL rfl (fun K hK => ?_) (AllD_consL rfl (fun K hK => ?_) AllD_nil))
    · rw [if_pos (by rfl)]
      have qb : mX ≤ W2.heap.size := (by rw [hmX]; exact hS.size)
      go_simp
      (try dsimp only); refine hK.out _ _ (fun _ => hS.ext (ext_alloc _ _)) ?_; clear hK K; (try simp only [Act.put, Zs, Zz, Zc])
      refine name_wd (fun W33 hW => ?_)
      have hx : Ext W2 W33 := by rw [hW]; exact ext_alloc _ _
      have b1 : Blk W33 W2.heap.size 28 TV.z.cs := by rw [hW]; exact Blk.newAt rfl
      clear hW
      replace hS := hS.ext hx
      replace b0 := b0.ext hx
      replace ta := isT.ext hx ta
      replace tb := isT.ext hx tb
      replace hra1 := rangeAt.ext hra1 hg1 hx
      replace hrb1 := rangeAt.ext hrb1 hg1 hx
      replace hg1 := Nat.lt_of_lt_of_le hg1 hx.below.size
      replace hEz := hEz.trans hx
      replace hE := hE.trans hx
      clear hx
      obtain ⟨r1, hr⟩ : ∃ r, r = W2.heap.size := ⟨_, rfl⟩
      rw [← hr] at b1
      try rw [← hr]
      have q1 : r0 < r1 := by omega
      have qb1 : mX ≤ r1 := by omega
      clear hr
      replace qz : r1 < W33.heap.size := b1.lt
      refine wpAnyD_oneL (i := 9) rfl (by kernel_rfl) (fun K hK => ?_)
      rw [if_pos (by rfl)]
      have qb : mX ≤ W33.heap.size := (by rw [hmX]; exact hS.size)
      go_simp
      (try dsimp only); refine hK.out _ _ (fun _ => hS.ext (ext_alloc _ _)) ?_; clear hK K; (try simp only [Act.put, Zs, Zz, Zc])
      refine name_wd (fun W34 hW => ?_)
      have hx : Ext W33 W34 := by rw [hW]; exact ext_alloc _ _
      have b2 : Blk W34 W33.heap.size 28 TV.z.cs := by rw [hW]; exact Blk.newAt rfl
      clear hW
      replace hS := hS.ext hx
      replace b0 := b0.ext hx
      replace b1 := b1.ext hx
      replace ta := isT.ext hx ta
      replace tb := isT.ext hx tb
      replace hra1 := rangeAt.ext hra1 hg1 hx
      replace hrb1 := rangeAt.ext hrb1 hg1 hx
      replace hg1 := Nat.lt_of_lt_of_le hg1 hx.below.size
      replace hEz := hEz.trans hx
      replace hE := hE.trans hx
      clear hx
      obtain ⟨r2, hr⟩ : ∃ r, r = W33.heap.size := ⟨_, rfl⟩
      rw [← hr] at b2
      try rw [← hr]
      have q2 : r1 < r2 := by omega
      have qb2 : mX ≤ r2 := by omega
      clear hr
      replace qz : r2 < W34.heap.size := b2.lt
      refine wpAnyD_oneL (i := 10) rfl (by kernel_rfl) (fun K hK => ?_)
      rw [if_pos (by rfl)]
      refine wp_store_box 28 _ _ (by rfl) b1 (by rfl) (by rfl) (by exact Try.infoT) (by first | exact RV.one _ | exact TV.one _ rfl | exact TV.one _ (isT.one ta) | exact TV.one _ (isT.one tb)) (by rfl) (fun W35 hg bn => ?_)
      replace b0 := b0.kept hg (Zn (by omega))
      replace b2 := b2.kept hg (Zn (by omega))
      replace ta := isT.kept hg (Lw.not (by omega)) ta
      replace tb := isT.kept hg (Lw.not (by omega)) tb
      replace hra1 := rangeAt.kept hra1 hg1 hg (Zn (by omega))
      replace hrb1 := rangeAt.kept hrb1 hg1 hg (Zn (by omega))
      replace hg1 := Nat.lt_of_lt_of_le hg1 hg.size
      replace hEz := ext_grow hEz hg (fun q hq => by cases hq; omega)
      replace hE := ext_grow hE hg (fun q hq => by cases hq; omega)
      replace hS := hS.stepNew hg (by omega)
      clear b1 hg
      have b1 := bn
      clear bn
      (try dsimp only); refine hK.out _ _ (fun _ => hS) ?_; clear hK K; (try simp only [Act.put, Zs, Zz, Zc])
      replace qz : r2 < W35.heap.size := b2.lt
      refine wpAnyD_oneL (i := 11) rfl (by kernel_rfl) (fun K hK => ?_)
      rw [if_pos (by rfl)]
      refine wp_store_box 28 _ _ (by rfl) b2 (by rfl) (by rfl) (by exact Try.infoT) (by first | exact RV.one _ | exact TV.one _ rfl | exact TV.one _ (isT.one ta) | exact TV.one _ (isT.one tb)) (by rfl) (fun W36 hg bn => ?_)
      replace b0 := b0.kept hg (Zn (by omega))
      replace b1 := b1.kept hg (Zn (by omega))
      replace ta := isT.kept hg (Lw.not (by omega)) ta
      replace tb := isT.kept hg (Lw.not (by omega)) tb
      replace hra1 := rangeAt.kept hra1 hg1 hg (Zn (by omega))
      replace hrb1 := rangeAt.kept hrb1 hg1 hg (Zn (by omega))
      replace hg1 := Nat.lt_of_lt_of_le hg1 hg.size
      replace hEz := ext_grow hEz hg (fun q hq => by cases hq; omega)
      replace hE := ext_grow hE hg (fun q hq => by cases hq; omega)
      replace hS := hS.stepNew hg (by omega)
      clear b2 hg
      have b2 := bn
      clear bn
      (try dsimp only); refine hK.out _ _ (fun _ => hS) ?_; clear hK K; (try simp only [Act.put, Zs, Zz, Zc])
      replace qz : r2 < W36.heap.size := b2.lt
      refine wpAnyD_done (by kernel_rfl) ?_ _
      clear hS hmX x0
      simp only [Exit.then]; go_step; go_meet
      exact ⟨r1, r2, rfl, rfl, by omega, by omega, by omega, b1, b2, hEz⟩
    · rw [if_pos (by rfl)]
      have qb : mX ≤ W2.heap.size := (by rw [hmX]; exact hS.size)
      go_simp
      (try dsimp only); refine hK.out _ _ (fun _ => hS.ext (ext_alloc _ _)) ?_; clear hK K; (try simp only [Act.put, Zs, Zz, Zc])
      refine name_wd (fun W63 hW => ?_)
      have hx : Ext W2 W63 := by rw [hW]; exact ext_alloc _ _
      have b1 : Blk W63 W2.heap.size 28 TV.z.cs := by rw [hW]; exact Blk.newAt rfl
      clear hW
      replace hS := hS.ext hx
      replace b0 := b0.ext hx
      replace ta := isT.ext hx ta
      replace tb := isT.ext hx tb
      replace hra1 := rangeAt.ext hra1 hg1 hx
      replace hrb1 := rangeAt.ext hrb1 hg1 hx
      replace hg1 := Nat.lt_of_lt_of_le hg1 hx.below.size
      replace hEz := hEz.trans hx
      replace hE := hE.trans hx
      clear hx
      obtain ⟨r1, hr⟩ : ∃ r, r = W2.heap.size := ⟨_, rfl⟩
      rw [← hr] at b1
      try rw [← hr]
      have q1 : r0 < r1 := by omega
      have qb1 : mX ≤ r1 := by omega
      clear hr
      replace qz : r1 < W63.heap.size := b1.lt
      refine wpAnyD_oneL (i := 8) rfl (by kernel_rfl) (fun K hK => ?_)
      rw [if_pos (by rfl)]
      have qb : mX ≤ W63.heap.size := (by rw [hmX]; exact hS.size)
      go_simp
      (try dsimp only); refine hK.out _ _ (fun _ => hS.ext (ext_alloc _ _)) ?_; clear hK K; (try simp only [Act.put, Zs, Zz, Zc])
      refine name_wd (fun W64 hW => ?_)
      have hx : Ext W63 W64 := by rw [hW]; exact ext_alloc _ _
      have b2 : Blk W64 W63.heap.size 28 TV.z.cs := by rw [hW]; exact Blk.newAt rfl
      clear hW
      replace hS := hS.ext hx
      replace b0 := b0.ext hx
      replace b1 := b1.ext hx
      replace ta := isT.ext hx ta
      replace tb := isT.ext hx tb
      replace hra1 := rangeAt.ext hra1 hg1 hx
      replace hrb1 := rangeAt.ext hrb1 hg1 hx
      replace hg1 := Nat.lt_of_lt_of_le hg1 hx.below.size
      replace hEz := hEz.trans hx
      replace hE := hE.trans hx
      clear hx
      obtain ⟨r2, hr⟩ : ∃ r, r = W63.heap.size := ⟨_, rfl⟩
      rw [← hr] at b2
      try rw [← hr]
      have q2 : r1 < r2 := by omega
      have qb2 : mX ≤ r2 := by omega
      clear hr
      replace qz : r2 < W64.heap.size := b2.lt
      refine wpAnyD_oneL (i := 10) rfl (by kernel_rfl) (fun K hK => ?_)
      rw [if_pos (by rfl)]
      refine wp_store_box 28 _ _ (by rfl) b2 (by rfl) (by rfl) (by exact Try.infoT) (by first | exact RV.one _ | exact TV.one _ rfl | exact TV.one _ (isT.one ta) | exact TV.one _ (isT.one tb)) (by rfl) (fun W65 hg bn => ?_)
      replace b0 := b0.kept hg (Zn (by omega))
      replace b1 := b1.kept hg (Zn (by omega))
      replace ta := isT.kept hg (Lw.not (by omega)) ta
      replace tb := isT.kept hg (Lw.not (by omega)) tb
      replace hra1 := rangeAt.kept hra1 hg1 hg (Zn (by omega))
      replace hrb1 := rangeAt.kept hrb1 hg1 hg (Zn (by omega))
      replace hg1 := Nat.lt_of_lt_of_le hg1 hg.size
      replace hEz := ext_grow hEz hg (fun q hq => by cases hq; omega)
      replace hE := ext_grow hE hg (fun q hq => by cases hq; omega)
      replace hS := hS.stepNew hg (by omega)
      clear b2 hg
      have b2 := bn
      clear bn
      (try dsimp only); refine hK.out _ _ (fun _ => hS) ?_; clear hK K; (try simp only [Act.put, Zs, Zz, Zc])
      replace qz : r2 < W65.heap.size := b2.lt
      refine wpAnyD_oneL (i := 11) rfl (by kernel_rfl) (fun K hK => ?_)
      rw [if_pos (by rfl)]
      refine wp_store_box 28 _ _ (by rfl) b1 (by rfl) (by rfl) (by exact Try.infoT) (by first | exact RV.one _ | exact TV.one _ rfl | exact TV.one _ (isT.one ta) | exact TV.one _ (isT.one tb)) (by rfl) (fun W66 hg bn => ?_)
      replace b0 := b0.kept hg (Zn (by omega))
      replace b2 := b2.kept hg (Zn (by omega))
      replace ta := isT.kept hg (Lw.not (by omega)) ta
      replace tb := isT.kept hg (Lw.not (by omega)) tb
      replace hra1 := rangeAt.kept hra1 hg1 hg (Zn (by omega))
      replace hrb1 := rangeAt.kept hrb1 hg1 hg (Zn (by omega))
      replace hg1 := Nat.lt_of_lt_of_le hg1 hg.size
      replace hEz := ext_grow hEz hg (fun q hq => by cases hq; omega)
      replace hE := ext_grow hE hg (fun q hq => by cases hq; omega)
      replace hS := hS.stepNew hg (by omega)
      clear b1 hg
      have b1 := bn
      clear bn
      (try dsimp only); refine hK.out _ _ (fun _ => hS) ?_; clear hK K; (try simp only [Act.put, Zs, Zz, Zc])
      replace qz : r2 < W66.heap.size := b2.lt
      refine wpAnyD_done (by kernel_rfl) ?_ _
      clear hS hmX x0
      simp only [Exit.then]; go_step; go_meet
      exact ⟨r2, r1, rfl, rfl, by omega, by omega, by omega, b2, b1, hEz⟩
  obtain ⟨r1, r2, rfl, rfl, q1x, q2x, qne1, b1, b2, hx⟩ := hcut
  obtain ⟨W2, rfl⟩ : ∃ W, W = wc := ⟨_, rfl⟩
  replace b0 := b0.ext hx
  replace ta := isT.ext hx ta
  replace tb := isT.ext hx tb
  replace hra1 := rangeAt.ext hra1 hg1 hx
  replace hrb1 := rangeAt.ext hrb1 hg1 hx
  replace hg1 := Nat.lt_of_lt_of_le hg1 hx.below.size
  replace hE := hE.trans hx
  clear hx
  replace qz : r0 < W2.heap.size := b0.lt
  replace qz : r2 < W2.heap.size := b2.lt
  have qz1 : r1 < W2.heap.size := b1.lt
  clear ya1 yb1 yg1 hra1 hrb1 hg1
  go_upto_region 4 with fail
  refine wp_region_lit ?_
  refine wpList_plain rfl (fun K hK => ?_); (first | (refine wp_ld 28 _ (b1.range) (by rfl) (by rfl) Try.underlying28 rfl (by exact Try.infoT) ?_)); (try dsimp only); refine hK _ _ ?_; clear hK K; (try simp only [Act.put, Zs, Zz, Zc])
  refine wpList_plain rfl (fun K hK => ?_); go_simp; (go_at_call 49; refine (rnum_is iha ta.low hva (by omega) h1.out).mono ?_; intro e W3 hpp; obtain ⟨rfl, hx⟩ := hpp); (try dsimp only); refine hK _ _ ?_; clear hK K; (try simp only [Act.put, Zs, Zz, Zc])
  replace b0 := b0.ext hx
  replace b1 := b1.ext hx
  replace b2 := b2.ext hx
  replace ta := isT.ext hx ta
  replace tb := isT.ext hx tb
  replace hE := hE.trans hx
  clear hx
  replace qz : r2 < W3.heap.size := b2.lt
  replace qz1 : r1 < W3.heap.size := b1.lt
  iterate 2 (refine wpList_plain rfl (fun K hK => ?_); go_simp; (try dsimp only); refine hK _ _ ?_; clear hK K; (try simp only [Act.put, Zs, Zz, Zc]))
  refine wpList_step (fun K hK => ?_); rw [if_pos (by rfl)]; (first | (refine wp_ld 28 _ (b2.range) (by rfl) (by rfl) Try.underlying28 rfl (by exact Try.infoT) ?_)); (try dsimp only); refine hK _ _ ?_; clear hK K; (try simp only [Act.put, Zs, Zz, Zc])
  refine wpList_step (fun K hK => ?_); rw [if_pos (by rfl)]; go_simp; (go_at_call 49; refine (rnum_is ihb tb.low hvb (by omega) h2.out).mono ?_; intro e W4 hpp; obtain ⟨rfl, hx⟩ := hpp); (try dsimp only); refine hK _ _ ?_; clear hK K; (try simp only [Act.put, Zs, Zz, Zc])
  replace b0 := b0.ext hx
  replace b1 := b1.ext hx
  replace b2 := b2.ext hx
  replace ta := isT.ext hx ta
  replace tb := isT.ext hx tb
  replace hE := hE.trans hx
  clear hx
  replace qz : r2 < W4.heap.size := b2.lt
  replace qz1 : r1 < W4.heap.size := b1.lt
  refine wpList_step (fun K hK => ?_); rw [if_pos (by rfl)]; go_simp; (try dsimp only); refine hK _ _ ?_; clear hK K; (try simp only [Act.put, Zs, Zz, Zc])
  refine wpList_plain rfl (fun K hK => ?_); go_simp; (try dsimp only); refine hK _ _ ?_; clear hK K; (try simp only [Act.put, Zs, Zz, Zc])
  refine wpList_nil ?_
  go_upto_region 5 with fail
  refine wp_region_lit ?_
  refine wpList_plain rfl (fun K hK => ?_); go_simp; (try dsimp only); refine hK _ _ ?_; clear hK K; (try simp only [Act.put, Zs, Zz, Zc])
  refine wpList_nil ?_
  go_wp2_with fail
  go_ret
  exact ⟨ret_b HR.out.symm, hE⟩

set_option maxRecDepth 100000 in
set_option maxHeartbeats 4000000 in
theorem rnum_tt {h f l gg : Int} {a b : BT} {y : RV} (iha : NumROK a) (ihb : NumROK b) (h1 : numR a = true) (h2 : numR b = true) (A : Nat → Prop) (v : TV) (w : World) (ht : isT A w (.N h f l gg a y b) v) (hv : ∀ x ∈ (BT.N h f l gg a y b).regs, vld x) (hd : (BT.N h f l gg a y b).dp ≤ 1000) :
    Calls Try.prog 49 #[.agg v.cs.toArray] w fun e w' => e = .returned (.bool (numR (.N h f l gg a y b))) ∧ Ext w w' := by
  have hva : ∀ x ∈ a.regs, vld x := fun x hx => hv x (by simp [BT.regs, hx])
  have hvb : ∀ x ∈ b.regs, vld x := fun x hx => hv x (by simp [BT.regs, hx])
  have hvy : vld y := hv y (by simp [BT.regs])
  have hda : a.dp ≤ 999 ∧ b.dp ≤ 999 := by have := BT.dp_nn a; have := BT.dp_nn b; simp only [BT.dp] at hd; omega
  clear hv hd
  replace ht := ht.lw
  obtain ⟨e1, e2, e3, e4, e5, e6, g, o, c, va, vb, hk, hc, hg1, hAg, hra1, hrb1, ta, tb⟩ := ht
  have HN := okN_eq (h := h) (f := f) (l := l) (g := gg) (y := y) (.int .i64 0) ta tb
  have na : va.h = a.h := by rw [isT_tv ta, tv_h]
  have nb : vb.h = b.h := by rw [isT_tv tb, tv_h]
  obtain ⟨vh, vf, vl, vg, vx, vk⟩ := v
  dsimp only at e1 e2 e3 e4 e5 hk
  subst vh vf vl vg vx vk
  have hcI : (2 : Int) ≤ (c : Int) := by omega
  have hgw1 := hg1
  have hh0 : (h == 0) = false := by simpa using e6
  clear e6
  have n1 := numR_h a h1 (by omega)
  have n2 := numR_h b h2 (by omega)
  have m1 : 0 ≤ va.h ∧ va.h ≤ 999 := by have := BT.dp_nn a; omega
  have m2 : 0 ≤ vb.h ∧ vb.h ≤ 999 := by have := BT.dp_nn b; omega
  clear n1 n2
  have HR : numR (.N h f l gg a y b) = okN (.N h f l gg a y b) := by simp [numR, h1, h2]
  replace h1 : Hid _ := h1
  replace h2 : Hid _ := h2
  replace HR : Hid _ := HR
  replace HN : Hid _ := HN
  clear na nb
  go_enter Try.func49, Try.ntmps49
  go_upto_region 1 with fail
  refine name_wX (fun W1 hW => ?_)
  have hE : Ext w W1 := by rw [hW]; repeat' (first | exact Ext.refl _ | apply Ext.al)
  have b0 : Blk W1 (w.heap.size) 28 (TV.cs ⟨h, f, l, gg, y, .slice (some ⟨g, o, none⟩) 2 c⟩) := by rw [hW]; exact Blk.newAt rfl
  clear hW
  obtain ⟨r0, hr0⟩ : ∃ r, r = w.heap.size := ⟨_, rfl⟩
  rw [← hr0] at b0
  try rw [← hr0]
  have q0 : w.heap.size ≤ r0 := by omega
  clear hr0
  have qz : r0 < W1.heap.size := b0.lt
  replace ta := isT.ext hE ta
  replace tb := isT.ext hE tb
  replace hra1 := rangeAt.ext hra1 hg1 hE
  replace hrb1 := rangeAt.ext hrb1 hg1 hE
  replace hg1 := Nat.lt_of_lt_of_le hg1 hE.below.size
  go_upto_region 1 with fail
  refine wp_region_lit ?_
  have zc0 := b0.cell 0
  iterate 3 (refine wpList_plain rfl (fun K hK => ?_); go_simp; (try simp only [hh0]); (try dsimp only); refine hK _ _ ?_; clear hK K; (try simp only [Act.put, Zs, Zz, Zc]))
  clear zc0
  refine wpList_nil ?_
  go_upto_region 3 with fail
  have ya1 := hra1
  have yb1 := hrb1
  have yg1 := hg1
  go_cut [3, 4] (fun sva svb wc => ∃ sra srb : Nat, sva = .pointer (some ⟨sra, 0, none⟩) ∧ svb = .pointer (some ⟨srb, 0, none⟩) ∧ r0 < sra ∧ r0 < srb ∧ sra ≠ srb ∧ Blk wc sra 28 va.cs ∧ Blk wc srb 28 vb.cs ∧ Ext W1 wc)
  case first =>
    have hEz : Ext W1 W1 := Ext.refl _
    have x0 := b0
    obtain ⟨mX, hmX⟩ : ∃ m, m = W1.heap.size := ⟨_, rfl⟩
    have hS : GrownX W1 [] W1 := GrownX.refl _ _
    refine wp_region_S (GrownX W1 []) (by kernel_rfl) ?_
    refine name_wd (fun W2 hW => ?_)
    have hx : Ext W1 W2 := by rw [hW]; exact ext_drew _
    clear hW
    replace hS := hS.ext hx
    replace b0 := b0.ext hx
    replace ta := isT.ext hx ta
    replace tb := isT.ext hx tb
    replace hra1 := rangeAt.ext hra1 hg1 hx
    replace hrb1 := rangeAt.ext hrb1 hg1 hx
    replace hg1 := Nat.lt_of_lt_of_le hg1 hx.below.size
    replace hEz := hEz.trans hx
    replace hE := hE.trans hx
    clear hx
    replace qz : r0 < W2.heap.size := b0.lt
    refine wpAnyD_takeSL (i := 0) rfl (by kernel_rfl) (fun _ _ _ _ h => h) hS ?_
    apply Exists.intro
    refine ⟨Or.inl ⟨by rfl, ?_⟩, ?_⟩
    (focus (intro wz hz; go_simp; (try with_reducible rfl); done))
    (try simp only [Act.put, Zs, Zz, Zc])
    refine wpAnyD_takeSL (i := 1) rfl (by kernel_rfl) (fun _ _ _ _ h => h) hS ?_
    apply Exists.intro
    refine ⟨Or.inl ⟨by rfl, ?_⟩, ?_⟩
    (focus (intro wz hz; have zc := (GrownX.blk hz x0 (by first | decide | (simp; done) | (simp; omega) | omega)).cell 10; go_simp; (try with_reducible rfl); done))
    (try simp only [Act.put, Zs, Zz, Zc])
    refine wpAnyD_takeSL (i := 2) rfl (by kernel_rfl) (fun _ _ _ _ h => h) hS ?_
    apply Exists.intro
    refine ⟨Or.inl ⟨by rfl, ?_⟩, ?_⟩
    (focus (intro wz hz; go_simp; (try with_reducible rfl); done))
    (try simp only [Act.put, Zs, Zz, Zc])
    refine wpAnyD_takeSL (i := 3) rfl (by kernel_rfl) (fun _ _ _ _ h => h) hS ?_
    apply Exists.intro
    refine ⟨Or.inl ⟨by rfl, ?_⟩, ?_⟩
    (focus (intro wz hz; (first | exact exec_ld 28 _ rfl rfl (GrownX.range hz (ya1) (yg1) (by first | decide | (simp; done) | (simp; omega) | omega)) Try.underlying28 rfl (by exact Try.infoT) | exact exec_ld 28 _ rfl rfl (GrownX.range hz (yb1) (yg1) (by first | decide | (simp; done) | (simp; omega) | omega)) Try.underlying28 rfl (by exact Try.infoT))))
    (try simp only [Act.put, Zs, Zz, Zc])
    refine wpAnyD_takeSL (i := 4) rfl (by kernel_rfl) (fun _ _ _ _ h => h) hS ?_
    apply Exists.intro
    refine ⟨Or.inl ⟨by rfl, ?_⟩, ?_⟩
    (focus (intro wz hz; go_simp; (try with_reducible rfl); done))
    (try simp only [Act.put, Zs, Zz, Zc])
    refine wpAnyD_takeSL (i := 5) rfl (by kernel_rfl) (fun _ _ _ _ h => h) hS ?_
    apply Exists.intro
    refine ⟨Or.inl ⟨by rfl, ?_⟩, ?_⟩
    (focus (intro wz hz; have zc := (GrownX.blk hz x0 (by first | decide | (simp; done) | (simp; omega) | omega)).cell 10; go_simp; (try with_reducible rfl); done))
    (try simp only [Act.put, Zs, Zz, Zc])
    refine wpAnyD_takeSL (i := 6) rfl (by kernel_rfl) (fun _ _ _ _ h => h) hS ?_
    apply Exists.intro
    refine ⟨Or.inl ⟨by rfl, ?_⟩, ?_⟩
    (focus (intro wz hz; go_simp; (try with_reducible rfl); done))
    (try simp only [Act.put, Zs, Zz, Zc])
    refine wpAnyD_takeSL (i := 7) rfl (by kernel_rfl) (fun _ _ _ _ h => h) hS ?_
    apply Exists.intro
    refine ⟨Or.inl ⟨by rfl, ?_⟩, ?_⟩
    (focus (intro wz hz; (first | exact exec_ld 28 _ rfl rfl (GrownX.range hz (ya1) (yg1) (by first | decide | (simp; done) | (simp; omega) | omega)) Try.underlying28 rfl (by exact Try.infoT) | exact exec_ld 28 _ rfl rfl (GrownX.range hz (yb1) (yg1) (by first | decide | (simp; done) | (simp; omega) | omega)) Try.underlying28 rfl (by exact Try.infoT))))
    (try simp only [Act.put, Zs, Zz, Zc])
    refine wpAnyD_many [8, 9] (by kernel_rfl) (by simp) (AllD_consL rfl (fun K hK => ?_) (AllD_consL rfl (fun K hK => ?_) AllD_nil))
    · rw [if_pos (by rfl)]
      have qb : mX ≤ W2.heap.size := (by rw [hmX]; exact hS.size)
      go_simp
      (try dsimp only); refine hK.out _ _ (fun _ => hS.ext (ext_alloc _ _)) ?_; clear hK K; (try simp only [Act.put, Zs, Zz, Zc])
      refine name_wd (fun W33 hW => ?_)
      have hx : Ext W2 W33 := by rw [hW]; exact ext_alloc _ _
      have b1 : Blk W33 W2.heap.size 28 TV.z.cs := by rw [hW]; exact Blk.newAt rfl
      clear hW
      replace hS := hS.ext hx
      replace b0 := b0.ext hx
      replace ta := isT.ext hx ta
      replace tb := isT.ext hx tb
      replace hra1 := rangeAt.ext hra1 hg1 hx
      replace hrb1 := rangeAt.ext hrb1 hg1 hx
      replace hg1 := Nat.lt_of_lt_of_le hg1 hx.below.size
      replace hEz := hEz.trans hx
      replace hE := hE.trans hx
      clear hx
      obtain ⟨r1, hr⟩ : ∃ r, r = W2.heap.size := ⟨_, rfl⟩
      rw [← hr] at b1
      try rw [← hr]
      have q1 : r0 < r1 := by omega
      have qb1 : mX ≤ r1 := by omega
      clear hr
      replace qz : r1 < W33.heap.size := b1.lt
      refine wpAnyD_oneL (i := 9) rfl (by kernel_rfl) (fun K hK => ?_)
      rw [if_pos (by rfl)]
      have qb : mX ≤ W33.heap.size := (by rw [hmX]; exact hS.size)
      go_simp
      (try dsimp only); refine hK.out _ _ (fun _ => hS.ext (ext_alloc _ _)) ?_; clear hK K; (try simp only [Act.put, Zs, Zz, Zc])
      refine name_wd (fun W34 hW => ?_)
      have hx : Ext W33 W34 := by rw [hW]; exact ext_alloc _ _
      have b2 : Blk W34 W33.heap.size 28 TV.z.cs := by rw [hW]; exact Blk.newAt rfl
      clear hW
      replace hS := hS.ext hx
      replace b0 := b0.ext hx
      replace b1 := b1.ext hx
      replace ta := isT.ext hx ta
      replace tb := isT.ext hx tb
      replace hra1 := rangeAt.ext hra1 hg1 hx
      replace hrb1 := rangeAt.ext hrb1 hg1 hx
      replace hg1 := Nat.lt_of_lt_of_le hg1 hx.below.size
      replace hEz := hEz.trans hx
      replace hE := hE.trans hx
      clear hx
      obtain ⟨r2, hr⟩ : ∃ r, r = W33.heap.size := ⟨_, rfl⟩
      rw [← hr] at b2
      try rw [← hr]
      have q2 : r1 < r2 := by omega
      have qb2 : mX ≤ r2 := by omega
      clear hr
      replace qz : r2 < W34.heap.size := b2.lt
      refine wpAnyD_oneL (i := 10) rfl (by kernel_rfl) (fun K hK => ?_)
      rw [if_pos (by rfl)]
      refine wp_store_box 28 _ _ (by rfl) b1 (by rfl) (by rfl) (by exact Try.infoT) (by first | exact RV.one _ | exact TV.one _ rfl | exact TV.one _ (isT.one ta) | exact TV.one _ (isT.one tb)) (by rfl) (fun W35 hg bn => ?_)
      replace b0 := b0.kept hg (Zn (by omega))
      replace b2 := b2.kept hg (Zn (by omega))
      replace ta := isT.kept hg (Lw.not (by omega)) ta
      replace tb := isT.kept hg (Lw.not (by omega)) tb
      replace hra1 := rangeAt.kept hra1 hg1 hg (Zn (by omega))
      replace hrb1 := rangeAt.kept hrb1 hg1 hg (Zn (by omega))
      replace hg1 := Nat.lt_of_lt_of_le hg1 hg.size
      replace hEz := ext_grow hEz hg (fun q hq => by cases hq; omega)
      replace hE := ext_grow hE hg (fun q hq => by cases hq; omega)
      replace hS := hS.stepNew hg (by omega)
      clear b1 hg
      have b1 := bn
      clear bn
      (try dsimp only); refine hK.out _ _ (fun _ => hS) ?_; clear hK K; (try simp only [Act.put, Zs, Zz, Zc])
      replace qz : r2 < W35.heap.size := b2.lt
      refine wpAnyD_oneL (i := 11) rfl (by kernel_rfl) (fun K hK => ?_)
      rw [if_pos (by rfl)]
      refine wp_store_box 28 _ _ (by rfl) b2 (by rfl) (by rfl) (by exact Try.infoT) (by first | exact RV.one _ | exact TV.one _ rfl | exact TV.one _ (isT.one ta) | exact TV.one _ (isT.one tb)) (by rfl) (fun W36 hg bn => ?_)
      replace b0 := b0.kept hg (Zn (by omega))
      replace b1 := b1.kept hg (Zn (by omega))
      replace ta := isT.kept hg (Lw.not (by omega)) ta
      replace tb := isT.kept hg (Lw.not (by omega)) tb
      replace hra1 := rangeAt.kept hra1 hg1 hg (Zn (by omega))
      replace hrb1 := rangeAt.kept hrb1 hg1 hg (Zn (by omega))
      replace hg1 := Nat.lt_of_lt_of_le hg1 hg.size
      replace hEz := ext_grow hEz hg (fun q hq => by cases hq; omega)
      replace hE := ext_grow hE hg (fun q hq => by cases hq; omega)
      replace hS := hS.stepNew hg (by omega)
      clear b2 hg
      have b2 := bn
      clear bn
      (try dsimp only); refine hK.out _ _ (fun _ => hS) ?_; clear hK K; (try simp only [Act.put, Zs, Zz, Zc])
      replace qz : r2 < W36.heap.size := b2.lt
      refine wpAnyD_done (by kernel_rfl) ?_ _
      clear hS hmX x0
      simp only [Exit.then]; go_step; go_meet
      exact ⟨r1, r2, rfl, rfl, by omega, by omega, by omega, b1, b2, hEz⟩
    · rw [if_pos (by rfl)]
      have qb : mX ≤ W2.heap.size := (by rw [hmX]; exact hS.size)
      go_simp
      (try dsimp only); refine hK.out _ _ (fun _ => hS.ext (ext_alloc _ _)) ?_; clear hK K; (try simp only [Act.put, Zs, Zz, Zc])
      refine name_wd (fun W63 hW => ?_)
      have hx : Ext W2 W63 := by rw [hW]; exact ext_alloc _ _
      have b1 : Blk W63 W2.heap.size 28 TV.z.cs := by rw [hW]; exact Blk.newAt rfl
      clear hW
      replace hS := hS.ext hx
      replace b0 := b0.ext hx
      replace ta := isT.ext hx ta
      replace tb := isT.ext hx tb
      replace hra1 := rangeAt.ext hra1 hg1 hx
      replace hrb1 := rangeAt.ext hrb1 hg1 hx
      replace hg1 := Nat.lt_of_lt_of_le hg1 hx.below.size
      replace hEz := hEz.trans hx
      replace hE := hE.trans hx
      clear hx
      obtain ⟨r1, hr⟩ : ∃ r, r = W2.heap.size := ⟨_, rfl⟩
      rw [← hr] at b1
      try rw [← hr]
      have q1 : r0 < r1 := by omega
      have qb1 : mX ≤ r1 := by omega
      clear hr
      replace qz : r1 < W63.heap.size := b1.lt
      refine wpAnyD_oneL (i := 8) rfl (by kernel_rfl) (fun K hK => ?_)
      rw [if_pos (by rfl)]
      have qb : mX ≤ W63.heap.size := (by rw [hmX]; exact hS.size)
      go_simp
      (try dsimp only); refine hK.out _ _ (fun _ => hS.ext (ext_alloc _ _)) ?_; clear hK K; (try simp only [Act.put, Zs, Zz, Zc])
      refine name_wd (fun W64 hW => ?_)
      have hx : Ext W63 W64 := by rw [hW]; exact ext_alloc _ _
      have b2 : Blk W64 W63.heap.size 28 TV.z.cs := by rw [hW]; exact Blk.newAt rfl
      clear hW
      replace hS := hS.ext hx
      replace b0 := b0.ext hx
      replace b1 := b1.ext hx
      replace ta := isT.ext hx ta
      replace tb := isT.ext hx tb
      replace hra1 := rangeAt.ext hra1 hg1 hx
      replace hrb1 := rangeAt.ext hrb1 hg1 hx
      replace hg1 := Nat.lt_of_lt_of_le hg1 hx.below.size
      replace hEz := hEz.trans hx
      replace hE := hE.trans hx
      clear hx
      obtain ⟨r2, hr⟩ : ∃ r, r = W63.heap.size := ⟨_, rfl⟩
      rw [← hr] at b2
      try rw [← hr]
      have q2 : r1 < r2 := by omega
      have qb2 : mX ≤ r2 := by omega
      clear hr
      replace qz : r2 < W64.heap.size := b2.lt
      refine wpAnyD_oneL (i := 10) rfl (by kernel_rfl) (fun K hK => ?_)
      rw [if_pos (by rfl)]
      refine wp_store_box 28 _ _ (by rfl) b2 (by rfl) (by rfl) (by exact Try.infoT) (by first | exact RV.one _ | exact TV.one _ rfl | exact TV.one _ (isT.one ta) | exact TV.one _ (isT.one tb)) (by rfl) (fun W65 hg bn => ?_)
      replace b0 := b0.kept hg (Zn (by omega))
      replace b1 := b1.kept hg (Zn (by omega))
      replace ta := isT.kept hg (Lw.not (by omega)) ta
      replace tb := isT.kept hg (Lw.not (by omega)) tb
      replace hra1 := rangeAt.kept hra1 hg1 hg (Zn (by omega))
      replace hrb1 := rangeAt.kept hrb1 hg1 hg (Zn (by omega))
      replace hg1 := Nat.lt_of_lt_of_le hg1 hg.size
      replace hEz := ext_grow hEz hg (fun q hq => by cases hq; omega)
      replace hE := ext_grow hE hg (fun q hq => by cases hq; omega)
      replace hS := hS.stepNew hg (by omega)
      clear b2 hg
      have b2 := bn
      clear bn
      (try dsimp only); refine hK.out _ _ (fun _ => hS) ?_; clear hK K; (try simp only [Act.put, Zs, Zz, Zc])
      replace qz : r2 < W65.heap.size := b2.lt
      refine wpAnyD_oneL (i := 11) rfl (by kernel_rfl) (fun K hK => ?_)
      rw [if_pos (by rfl)]
      refine wp_store_box 28 _ _ (by rfl) b1 (by rfl) (by rfl) (by exact Try.infoT) (by first | exact RV.one _ | exact TV.one _ rfl | exact TV.one _ (isT.one ta) | exact TV.one _ (isT.one tb)) (by rfl) (fun W66 hg bn => ?_)
      replace b0 := b0.kept hg (Zn (by omega))
      replace b2 := b2.kept hg (Zn (by omega))
      replace ta := isT.kept hg (Lw.not (by omega)) ta
      replace tb := isT.kept hg (Lw.not (by omega)) tb
      replace hra1 := rangeAt.kept hra1 hg1 hg (Zn (by omega))
      replace hrb1 := rangeAt.kept hrb1 hg1 hg (Zn (by omega))
      replace hg1 := Nat.lt_of_lt_of_le hg1 hg.size
      replace hEz := ext_grow hEz hg (fun q hq => by cases hq; omega)
      replace hE := ext_grow hE hg (fun q hq => by cases hq; omega)
      replace hS := hS.stepNew hg (by omega)
      clear b1 hg
      have b1 := bn
      clear bn
      (try dsimp only); refine hK.out _ _ (fun _ => hS) ?_; clear hK K; (try simp only [Act.put, Zs, Zz, Zc])
      replace qz : r2 < W66.heap.size := b2.lt
      refine wpAnyD_done (by kernel_rfl) ?_ _
      clear hS hmX x0
      simp only [Exit.then]; go_step; go_meet
      exact ⟨r2, r1, rfl, rfl, by omega, by omega, by omega, b2, b1, hEz⟩
  obtain ⟨r1, r2, rfl, rfl, q1x, q2x, qne1, b1, b2, hx⟩ := hcut
  obtain ⟨W2, rfl⟩ : ∃ W, W = wc := ⟨_, rfl⟩
  replace b0 := b0.ext hx
  replace ta := isT.ext hx ta
  replace tb := isT.ext hx tb
  replace hra1 := rangeAt.ext hra1 hg1 hx
  replace hrb1 := rangeAt.ext hrb1 hg1 hx
  replace hg1 := Nat.lt_of_lt_of_le hg1 hx.below.size
  replace hE := hE.trans hx
  clear hx
  replace qz : r0 < W2.heap.size := b0.lt
  replace qz : r2 < W2.heap.size := b2.lt
  have qz1 : r1 < W2.heap.size := b1.lt
  clear ya1 yb1 yg1 hra1 hrb1 hg1
  go_upto_region 4 with fail
  refine wp_region_lit ?_
  refine wpList_plain rfl (fun K hK => ?_); (first | (refine wp_ld 28 _ (b1.range) (by rfl) (by rfl) Try.underlying28 rfl (by exact Try.infoT) ?_)); (try dsimp only); refine hK _ _ ?_; clear hK K; (try simp only [Act.put, Zs, Zz, Zc])
  refine wpList_plain rfl (fun K hK => ?_); go_simp; (go_at_call 49; refine (rnum_is iha ta.low hva (by omega) h1.out).mono ?_; intro e W3 hpp; obtain ⟨rfl, hx⟩ := hpp); (try dsimp only); refine hK _ _ ?_; clear hK K; (try simp only [Act.put, Zs, Zz, Zc])
  replace b0 := b0.ext hx
  replace b1 := b1.ext hx
  replace b2 := b2.ext hx
  replace ta := isT.ext hx ta
  replace tb := isT.ext hx tb
  replace hE := hE.trans hx
  clear hx
  replace qz : r2 < W3.heap.size := b2.lt
  replace qz1 : r1 < W3.heap.size := b1.lt
  iterate 2 (refine wpList_plain rfl (fun K hK => ?_); go_simp; (try dsimp only); refine hK _ _ ?_; clear hK K; (try simp only [Act.put, Zs, Zz, Zc]))
  refine wpList_step (fun K hK => ?_); rw [if_pos (by rfl)]; (first | (refine wp_ld 28 _ (b2.range) (by rfl) (by rfl) Try.underlying28 rfl (by exact Try.infoT) ?_)); (try dsimp only); refine hK _ _ ?_; clear hK K; (try simp only [Act.put, Zs, Zz, Zc])
  refine wpList_step (fun K hK => ?_); rw [if_pos (by rfl)]; go_simp; (go_at_call 49; refine (rnum_is ihb tb.low hvb (by omega) h2.out).mono ?_; intro e W4 hpp; obtain ⟨rfl, hx⟩ := hpp); (try dsimp only); refine hK _ _ ?_; clear hK K; (try simp only [Act.put, Zs, Zz, Zc])
  replace b0 := b0.ext hx
  replace b1 := b1.ext hx
  replace b2 := b2.ext hx
  replace ta := isT.ext hx ta
  replace tb := isT.ext hx tb
  replace hE := hE.trans hx
  clear hx
  replace qz : r2 < W4.heap.size := b2.lt
  replace qz1 : r1 < W4.heap.size := b1.lt
  refine wpList_step (fun K hK => ?_); rw [if_pos (by rfl)]; go_simp; (try dsimp only); refine hK _ _ ?_; clear hK K; (try simp only [Act.put, Zs, Zz, Zc])
  refine wpList_plain rfl (fun K hK => ?_); go_simp; (try dsimp only); refine hK _ _ ?_; clear hK K; (try simp only [Act.put, Zs, Zz, Zc])
  refine wpList_nil ?_
  go_upto_region 6 with fail
  refine wp_region_lit ?_
  iterate 4 (refine wpList_plain rfl (fun K hK => ?_); (first | (refine wp_ld 28 _ (b1.range) (by rfl) (by rfl) Try.underlying28 rfl (by exact Try.infoT) ?_) | (refine wp_ld 25 _ (Blk.rgn b0) (by rfl) (by rfl) Try.underlying25 rfl (by exact Try.infoR) ?_) | (refine wp_ld 28 _ (b2.range) (by rfl) (by rfl) Try.underlying28 rfl (by exact Try.infoT) ?_) | go_simp); (try dsimp only); refine hK _ _ ?_; clear hK K; (try simp only [Act.put, Zs, Zz, Zc]))
  refine wpList_plain rfl (fun K hK => ?_); go_simp; (go_at_call 55; refine (rnode_any va y vb _ hvy m1.1 m2.1).mono ?_; intro e W5 hpp; obtain ⟨gk, rfl, hbk, hgk, hx⟩ := hpp); (try dsimp only); refine hK _ _ ?_; clear hK K; (try simp only [Act.put, Zs, Zz, Zc])
  replace b0 := b0.ext hx
  replace b1 := b1.ext hx
  replace b2 := b2.ext hx
  replace ta := isT.ext hx ta
  replace tb := isT.ext hx tb
  replace hE := hE.trans hx
  clear hx
  replace qz : r2 < W5.heap.size := b2.lt
  replace qz1 : r1 < W5.heap.size := b1.lt
  clear hbk hgk
  refine wpList_plain rfl (fun K hK => ?_); go_simp; (try dsimp only); refine hK _ _ ?_; clear hK K; (try simp only [Act.put, Zs, Zz, Zc])
  refine name_wl (fun W6 hW => ?_)
  have hx : Ext W5 W6 := by rw [hW]; exact ext_alloc _ _
  have b3 : Blk W6 W5.heap.size 28 TV.z.cs := by rw [hW]; exact Blk.newAt rfl
  clear hW
  replace b0 := b0.ext hx
  replace b1 := b1.ext hx
  replace b2 := b2.ext hx
  replace ta := isT.ext hx ta
  replace tb := isT.ext hx tb
  replace hE := hE.trans hx
  clear hx
  obtain ⟨r3, hr⟩ : ∃ r, r = W5.heap.size := ⟨_, rfl⟩
  rw [← hr] at b3
  try rw [← hr]
  have q3 : r2 < r3 := by omega
  have q3_1 : r1 < r3 := by omega
  replace qz1 : r1 < W6.heap.size := b1.lt
  clear hr
  replace qz : r3 < W6.heap.size := b3.lt
  refine wpList_plain rfl (fun K hK => ?_)
  refine wp_store_box 28 _ _ (by rfl) b3 (by rfl) (by rfl) (by exact Try.infoT) (by first | exact RV.one _ | exact TV.one _ rfl | exact TV.one _ (isT.one ta) | exact TV.one _ (isT.one tb)) (by rfl) (fun W7 hg bn => ?_)
  replace b0 := b0.kept hg (Zn (by omega))
  replace b1 := b1.kept hg (Zn (by omega))
  replace b2 := b2.kept hg (Zn (by omega))
  replace ta := isT.kept hg (Lw.not (by omega)) ta
  replace tb := isT.kept hg (Lw.not (by omega)) tb
  replace hE := ext_grow hE hg (fun q hq => by cases hq; omega)
  clear b3 hg
  have b3 := bn
  clear bn
  (try dsimp only); refine hK _ _ ?_; clear hK K; (try simp only [Act.put, Zs, Zz, Zc])
  replace qz : r3 < W7.heap.size := b3.lt
  replace qz1 : r1 < W7.heap.size := b1.lt
  refine wpList_nil ?_
  go_upto_region 7 with fail
  have c0 : W7.cell? ⟨r3, 0, none⟩ = some (.int .i64 (nodeV va y vb (.slice (some ⟨gk, 0, none⟩) 2 2)).h) := b3.cell 0
  have d0 : W7.cell? ⟨r0, 0, none⟩ = some (.int .i64 h) := b0.cell 0
  have c1 : W7.cell? ⟨r3, 1, none⟩ = some (.int .i64 (nodeV va y vb (.slice (some ⟨gk, 0, none⟩) 2 2)).f) := b3.cell 1
  have d1 : W7.cell? ⟨r0, 1, none⟩ = some (.int .i64 f) := b0.cell 1
  have c2 : W7.cell? ⟨r3, 2, none⟩ = some (.int .i64 (nodeV va y vb (.slice (some ⟨gk, 0, none⟩) 2 2)).l) := b3.cell 2
  have d2 : W7.cell? ⟨r0, 2, none⟩ = some (.int .i64 l) := b0.cell 2
  have c3 : W7.cell? ⟨r3, 3, none⟩ = some (.int .i64 (nodeV va y vb (.slice (some ⟨gk, 0, none⟩) 2 2)).g) := b3.cell 3
  have d3 : W7.cell? ⟨r0, 3, none⟩ = some (.int .i64 gg) := b0.cell 3
  have fva : W7.cell? ⟨r1, 0, none⟩ = some (.int .i64 va.h) := b1.cell 0
  have fvb : W7.cell? ⟨r2, 0, none⟩ = some (.int .i64 vb.h) := b2.cell 0
  have z0 : LtD r0 W7.heap.size := b0.lt
  have z1 : LtD r1 W7.heap.size := b1.lt
  have z2 : LtD r2 W7.heap.size := b2.lt
  have z3 : LtD r3 W7.heap.size := b3.lt
  go_upto_region 9999 with (first | ((with_reducible (apply wp_cond_split)); rfl; (all_goals intro hcd); (all_goals (first | (exfalso; exact Bool.noConfusion hcd) | ((try simp only [hcd]); go_prune)))) | ((fail_if_success go_not_at_region 3); go_region) | ((fail_if_success go_not_at_region 7); ((with_reducible refine wp_region_same ?_); (first | go_big_quiet_step (fail) | quiet_step (fail)); (first | go_big_quiet_step (fail) | quiet_step (fail)); (first | go_big_quiet_step (fail) | quiet_step (fail)); (first | go_big_quiet_step (fail) | quiet_step (fail)); (first | go_big_quiet_step (fail) | quiet_step (fail)); (first | go_big_quiet_step (fail) | quiet_step (fail)); (first | go_big_quiet_step (fail) | (refine wpQuiet_liftE (wanted_T rfl rfl rfl) ?_; refine lift_fieldAddr rfl rfl ?_; apply Exists.intro; refine ⟨fun hgd => ?_, ?_⟩; (focus ((try simp only [Ya, Ye, Yb, Yd, Yc, Yg, Ys, Yt, Yh, Yi, Yj, Yk, Yl, Ym, Yn, int_eq_le, Yo, Yp] at hgd); (try simp only [Act.put, Zs, Zz, Zc]); go_simp; (try simp (disch := omega) only [Yq, Yr]); (first | done | exact rfl | (intro _; exact rfl)))); simp only [Act.put, Zs, Zz, Zc])); (first | go_big_quiet_step (fail) | (refine wpQuiet_liftE (wanted_T rfl rfl rfl) ?_; refine lift_put (n := 36) rfl (fun h => h) ?_; refine lift_load rfl rfl ?_; apply Exists.intro; refine ⟨fun hgd => ?_, ?_⟩; (focus ((try simp only [Ya, Ye, Yb, Yd, Yc, Yg, Ys, Yt, Yh, Yi, Yj, Yk, Yl, Ym, Yn, int_eq_le, Yo, Yp] at hgd); (try simp only [Act.put, Zs, Zz, Zc]); go_simp; (try simp (disch := omega) only [Yq, Yr]); (first | done | exact rfl | (intro _; exact rfl)))); simp only [Act.put, Zs, Zz, Zc])); (first | go_big_quiet_step (fail) | (refine wpQuiet_liftE (wanted_T rfl rfl rfl) ?_; refine lift_fieldAddr rfl rfl ?_; apply Exists.intro; refine ⟨fun hgd => ?_, ?_⟩; (focus ((try simp only [Ya, Ye, Yb, Yd, Yc, Yg, Ys, Yt, Yh, Yi, Yj, Yk, Yl, Ym, Yn, int_eq_le, Yo, Yp] at hgd); (try simp only [Act.put, Zs, Zz, Zc]); go_simp; (try simp (disch := omega) only [Yq, Yr]); (first | done | exact rfl | (intro _; exact rfl)))); simp only [Act.put, Zs, Zz, Zc])); (first | go_big_quiet_step (fail) | (refine wpQuiet_liftE (wanted_T rfl rfl rfl) ?_; refine lift_put (n := 38) rfl (fun h => h) ?_; refine lift_load rfl rfl ?_; apply Exists.intro; refine ⟨fun hgd => ?_, ?_⟩; (focus ((try simp only [Ya, Ye, Yb, Yd, Yc, Yg, Ys, Yt, Yh, Yi, Yj, Yk, Yl, Ym, Yn, int_eq_le, Yo, Yp] at hgd); (try simp only [Act.put, Zs, Zz, Zc]); go_simp; (try simp (disch := omega) only [Yq, Yr]); (first | done | exact rfl | (intro _; exact rfl)))); simp only [Act.put, Zs, Zz, Zc])); (first | go_big_quiet_step (fail) | (refine wpQuiet_liftE (wanted_T rfl rfl rfl) ?_; refine lift_put (n := 37) rfl (fun h => h) ?_; refine lift_put (n := 39) rfl (fun h => h) ?_; refine lift_binOp_tt rfl rfl rfl ?_; apply Exists.intro; refine ⟨fun hgd => ?_, ?_⟩; (focus ((try simp only [Ya, Ye, Yb, Yd, Yc, Yg, Ys, Yt, Yh, Yi, Yj, Yk, Yl, Ym, Yn, int_eq_le, Yo, Yp] at hgd); (try simp only [Act.put, Zs, Zz, Zc]); go_simp; (try simp (disch := omega) only [Yq, Yr]); (first | done | exact rfl | (intro _; exact rfl)))); simp only [Act.put, Zs, Zz, Zc])); (first | (refine wpQuiet_pick_and rfl rfl rfl rfl ?_; simp only [Act.put, Zs, Zz, Zc]) | go_big_quiet_step (fail)); (first | go_big_quiet_step (fail) | quiet_step (fail)); (first | go_big_quiet_step (fail) | (refine wpQuiet_liftE (wanted_T rfl rfl rfl) ?_; refine lift_fieldAddr rfl rfl ?_; apply Exists.intro; refine ⟨fun hgd => ?_, ?_⟩; (focus ((try simp only [Ya, Ye, Yb, Yd, Yc, Yg, Ys, Yt, Yh, Yi, Yj, Yk, Yl, Ym, Yn, int_eq_le, Yo, Yp] at hgd); (try simp only [Act.put, Zs, Zz, Zc]); go_simp; (try simp (disch := omega) only [Yq, Yr]); (first | done | exact rfl | (intro _; exact rfl)))); simp only [Act.put, Zs, Zz, Zc])); (first | go_big_quiet_step (fail) | (refine wpQuiet_liftE (wanted_T rfl rfl rfl) ?_; refine lift_put (n := 43) rfl (fun h => h) ?_; refine lift_load rfl rfl ?_; apply Exists.intro; refine ⟨fun hgd => ?_, ?_⟩; (focus ((try simp only [Ya, Ye, Yb, Yd, Yc, Yg, Ys, Yt, Yh, Yi, Yj, Yk, Yl, Ym, Yn, int_eq_le, Yo, Yp] at hgd); (try simp only [Act.put, Zs, Zz, Zc]); go_simp; (try simp (disch := omega) only [Yq, Yr]); (first | done | exact rfl | (intro _; exact rfl)))); simp only [Act.put, Zs, Zz, Zc])); (first | go_big_quiet_step (fail) | (refine wpQuiet_liftE (wanted_T rfl rfl rfl) ?_; refine lift_fieldAddr rfl rfl ?_; apply Exists.intro; refine ⟨fun hgd => ?_, ?_⟩; (focus ((try simp only [Ya, Ye, Yb, Yd, Yc, Yg, Ys, Yt, Yh, Yi, Yj, Yk, Yl, Ym, Yn, int_eq_le, Yo, Yp] at hgd); (try simp only [Act.put, Zs, Zz, Zc]); go_simp; (try simp (disch := omega) only [Yq, Yr]); (first | done | exact rfl | (intro _; exact rfl)))); simp only [Act.put, Zs, Zz, Zc])); (first | go_big_quiet_step (fail) | (refine wpQuiet_liftE (wanted_T rfl rfl rfl) ?_; refine lift_put (n := 45) rfl (fun h => h) ?_; refine lift_load rfl rfl ?_; apply Exists.intro; refine ⟨fun hgd => ?_, ?_⟩; (focus ((try simp only [Ya, Ye, Yb, Yd, Yc, Yg, Ys, Yt, Yh, Yi, Yj, Yk, Yl, Ym, Yn, int_eq_le, Yo, Yp] at hgd); (try simp only [Act.put, Zs, Zz, Zc]); go_simp; (try simp (disch := omega) only [Yq, Yr]); (first | done | exact rfl | (intro _; exact rfl)))); simp only [Act.put, Zs, Zz, Zc])); (first | go_big_quiet_step (fail) | (refine wpQuiet_liftE (wanted_T rfl rfl rfl) ?_; refine lift_put (n := 44) rfl (fun h => h) ?_; refine lift_put (n := 46) rfl (fun h => h) ?_; refine lift_binOp_tt rfl rfl rfl ?_; apply Exists.intro; refine ⟨fun hgd => ?_, ?_⟩; (focus ((try simp only [Ya, Ye, Yb, Yd, Yc, Yg, Ys, Yt, Yh, Yi, Yj, Yk, Yl, Ym, Yn, int_eq_le, Yo, Yp] at hgd); (try simp only [Act.put, Zs, Zz, Zc]); go_simp; (try simp (disch := omega) only [Yq, Yr]); (first | done | exact rfl | (intro _; exact rfl)))); simp only [Act.put, Zs, Zz, Zc])); (first | (refine wpQuiet_pick_and rfl rfl rfl rfl ?_; simp only [Act.put, Zs, Zz, Zc]) | go_big_quiet_step (fail)); (first | go_big_quiet_step (fail) | quiet_step (fail)); (first | go_big_quiet_step (fail) | (refine wpQuiet_liftE (wanted_T rfl rfl rfl) ?_; refine lift_fieldAddr rfl rfl ?_; apply Exists.intro; refine ⟨fun hgd => ?_, ?_⟩; (focus ((try simp only [Ya, Ye, Yb, Yd, Yc, Yg, Ys, Yt, Yh, Yi, Yj, Yk, Yl, Ym, Yn, int_eq_le, Yo, Yp] at hgd); (try simp only [Act.put, Zs, Zz, Zc]); go_simp; (try simp (disch := omega) only [Yq, Yr]); (first | done | exact rfl | (intro _; exact rfl)))); simp only [Act.put, Zs, Zz, Zc])); (first | go_big_quiet_step (fail) | (refine wpQuiet_liftE (wanted_T rfl rfl rfl) ?_; refine lift_put (n := 50) rfl (fun h => h) ?_; refine lift_load rfl rfl ?_; apply Exists.intro; refine ⟨fun hgd => ?_, ?_⟩; (focus ((try simp only [Ya, Ye, Yb, Yd, Yc, Yg, Ys, Yt, Yh, Yi, Yj, Yk, Yl, Ym, Yn, int_eq_le, Yo, Yp] at hgd); (try simp only [Act.put, Zs, Zz, Zc]); go_simp; (try simp (disch := omega) only [Yq, Yr]); (first | done | exact rfl | (intro _; exact rfl)))); simp only [Act.put, Zs, Zz, Zc])); (first | go_big_quiet_step (fail) | (refine wpQuiet_liftE (wanted_T rfl rfl rfl) ?_; refine lift_fieldAddr rfl rfl ?_; apply Exists.intro; refine ⟨fun hgd => ?_, ?_⟩; (focus ((try simp only [Ya, Ye, Yb, Yd, Yc, Yg, Ys, Yt, Yh, Yi, Yj, Yk, Yl, Ym, Yn, int_eq_le, Yo, Yp] at hgd); (try simp only [Act.put, Zs, Zz, Zc]); go_simp; (try simp (disch := omega) only [Yq, Yr]); (first | done | exact rfl | (intro _; exact rfl)))); simp only [Act.put, Zs, Zz, Zc])); (first | go_big_quiet_step (fail) | (refine wpQuiet_liftE (wanted_T rfl rfl rfl) ?_; refine lift_put (n := 52) rfl (fun h => h) ?_; refine lift_load rfl rfl ?_; apply Exists.intro; refine ⟨fun hgd => ?_, ?_⟩; (focus ((try simp only [Ya, Ye, Yb, Yd, Yc, Yg, Ys, Yt, Yh, Yi, Yj, Yk, Yl, Ym, Yn, int_eq_le, Yo, Yp] at hgd); (try simp only [Act.put, Zs, Zz, Zc]); go_simp; (try simp (disch := omega) only [Yq, Yr]); (first | done | exact rfl | (intro _; exact rfl)))); simp only [Act.put, Zs, Zz, Zc])); (first | go_big_quiet_step (fail) | (refine wpQuiet_liftE (wanted_T rfl rfl rfl) ?_; refine lift_put (n := 51) rfl (fun h => h) ?_; refine lift_put (n := 53) rfl (fun h => h) ?_; refine lift_binOp_tt rfl rfl rfl ?_; apply Exists.intro; refine ⟨fun hgd => ?_, ?_⟩; (focus ((try simp only [Ya, Ye, Yb, Yd, Yc, Yg, Ys, Yt, Yh, Yi, Yj, Yk, Yl, Ym, Yn, int_eq_le, Yo, Yp] at hgd); (try simp only [Act.put, Zs, Zz, Zc]); go_simp; (try simp (disch := omega) only [Yq, Yr]); (first | done | exact rfl | (intro _; exact rfl)))); simp only [Act.put, Zs, Zz, Zc])); (first | (refine wpQuiet_pick_and rfl rfl rfl rfl ?_; simp only [Act.put, Zs, Zz, Zc]) | go_big_quiet_step (fail)); (first | go_big_quiet_step (fail) | quiet_step (fail)); (first | go_big_quiet_step (fail) | (refine wpQuiet_liftE (wanted_T rfl rfl rfl) ?_; refine lift_fieldAddr rfl rfl ?_; apply Exists.intro; refine ⟨fun hgd => ?_, ?_⟩; (focus ((try simp only [Ya, Ye, Yb, Yd, Yc, Yg, Ys, Yt, Yh, Yi, Yj, Yk, Yl, Ym, Yn, int_eq_le, Yo, Yp] at hgd); (try simp only [Act.put, Zs, Zz, Zc]); go_simp; (try simp (disch := omega) only [Yq, Yr]); (first | done | exact rfl | (intro _; exact rfl)))); simp only [Act.put, Zs, Zz, Zc])); (first | go_big_quiet_step (fail) | (refine wpQuiet_liftE (wanted_T rfl rfl rfl) ?_; refine lift_put (n := 57) rfl (fun h => h) ?_; refine lift_load rfl rfl ?_; apply Exists.intro; refine ⟨fun hgd => ?_, ?_⟩; (focus ((try simp only [Ya, Ye, Yb, Yd, Yc, Yg, Ys, Yt, Yh, Yi, Yj, Yk, Yl, Ym, Yn, int_eq_le, Yo, Yp] at hgd); (try simp only [Act.put, Zs, Zz, Zc]); go_simp; (try simp (disch := omega) only [Yq, Yr]); (first | done | exact rfl | (intro _; exact rfl)))); simp only [Act.put, Zs, Zz, Zc])); (first | go_big_quiet_step (fail) | (refine wpQuiet_liftE (wanted_T rfl rfl rfl) ?_; refine lift_fieldAddr rfl rfl ?_; apply Exists.intro; refine ⟨fun hgd => ?_, ?_⟩; (focus ((try simp only [Ya, Ye, Yb, Yd, Yc, Yg, Ys, Yt, Yh, Yi, Yj, Yk, Yl, Ym, Yn, int_eq_le, Yo, Yp] at hgd); (try simp only [Act.put, Zs, Zz, Zc]); go_simp; (try simp (disch := omega) only [Yq, Yr]); (first | done | exact rfl | (intro _; exact rfl)))); simp only [Act.put, Zs, Zz, Zc])); (first | go_big_quiet_step (fail) | (refine wpQuiet_liftE (wanted_T rfl rfl rfl) ?_; refine lift_put (n := 59) rfl (fun h => h) ?_; refine lift_load rfl rfl ?_; apply Exists.intro; refine ⟨fun hgd => ?_, ?_⟩; (focus ((try simp only [Ya, Ye, Yb, Yd, Yc, Yg, Ys, Yt, Yh, Yi, Yj, Yk, Yl, Ym, Yn, int_eq_le, Yo, Yp] at hgd); (try simp only [Act.put, Zs, Zz, Zc]); go_simp; (try simp (disch := omega) only [Yq, Yr]); (first | done | exact rfl | (intro _; exact rfl)))); simp only [Act.put, Zs, Zz, Zc])); (first | go_big_quiet_step (fail) | (refine wpQuiet_liftE (wanted_T rfl rfl rfl) ?_; refine lift_put (n := 60) rfl (fun h => h) ?_; refine lift_binOp_tc rfl rfl ?_; apply Exists.intro; refine ⟨fun hgd => ?_, ?_⟩; (focus ((try simp only [Ya, Ye, Yb, Yd, Yc, Yg, Ys, Yt, Yh, Yi, Yj, Yk, Yl, Ym, Yn, int_eq_le, Yo, Yp] at hgd); (try simp only [Act.put, Zs, Zz, Zc]); go_simp; (try simp (disch := omega) only [Yq, Yr]); (first | done | exact rfl | (intro _; exact rfl)))); simp only [Act.put, Zs, Zz, Zc])); (first | go_big_quiet_step (fail) | (refine wpQuiet_liftE (wanted_T rfl rfl rfl) ?_; refine lift_put (n := 58) rfl (fun h => h) ?_; refine lift_put (n := 61) rfl (fun h => h) ?_; refine lift_binOp_tt rfl rfl rfl ?_; apply Exists.intro; refine ⟨fun hgd => ?_, ?_⟩; (focus ((try simp only [Ya, Ye, Yb, Yd, Yc, Yg, Ys, Yt, Yh, Yi, Yj, Yk, Yl, Ym, Yn, int_eq_le, Yo, Yp] at hgd); (try simp only [Act.put, Zs, Zz, Zc]); go_simp; (try simp (disch := omega) only [Yq, Yr]); (first | done | exact rfl | (intro _; exact rfl)))); simp only [Act.put, Zs, Zz, Zc])); (first | (refine wpQuiet_pick_and rfl rfl rfl rfl ?_; simp only [Act.put, Zs, Zz, Zc]) | go_big_quiet_step (fail)); (first | go_big_quiet_step (fail) | quiet_step (fail)); (first | go_big_quiet_step (fail) | (refine wpQuiet_liftE (wanted_T rfl rfl rfl) ?_; refine lift_fieldAddr rfl rfl ?_; apply Exists.intro; refine ⟨fun hgd => ?_, ?_⟩; (focus ((try simp only [Ya, Ye, Yb, Yd, Yc, Yg, Ys, Yt, Yh, Yi, Yj, Yk, Yl, Ym, Yn, int_eq_le, Yo, Yp] at hgd); (try simp only [Act.put, Zs, Zz, Zc]); go_simp; (try simp (disch := omega) only [Yq, Yr]); (first | done | exact rfl | (intro _; exact rfl)))); simp only [Act.put, Zs, Zz, Zc])); (first | go_big_quiet_step (fail) | (refine wpQuiet_liftE (wanted_T rfl rfl rfl) ?_; refine lift_put (n := 65) rfl (fun h => h) ?_; refine lift_load rfl rfl ?_; apply Exists.intro; refine ⟨fun hgd => ?_, ?_⟩; (focus ((try simp only [Ya, Ye, Yb, Yd, Yc, Yg, Ys, Yt, Yh, Yi, Yj, Yk, Yl, Ym, Yn, int_eq_le, Yo, Yp] at hgd); (try simp only [Act.put, Zs, Zz, Zc]); go_simp; (try simp (disch := omega) only [Yq, Yr]); (first | done | exact rfl | (intro _; exact rfl)))); simp only [Act.put, Zs, Zz, Zc])); (first | go_big_quiet_step (fail) | (refine wpQuiet_liftE (wanted_T rfl rfl rfl) ?_; refine lift_fieldAddr rfl rfl ?_; apply Exists.intro; refine ⟨fun hgd => ?_, ?_⟩; (focus ((try simp only [Ya, Ye, Yb, Yd, Yc, Yg, Ys, Yt, Yh, Yi, Yj, Yk, Yl, Ym, Yn, int_eq_le, Yo, Yp] at hgd); (try simp only [Act.put, Zs, Zz, Zc]); go_simp; (try simp (disch := omega) only [Yq, Yr]); (first | done | exact rfl | (intro _; exact rfl)))); simp only [Act.put, Zs, Zz, Zc])); (first | go_big_quiet_step (fail) | (refine wpQuiet_liftE (wanted_T rfl rfl rfl) ?_; refine lift_put (n := 67) rfl (fun h => h) ?_; refine lift_load rfl rfl ?_; apply Exists.intro; refine ⟨fun hgd => ?_, ?_⟩; (focus ((try simp only [Ya, Ye, Yb, Yd, Yc, Yg, Ys, Yt, Yh, Yi, Yj, Yk, Yl, Ym, Yn, int_eq_le, Yo, Yp] at hgd); (try simp only [Act.put, Zs, Zz, Zc]); go_simp; (try simp (disch := omega) only [Yq, Yr]); (first | done | exact rfl | (intro _; exact rfl)))); simp only [Act.put, Zs, Zz, Zc])); (first | go_big_quiet_step (fail) | (refine wpQuiet_liftE (wanted_T rfl rfl rfl) ?_; refine lift_put (n := 68) rfl (fun h => h) ?_; refine lift_binOp_tc rfl rfl ?_; apply Exists.intro; refine ⟨fun hgd => ?_, ?_⟩; (focus ((try simp only [Ya, Ye, Yb, Yd, Yc, Yg, Ys, Yt, Yh, Yi, Yj, Yk, Yl, Ym, Yn, int_eq_le, Yo, Yp] at hgd); (try simp only [Act.put, Zs, Zz, Zc]); go_simp; (try simp (disch := omega) only [Yq, Yr]); (first | done | exact rfl | (intro _; exact rfl)))); simp only [Act.put, Zs, Zz, Zc])); (first | go_big_quiet_step (fail) | (refine wpQuiet_liftE (wanted_T rfl rfl rfl) ?_; refine lift_put (n := 66) rfl (fun h => h) ?_; refine lift_put (n := 69) rfl (fun h => h) ?_; refine lift_binOp_tt rfl rfl rfl ?_; apply Exists.intro; refine ⟨fun hgd => ?_, ?_⟩; (focus ((try simp only [Ya, Ye, Yb, Yd, Yc, Yg, Ys, Yt, Yh, Yi, Yj, Yk, Yl, Ym, Yn, int_eq_le, Yo, Yp] at hgd); (try simp only [Act.put, Zs, Zz, Zc]); go_simp; (try simp (disch := omega) only [Yq, Yr]); (first | done | exact rfl | (intro _; exact rfl)))); simp only [Act.put, Zs, Zz, Zc])); (first | (refine wpQuiet_pick_and rfl rfl rfl rfl ?_; simp only [Act.put, Zs, Zz, Zc]) | go_big_quiet_step (fail)); (first | go_big_quiet_step (fail) | quiet_step (fail)); (with_reducible refine wpQuiet_nil ?_); intro wq hwq; subst hwq)))
  go_ret
  exact ⟨ret_b (by rw [HR.out, ← HN.out]; rfl), hE⟩

theorem rnum_P : ∀ t : BT, NumROK t
  | .E => rnum_E
  | .N h f l g a y b => by
    intro A v w ht hv hd
    cases h1 : numR a with
    | false => exact rnum_f (rnum_P a) (rnum_P b) h1 A v w ht hv hd
    | true =>
      cases h2 : numR b with
      | false => exact rnum_tf (rnum_P a) (rnum_P b) h1 h2 A v w ht hv hd
      | true => exact rnum_tt (rnum_P a) (rnum_P b) h1 h2 A v w ht hv hd

end Go.Proofs.Ytnbohogkfdeddaa

set_option linter.unusedSimpArgs false
set_option linter.unusedVariables false
namespace Go.Proofs.Ytnbohogkfdeddaa
open Go.RowKit

/-- What the reference's Check says of a formed tree. -/
def chkR (t : BT) : Int := if (BuildF t.regs).2 ≠ 0 then (BuildF t.regs).2 else if numR t = true then 0 else 11
theorem rlisted_is (l : List RV) (s : Value) (w : World) (hs : isSl w s 6 l.length (rF l)) (hlen : l.length ≤ 1000) (e : Int) (h : (BuildF l).2 = e) :
    Calls Try.prog 32 #[s] w fun x w' => x = .returned (.int .i64 e) ∧ Ext w w' := by
  subst h
  exact rlisted_any l s w hs hlen
set_option maxRecDepth 100000 in
set_option maxHeartbeats 4000000 in
theorem rchk_l {A : Nat → Prop} (t : BT) (v : TV) (w : World) (ht : isT A w t v) (hl : t.regs.length ≤ 1000) (h1 : (BuildF t.regs).2 ≠ 0) :
    Calls Try.prog 24 #[.agg v.cs.toArray] w fun e w' => e = .returned (.int .i64 (BuildF t.regs).2) ∧ Ext w w' := by
  replace ht := ht.lw
  have hd : t.dp ≤ 1000 := by have := BT.dp_len t; omega
  have hb1 : ((BuildF t.regs).2 != 0) = true := by simpa using h1
  obtain ⟨E, hEq⟩ : ∃ E, E = (BuildF t.regs).2 := ⟨_, rfl⟩
  rw [← hEq] at hb1 ⊢
  replace hEq : Hid _ := hEq
  replace h1 : Hid _ := h1
  go_enter Try.func24, Try.ntmps24
  go_upto_region 1 with fail
  refine name_wX (fun W1 hW => ?_)
  have hE : Ext w W1 := by rw [hW]; repeat' (first | exact Ext.refl _ | apply Ext.al)
  have b0 : Blk W1 (w.heap.size) 28 v.cs := by rw [hW]; exact Blk.newAt rfl
  clear hW
  obtain ⟨r0, hr0⟩ : ∃ r, r = w.heap.size := ⟨_, rfl⟩
  rw [← hr0] at b0
  try rw [← hr0]
  have q0 : w.heap.size ≤ r0 := by omega
  clear hr0
  have qz : r0 < W1.heap.size := b0.lt
  replace ht := isT.ext hE ht
  go_upto_region 1 with fail
  refine wp_region_lit ?_
  refine wpList_plain rfl (fun K hK => ?_); (first | (refine wp_ld 28 _ (b0.range) (by rfl) (by rfl) Try.underlying28 rfl (by exact Try.infoT) ?_)); (try dsimp only); refine hK _ _ ?_; clear hK K; (try simp only [Act.put, Zs, Zz, Zc])
  refine wpList_plain rfl (fun K hK => ?_); go_simp; (go_at_call 47; refine (rform_P t _ _ _ ht).mono ?_; intro e W2 hpp; obtain ⟨rfl, hx⟩ := hpp); (try dsimp only); refine hK _ _ ?_; clear hK K; (try simp only [Act.put, Zs, Zz, Zc])
  replace b0 := b0.ext hx
  replace ht := isT.ext hx ht
  replace hE := hE.trans hx
  clear hx
  replace qz : r0 < W2.heap.size := b0.lt
  refine wpList_plain rfl (fun K hK => ?_); go_simp; (try dsimp only); refine hK _ _ ?_; clear hK K; (try simp only [Act.put, Zs, Zz, Zc])
  refine wpList_nil ?_
  go_upto_region 3 with fail
  refine wp_region_lit ?_
  refine wpList_plain rfl (fun K hK => ?_); (first | (refine wp_ld 28 _ (b0.range) (by rfl) (by rfl) Try.underlying28 rfl (by exact Try.infoT) ?_)); (try dsimp only); refine hK _ _ ?_; clear hK K; (try simp only [Act.put, Zs, Zz, Zc])
  refine wpList_plain rfl (fun K hK => ?_); go_simp; (go_at_call 48; refine (rregs_any t _ _ ht (by omega)).mono ?_; intro e W3 hpp; obtain ⟨u, rfl, hown, hx⟩ := hpp); (try dsimp only); refine hK _ _ ?_; clear hK K; (try simp only [Act.put, Zs, Zz, Zc])
  replace b0 := b0.ext hx
  replace ht := isT.ext hx ht
  replace hE := hE.trans hx
  clear hx
  replace qz : r0 < W3.heap.size := b0.lt
  refine wpList_plain rfl (fun K hK => ?_); go_simp; (try dsimp only); refine hK _ _ ?_; clear hK K; (try simp only [Act.put, Zs, Zz, Zc])
  refine wpList_nil ?_
  go_upto_region 4 with fail
  refine wp_region_lit ?_
  refine wpList_plain rfl (fun K hK => ?_); go_simp; (try dsimp only); refine hK _ _ ?_; clear hK K; (try simp only [Act.put, Zs, Zz, Zc])
  refine wpList_plain rfl (fun K hK => ?_); go_simp; (go_at_call 32; refine (rlisted_is t.regs _ _ hown.isSl hl _ hEq.out.symm).mono ?_; intro e W4 hpp; obtain ⟨rfl, hx⟩ := hpp); (try dsimp only); refine hK _ _ ?_; clear hK K; (try simp only [Act.put, Zs, Zz, Zc])
  replace b0 := b0.ext hx
  replace ht := isT.ext hx ht
  replace hown := hown.ext hx
  replace hE := hE.trans hx
  clear hx
  replace qz : r0 < W4.heap.size := b0.lt
  refine wpList_plain rfl (fun K hK => ?_); go_simp; (try dsimp only); refine hK _ _ ?_; clear hK K; (try simp only [Act.put, Zs, Zz, Zc])
  refine wpList_nil ?_
  go_upto_region 5 with fail
  refine wp_region_lit ?_
  refine wpList_plain rfl (fun K hK => ?_); go_simp; (try dsimp only); refine hK _ _ ?_; clear hK K; (try simp only [Act.put, Zs, Zz, Zc])
  refine wpList_plain rfl (fun K hK => ?_); go_simp; (try simp (disch := omega) only [Yq, Yr]); (try simp only [hb1]); (try dsimp only); refine hK _ _ ?_; clear hK K; (try simp only [Act.put, Zs, Zz, Zc])
  refine wpList_nil ?_
  go_upto_region 6 with fail
  refine wp_region_lit ?_
  iterate 2 (refine wpList_plain rfl (fun K hK => ?_); go_simp; (try dsimp only); refine hK _ _ ?_; clear hK K; (try simp only [Act.put, Zs, Zz, Zc]))
  refine wpList_nil ?_
  go_wp2_with fail
  go_ret
  exact ⟨rfl, hE⟩

set_option maxRecDepth 100000 in
set_option maxHeartbeats 4000000 in
theorem rchk_n {A : Nat → Prop} (t : BT) (v : TV) (w : World) (ht : isT A w t v) (hl : t.regs.length ≤ 1000) (h1 : (BuildF t.regs).2 = 0) (h2 : numR t = false) :
    Calls Try.prog 24 #[.agg v.cs.toArray] w fun e w' => e = .returned (.int .i64 11) ∧ Ext w w' := by
  replace ht := ht.lw
  have hd : t.dp ≤ 1000 := by have := BT.dp_len t; omega
  have hva := (BuildF_ok _ h1).2
  replace h2 : Hid _ := h2
  replace h1 : Hid _ := h1
  go_enter Try.func24, Try.ntmps24
  go_upto_region 1 with fail
  refine name_wX (fun W1 hW => ?_)
  have hE : Ext w W1 := by rw [hW]; repeat' (first | exact Ext.refl _ | apply Ext.al)
  have b0 : Blk W1 (w.heap.size) 28 v.cs := by rw [hW]; exact Blk.newAt rfl
  clear hW
  obtain ⟨r0, hr0⟩ : ∃ r, r = w.heap.size := ⟨_, rfl⟩
  rw [← hr0] at b0
  try rw [← hr0]
  have q0 : w.heap.size ≤ r0 := by omega
  clear hr0
  have qz : r0 < W1.heap.size := b0.lt
  replace ht := isT.ext hE ht
  go_upto_region 1 with fail
  refine wp_region_lit ?_
  refine wpList_plain rfl (fun K hK => ?_); (first | (refine wp_ld 28 _ (b0.range) (by rfl) (by rfl) Try.underlying28 rfl (by exact Try.infoT) ?_)); (try dsimp only); refine hK _ _ ?_; clear hK K; (try simp only [Act.put, Zs, Zz, Zc])
  refine wpList_plain rfl (fun K hK => ?_); go_simp; (go_at_call 47; refine (rform_P t _ _ _ ht).mono ?_; intro e W2 hpp; obtain ⟨rfl, hx⟩ := hpp); (try dsimp only); refine hK _ _ ?_; clear hK K; (try simp only [Act.put, Zs, Zz, Zc])
  replace b0 := b0.ext hx
  replace ht := isT.ext hx ht
  replace hE := hE.trans hx
  clear hx
  replace qz : r0 < W2.heap.size := b0.lt
  refine wpList_plain rfl (fun K hK => ?_); go_simp; (try dsimp only); refine hK _ _ ?_; clear hK K; (try simp only [Act.put, Zs, Zz, Zc])
  refine wpList_nil ?_
  go_upto_region 3 with fail
  refine wp_region_lit ?_
  refine wpList_plain rfl (fun K hK => ?_); (first | (refine wp_ld 28 _ (b0.range) (by rfl) (by rfl) Try.underlying28 rfl (by exact Try.infoT) ?_)); (try dsimp only); refine hK _ _ ?_; clear hK K; (try simp only [Act.put, Zs, Zz, Zc])
  refine wpList_plain rfl (fun K hK => ?_); go_simp; (go_at_call 48; refine (rregs_any t _ _ ht (by omega)).mono ?_; intro e W3 hpp; obtain ⟨u, rfl, hown, hx⟩ := hpp); (try dsimp only); refine hK _ _ ?_; clear hK K; (try simp only [Act.put, Zs, Zz, Zc])
  replace b0 := b0.ext hx
  replace ht := isT.ext hx ht
  replace hE := hE.trans hx
  clear hx
  replace qz : r0 < W3.heap.size := b0.lt
  refine wpList_plain rfl (fun K hK => ?_); go_simp; (try dsimp only); refine hK _ _ ?_; clear hK K; (try simp only [Act.put, Zs, Zz, Zc])
  refine wpList_nil ?_
  go_upto_region 4 with fail
  refine wp_region_lit ?_
  refine wpList_plain rfl (fun K hK => ?_); go_simp; (try dsimp only); refine hK _ _ ?_; clear hK K; (try simp only [Act.put, Zs, Zz, Zc])
  refine wpList_plain rfl (fun K hK => ?_); go_simp; (go_at_call 32; refine (rlisted_is t.regs _ _ hown.isSl hl 0 h1.out).mono ?_; intro e W4 hpp; obtain ⟨rfl, hx⟩ := hpp); (try dsimp only); refine hK _ _ ?_; clear hK K; (try simp only [Act.put, Zs, Zz, Zc])
  replace b0 := b0.ext hx
  replace ht := isT.ext hx ht
  replace hown := hown.ext hx
  replace hE := hE.trans hx
  clear hx
  replace qz : r0 < W4.heap.size := b0.lt
  refine wpList_plain rfl (fun K hK => ?_); go_simp; (try dsimp only); refine hK _ _ ?_; clear hK K; (try simp only [Act.put, Zs, Zz, Zc])
  refine wpList_nil ?_
  go_upto_region 5 with fail
  refine wp_region_lit ?_
  refine wpList_plain rfl (fun K hK => ?_); go_simp; (try dsimp only); refine hK _ _ ?_; clear hK K; (try simp only [Act.put, Zs, Zz, Zc])
  refine wpList_plain rfl (fun K hK => ?_); go_simp; (try simp (disch := omega) only [Yq, Yr]); (try dsimp only); refine hK _ _ ?_; clear hK K; (try simp only [Act.put, Zs, Zz, Zc])
  refine wpList_nil ?_
  go_upto_region 7 with fail
  refine wp_region_lit ?_
  refine wpList_plain rfl (fun K hK => ?_); (first | (refine wp_ld 28 _ (b0.range) (by rfl) (by rfl) Try.underlying28 rfl (by exact Try.infoT) ?_)); (try dsimp only); refine hK _ _ ?_; clear hK K; (try simp only [Act.put, Zs, Zz, Zc])
  refine wpList_plain rfl (fun K hK => ?_); go_simp; (go_at_call 49; refine (rnum_is (rnum_P t) ht hva hd h2.out).mono ?_; intro e W5 hpp; obtain ⟨rfl, hx⟩ := hpp); (try dsimp only); refine hK _ _ ?_; clear hK K; (try simp only [Act.put, Zs, Zz, Zc])
  replace b0 := b0.ext hx
  replace ht := isT.ext hx ht
  replace hown := hown.ext hx
  replace hE := hE.trans hx
  clear hx
  replace qz : r0 < W5.heap.size := b0.lt
  refine wpList_plain rfl (fun K hK => ?_); go_simp; (try dsimp only); refine hK _ _ ?_; clear hK K; (try simp only [Act.put, Zs, Zz, Zc])
  refine wpList_nil ?_
  go_upto_region 8 with fail
  refine wp_region_lit ?_
  refine wpList_plain rfl (fun K hK => ?_); go_simp; (try dsimp only); refine hK _ _ ?_; clear hK K; (try simp only [Act.put, Zs, Zz, Zc])
  refine wpList_nil ?_
  go_wp2_with fail
  go_ret
  exact ⟨rfl, hE⟩

set_option maxRecDepth 100000 in
set_option maxHeartbeats 4000000 in
theorem rchk_0 {A : Nat → Prop} (t : BT) (v : TV) (w : World) (ht : isT A w t v) (hl : t.regs.length ≤ 1000) (h1 : (BuildF t.regs).2 = 0) (h2 : numR t = true) :
    Calls Try.prog 24 #[.agg v.cs.toArray] w fun e w' => e = .returned (.int .i64 0) ∧ Ext w w' := by
  replace ht := ht.lw
  have hd : t.dp ≤ 1000 := by have := BT.dp_len t; omega
  have hva := (BuildF_ok _ h1).2
  replace h2 : Hid _ := h2
  replace h1 : Hid _ := h1
  go_enter Try.func24, Try.ntmps24
  go_upto_region 1 with fail
  refine name_wX (fun W1 hW => ?_)
  have hE : Ext w W1 := by rw [hW]; repeat' (first | exact Ext.refl _ | apply Ext.al)
  have b0 : Blk W1 (w.heap.size) 28 v.cs := by rw [hW]; exact Blk.newAt rfl
  clear hW
  obtain ⟨r0, hr0⟩ : ∃ r, r = w.heap.size := ⟨_, rfl⟩
  rw [← hr0] at b0
  try rw [← hr0]
  have q0 : w.heap.size ≤ r0 := by omega
  clear hr0
  have qz : r0 < W1.heap.size := b0.lt
  replace ht := isT.ext hE ht
  go_upto_region 1 with fail
  refine wp_region_lit ?_
  refine wpList_plain rfl (fun K hK => ?_); (first | (refine wp_ld 28 _ (b0.range) (by rfl) (by rfl) Try.underlying28 rfl (by exact Try.infoT) ?_)); (try dsimp only); refine hK _ _ ?_; clear hK K; (try simp only [Act.put, Zs, Zz, Zc])
  refine wpList_plain rfl (fun K hK => ?_); go_simp; (go_at_call 47; refine (rform_P t _ _ _ ht).mono ?_; intro e W2 hpp; obtain ⟨rfl, hx⟩ := hpp); (try dsimp only); refine hK _ _ ?_; clear hK K; (try simp only [Act.put, Zs, Zz, Zc])
  replace b0 := b0.ext hx
  replace ht := isT.ext hx ht
  replace hE := hE.trans hx
  clear hx
  replace qz : r0 < W2.heap.size := b0.lt
  refine wpList_plain rfl (fun K hK => ?_); go_simp; (try dsimp only); refine hK _ _ ?_; clear hK K; (try simp only [Act.put, Zs, Zz, Zc])
  refine wpList_nil ?_
  go_upto_region 3 with fail
  refine wp_region_lit ?_
  refine wpList_plain rfl (fun K hK => ?_); (first | (refine wp_ld 28 _ (b0.range) (by rfl) (by rfl) Try.underlying28 rfl (by exact Try.infoT) ?_)); (try dsimp only); refine hK _ _ ?_; clear hK K; (try simp only [Act.put, Zs, Zz, Zc])
  refine wpList_plain rfl (fun K hK => ?_); go_simp; (go_at_call 48; refine (rregs_any t _ _ ht (by omega)).mono ?_; intro e W3 hpp; obtain ⟨u, rfl, hown, hx⟩ := hpp); (try dsimp only); refine hK _ _ ?_; clear hK K; (try simp only [Act.put, Zs, Zz, Zc])
  replace b0 := b0.ext hx
  replace ht := isT.ext hx ht
  replace hE := hE.trans hx
  clear hx
  replace qz : r0 < W3.heap.size := b0.lt
  refine wpList_plain rfl (fun K hK => ?_); go_simp; (try dsimp only); refine hK _ _ ?_; clear hK K; (try simp only [Act.put, Zs, Zz, Zc])
  refine wpList_nil ?_
  go_upto_region 4 with fail
  refine wp_region_lit ?_
  refine wpList_plain rfl (fun K hK => ?_); go_simp; (try dsimp only); refine hK _ _ ?_; clear hK K; (try simp only [Act.put, Zs, Zz, Zc])
  refine wpList_plain rfl (fun K hK => ?_); go_simp; (go_at_call 32; refine (rlisted_is t.regs _ _ hown.isSl hl 0 h1.out).mono ?_; intro e W4 hpp; obtain ⟨rfl, hx⟩ := hpp); (try dsimp only); refine hK _ _ ?_; clear hK K; (try simp only [Act.put, Zs, Zz, Zc])
  replace b0 := b0.ext hx
  replace ht := isT.ext hx ht
  replace hown := hown.ext hx
  replace hE := hE.trans hx
  clear hx
  replace qz : r0 < W4.heap.size := b0.lt
  refine wpList_plain rfl (fun K hK => ?_); go_simp; (try dsimp only); refine hK _ _ ?_; clear hK K; (try simp only [Act.put, Zs, Zz, Zc])
  refine wpList_nil ?_
  go_upto_region 5 with fail
  refine wp_region_lit ?_
  refine wpList_plain rfl (fun K hK => ?_); go_simp; (try dsimp only); refine hK _ _ ?_; clear hK K; (try simp only [Act.put, Zs, Zz, Zc])
  refine wpList_plain rfl (fun K hK => ?_); go_simp; (try simp (disch := omega) only [Yq, Yr]); (try dsimp only); refine hK _ _ ?_; clear hK K; (try simp only [Act.put, Zs, Zz, Zc])
  refine wpList_nil ?_
  go_upto_region 7 with fail
  refine wp_region_lit ?_
  refine wpList_plain rfl (fun K hK => ?_); (first | (refine wp_ld 28 _ (b0.range) (by rfl) (by rfl) Try.underlying28 rfl (by exact Try.infoT) ?_)); (try dsimp only); refine hK _ _ ?_; clear hK K; (try simp only [Act.put, Zs, Zz, Zc])
  refine wpList_plain rfl (fun K hK => ?_); go_simp; (go_at_call 49; refine (rnum_is (rnum_P t) ht hva hd h2.out).mono ?_; intro e W5 hpp; obtain ⟨rfl, hx⟩ := hpp); (try dsimp only); refine hK _ _ ?_; clear hK K; (try simp only [Act.put, Zs, Zz, Zc])
  replace b0 := b0.ext hx
  replace ht := isT.ext hx ht
  replace hown := hown.ext hx
  replace hE := hE.trans hx
  clear hx
  replace qz : r0 < W5.heap.size := b0.lt
  refine wpList_plain rfl (fun K hK => ?_); go_simp; (try dsimp only); refine hK _ _ ?_; clear hK K; (try simp only [Act.put, Zs, Zz, Zc])
  refine wpList_nil ?_
  go_upto_region 9 with fail
  refine wp_region_lit ?_
  refine wpList_plain rfl (fun K hK => ?_); go_simp; (try dsimp only); refine hK _ _ ?_; clear hK K; (try simp only [Act.put, Zs, Zz, Zc])
  refine wpList_nil ?_
  go_wp2_with fail
  go_ret
  exact ⟨rfl, hE⟩

theorem rcheck_any {A : Nat → Prop} (t : BT) (v : TV) (w : World) (ht : isT A w t v) (hl : t.regs.length ≤ 1000) :
    Calls Try.prog 24 #[.agg v.cs.toArray] w fun e w' => e = .returned (.int .i64 (chkR t)) ∧ Ext w w' := by
  unfold chkR
  by_cases h1 : (BuildF t.regs).2 = 0
  · rw [if_neg (by simp [h1])]
    cases h2 : numR t with
    | false => rw [if_neg (by decide)]; exact rchk_n t v w ht hl h1 h2
    | true => rw [if_pos rfl]; exact rchk_0 t v w ht hl h1 h2
  · rw [if_pos h1]
    exact rchk_l t v w ht hl h1
theorem bldF_ord : ∀ (l : List RV) (p : PT) (last : Int), ord l → (∀ x ∈ l, last ≤ x.s) → (bldF p last l).2 = 0
  | [], _, _, _, _ => rfl
  | x :: l, p, last, h, hl => by
    obtain ⟨h1, h2, h3⟩ := ord_cons h
    have := hl x (by simp)
    rw [bldF, if_neg (by omega)]
    exact bldF_ord l _ _ h2 (fun y hy => h3 y hy)
theorem BuildF_ord {l : List RV} (h : ord l) : (BuildF l).2 = 0 := by
  unfold BuildF
  rw [if_pos (List.all_eq_true.2 (fun x hx => (vldB_iff x).2 (h.v x hx)))]
  exact bldF_ord l _ _ h (fun x hx => (h.v x hx).1)
theorem okN_P {l : PT} {x : RV} {r : PT} (h : good (.N l x r)) : okN (PT.N l x r).bt = true := by
  obtain ⟨gl, gx, gr⟩ := good_node h
  obtain ⟨a1, a2, a3, a4⟩ := bt_tv l (.int .i64 0)
  obtain ⟨b1, b2, b3, b4⟩ := bt_tv r (.int .i64 0)
  have hb := badN_P h
  obtain ⟨_, _, c1, c2⟩ := h.b
  simp only [PT.bt, badN, badV, Bool.or_eq_false_iff, bne_eq_false_iff_eq] at hb
  obtain ⟨⟨⟨⟨⟨d1, d2⟩, d3⟩, d4⟩, _⟩, _⟩ := hb
  simp only [PT.bt, okN, okV, Bool.and_eq_true, beq_iff_eq, decide_eq_true_eq]
  refine ⟨⟨⟨⟨⟨d1.symm, d2.symm⟩, d3.symm⟩, d4.symm⟩, ?_⟩, ?_⟩ <;> omega
theorem num_good : ∀ (p : PT), good p → numR p.bt = true
  | .E, _ => rfl
  | .N l x r, h => by
    obtain ⟨gl, gx, gr⟩ := good_node h
    show (numR l.bt && numR r.bt && okN (PT.N l x r).bt) = true
    rw [num_good l gl, num_good r gr, okN_P h]
    rfl
theorem rchk_good {p : PT} (h : good p) : chkR p.bt = 0 := by
  unfold chkR
  rw [regs_flat, BuildF_ord h.o, if_neg (by decide), if_pos (num_good p h)]
theorem rcheck_P {A : Nat → Prop} (p : PT) (v : TV) (w : World) (hp : good p) (ht : isT A w p.bt v) :
    Calls Try.prog 24 #[.agg v.cs.toArray] w fun e w' => e = .returned (.int .i64 0) ∧ Ext w w' := by
  have := rcheck_any p.bt v w ht (by rw [regs_flat]; have := good_len hp; omega)
  rwa [rchk_good hp] at this
set_option maxRecDepth 100000 in
set_option maxHeartbeats 4000000 in
theorem rlist_bad {A : Nat → Prop} (t : BT) (v : TV) (w : World) (ht : isT A w t v) (hl : t.regs.length ≤ 1000) (h1 : chkR t ≠ 0) :
    Calls Try.prog 25 #[.agg v.cs.toArray] w fun e w' => ∃ u, e = .returned u ∧ ownR w' w.heap.size u [] ∧ Ext w w' := by
  replace ht := ht.lw
  have hb1 : (chkR t != 0) = true := by simp; exact h1
  replace h1 : Hid _ := h1
  go_enter Try.func25, Try.ntmps25
  go_upto_region 1 with fail
  refine name_wX (fun W1 hW => ?_)
  have hE : Ext w W1 := by rw [hW]; repeat' (first | exact Ext.refl _ | apply Ext.al)
  have b0 : Blk W1 (w.heap.size) 28 v.cs := by rw [hW]; exact Blk.newAt rfl
  clear hW
  obtain ⟨r0, hr0⟩ : ∃ r, r = w.heap.size := ⟨_, rfl⟩
  rw [← hr0] at b0
  try rw [← hr0]
  have q0 : w.heap.size ≤ r0 := by omega
  clear hr0
  have qz : r0 < W1.heap.size := b0.lt
  replace ht := isT.ext hE ht
  go_upto_region 1 with fail
  refine wp_region_lit ?_
  refine wpList_plain rfl (fun K hK => ?_); (first | (refine wp_ld 28 _ (b0.range) (by rfl) (by rfl) Try.underlying28 rfl (by exact Try.infoT) ?_)); (try dsimp only); refine hK _ _ ?_; clear hK K; (try simp only [Act.put, Zs, Zz, Zc])
  refine wpList_plain rfl (fun K hK => ?_); go_simp; (go_at_call 24; refine (rcheck_any t _ _ ht hl).mono ?_; intro e W2 hpp; obtain ⟨rfl, hx⟩ := hpp); (try dsimp only); refine hK _ _ ?_; clear hK K; (try simp only [Act.put, Zs, Zz, Zc])
  replace b0 := b0.ext hx
  replace ht := isT.ext hx ht
  replace hE := hE.trans hx
  clear hx
  replace qz : r0 < W2.heap.size := b0.lt
  refine wpList_plain rfl (fun K hK => ?_); go_simp; (try simp (disch := omega) only [Yq, Yr]); (try simp only [hb1]); (try dsimp only); refine hK _ _ ?_; clear hK K; (try simp only [Act.put, Zs, Zz, Zc])
  refine wpList_nil ?_
  go_upto_region 2 with fail
  refine wp_region_lit ?_
  refine wpList_plain rfl (fun K hK => ?_); go_simp; (try dsimp only); refine hK _ _ ?_; clear hK K; (try simp only [Act.put, Zs, Zz, Zc])
  refine wpList_nil ?_
  go_wp2_with fail
  go_ret
  exact ⟨_, rfl, ownR_nil _ _, hE⟩

set_option maxRecDepth 100000 in
set_option maxHeartbeats 4000000 in
theorem rlist_ok {A : Nat → Prop} (t : BT) (v : TV) (w : World) (ht : isT A w t v) (hl : t.regs.length ≤ 1000) (h1 : chkR t = 0) :
    Calls Try.prog 25 #[.agg v.cs.toArray] w fun e w' => ∃ u, e = .returned u ∧ ownR w' w.heap.size u t.regs ∧ Ext w w' := by
  replace ht := ht.lw
  have hb1 : (chkR t != 0) = false := by simp [h1]
  replace h1 : Hid _ := h1
  go_enter Try.func25, Try.ntmps25
  go_upto_region 1 with fail
  refine name_wX (fun W1 hW => ?_)
  have hE : Ext w W1 := by rw [hW]; repeat' (first | exact Ext.refl _ | apply Ext.al)
  have b0 : Blk W1 (w.heap.size) 28 v.cs := by rw [hW]; exact Blk.newAt rfl
  clear hW
  obtain ⟨r0, hr0⟩ : ∃ r, r = w.heap.size := ⟨_, rfl⟩
  rw [← hr0] at b0
  try rw [← hr0]
  have q0 : w.heap.size ≤ r0 := by omega
  clear hr0
  have qz : r0 < W1.heap.size := b0.lt
  replace ht := isT.ext hE ht
  go_upto_region 1 with fail
  refine wp_region_lit ?_
  refine wpList_plain rfl (fun K hK => ?_); (first | (refine wp_ld 28 _ (b0.range) (by rfl) (by rfl) Try.underlying28 rfl (by exact Try.infoT) ?_)); (try dsimp only); refine hK _ _ ?_; clear hK K; (try simp only [Act.put, Zs, Zz, Zc])
  refine wpList_plain rfl (fun K hK => ?_); go_simp; (go_at_call 24; refine (rcheck_any t _ _ ht hl).mono ?_; intro e W2 hpp; obtain ⟨rfl, hx⟩ := hpp); (try dsimp only); refine hK _ _ ?_; clear hK K; (try simp only [Act.put, Zs, Zz, Zc])
  replace b0 := b0.ext hx
  replace ht := isT.ext hx ht
  replace hE := hE.trans hx
  clear hx
  replace qz : r0 < W2.heap.size := b0.lt
  refine wpList_plain rfl (fun K hK => ?_); go_simp; (try simp (disch := omega) only [Yq, Yr]); (try simp only [hb1]); (try dsimp only); refine hK _ _ ?_; clear hK K; (try simp only [Act.put, Zs, Zz, Zc])
  refine wpList_nil ?_
  go_upto_region 3 with fail
  refine wp_region_lit ?_
  refine wpList_plain rfl (fun K hK => ?_); (first | (refine wp_ld 28 _ (b0.range) (by rfl) (by rfl) Try.underlying28 rfl (by exact Try.infoT) ?_)); (try dsimp only); refine hK _ _ ?_; clear hK K; (try simp only [Act.put, Zs, Zz, Zc])
  refine wpList_plain rfl (fun K hK => ?_); go_simp; (go_at_call 48; refine (rregs_any t _ _ ht (by omega)).mono ?_; intro e W3 hpp; obtain ⟨u, rfl, hown, hx⟩ := hpp); (try dsimp only); refine hK _ _ ?_; clear hK K; (try simp only [Act.put, Zs, Zz, Zc])
  have hwb := hE.below.size
  replace b0 := b0.ext hx
  replace ht := isT.ext hx ht
  replace hE := hE.trans hx
  clear hx
  replace qz : r0 < W3.heap.size := b0.lt
  refine wpList_plain rfl (fun K hK => ?_); go_simp; (try dsimp only); refine hK _ _ ?_; clear hK K; (try simp only [Act.put, Zs, Zz, Zc])
  refine wpList_nil ?_
  go_wp2_with fail
  go_ret
  exact ⟨u, rfl, ownR_base hown hwb, hE⟩

theorem rlist_P {A : Nat → Prop} (p : PT) (v : TV) (w : World) (hp : good p) (ht : isT A w p.bt v) :
    Calls Try.prog 25 #[.agg v.cs.toArray] w fun e w' => ∃ u, e = .returned u ∧ ownR w' w.heap.size u p.flat ∧ Ext w w' := by
  have := rlist_ok p.bt v w ht (by rw [regs_flat]; have := good_len hp; omega) (rchk_good hp)
  rwa [regs_flat] at this

end Go.Proofs.Ytnbohogkfdeddaa

set_option linter.unusedSimpArgs false
set_option linter.unusedVariables false
namespace Go.Proofs.Ytnbohogkfdeddaa
open Go.RowKit

theorem hid_of {p : Prop} (h : p) : Hid p := h
def RRemOK (p : PT) : Prop := ∀ (A : Nat → Prop) (s : Int) (v : TV) (w : World), Up A w → isT A w p.bt v → bd p → p.bal → ord p.flat → p.ht ≤ 800 → (∃ y ∈ p.flat, y.s = s) →
    Calls Try.prog 40 #[.agg v.cs.toArray, .int .i64 s] w fun e w' => ∃ v', e = .returned (.agg v'.cs.toArray) ∧ isT A w' (remP p s).bt v' ∧ Ext w w'
theorem rregs_flat {A : Nat → Prop} (p : PT) (v : TV) (w : World) (ht : isT A w p.bt v) (hl : p.flat.length ≤ 90000) :
    Calls Try.prog 48 #[.agg v.cs.toArray, .slice none 0 0] w fun e w' => ∃ u', e = .returned u' ∧ ownR w' w.heap.size u' p.flat ∧ Ext w w' := by
  have := rregs_any p.bt v w ht (by rw [regs_flat]; exact hl)
  rwa [regs_flat] at this

set_option maxRecDepth 100000 in
set_option maxHeartbeats 4000000 in
theorem rrem_N {a b : PT} {y : RV} (iha : RRemOK a) (ihb : RRemOK b) (A : Nat → Prop) (s : Int) (v : TV) (w : World) (hA : Up A w) (ht : isT A w (PT.N a y b).bt v) (bp : bd (.N a y b)) (hb : (PT.N a y b).bal) (ho : ord (PT.N a y b).flat) (h8 : (PT.N a y b).ht ≤ 800) (hs : ∃ z ∈ (PT.N a y b).flat, z.s = s) (J : PT) (hJ : Hid (J = remP (.N a y b) s)) :
    Calls Try.prog 40 #[.agg v.cs.toArray, .int .i64 s] w fun e w' => ∃ v', e = .returned (.agg v'.cs.toArray) ∧ isT A w' (J).bt v' ∧ Ext w w' := by
  have h0 : v.h = (PT.N a y b).ht := ht.1
  have hv0 : (v.h == 0) = false := by have := PT.ht_pos a y b; simp; omega
  clear h0
  have hlb : b.flat.length ≤ 512 := good_len ⟨hb.2.1, (ord_node ho).2.2.1⟩
  obtain ⟨ba, hvy, bb⟩ := bd_node bp
  obtain ⟨oa, _, ob, l1, l2⟩ := ord_node ho
  have hh : a.ht ≤ 799 ∧ b.ht ≤ 799 := by have := PT.ht_nn a; have := PT.ht_nn b; simp only [PT.ht] at h8; omega
  have hba : a.bal := hb.1
  have hbb : b.bal := hb.2.1
  replace ht := isT.lw ht
  replace hs : Hid _ := hs
  replace l1 : Hid _ := l1
  replace l2 : Hid _ := l2
  replace hba : Hid _ := hba
  replace hbb : Hid _ := hbb
  clear h8 bp hb ho
  obtain ⟨-, -, -, -, xx, -, gb1, og1, cc1, pa, pb, hk1, hc1, hg1, -, hra1, hrb1, tpa, tpb⟩ := ht
  obtain ⟨ah1, af1, al1, ag1, ax1, ak1⟩ := v
  dsimp only at *
  subst ax1 hk1
  have hcI1 : (2 : Int) ≤ (cc1 : Int) := by omega
  have hgw1 := hg1
  have na := hid_of (isP_num tpa).1
  have nb := hid_of (isP_num tpb).1
  go_enter Try.func40, Try.ntmps40
  go_upto_region 1 with fail
  refine name_wX (fun W1 hW => ?_)
  have hE : Ext w W1 := by rw [hW]; repeat' (first | exact Ext.refl _ | apply Ext.al)
  have b0 : Blk W1 (w.heap.size) 28 (TV.cs ⟨ah1, af1, al1, ag1, y, .slice (some ⟨gb1, og1, none⟩) 2 cc1⟩) := by rw [hW]; exact (Blk.newAt rfl).alloc _
  have b1 : Blk W1 (w.heap.size + 1) 28 TV.z.cs := by rw [hW]; exact Blk.newAt (by simp)
  clear hW
  obtain ⟨r1, hr1⟩ : ∃ r, r = w.heap.size + 1 := ⟨_, rfl⟩
  rw [← hr1] at b1
  try rw [← hr1]
  obtain ⟨r0, hr0⟩ : ∃ r, r = w.heap.size := ⟨_, rfl⟩
  rw [← hr0] at b0
  try rw [← hr0]
  have q0 : w.heap.size ≤ r0 := by omega
  have q1 : r0 < r1 := by omega
  clear hr0 hr1
  have qz : r1 < W1.heap.size := b1.lt
  replace tpa := isT.ext hE tpa
  replace tpb := isT.ext hE tpb
  replace hra1 := rangeAt.ext hra1 hg1 hE
  replace hrb1 := rangeAt.ext hrb1 hg1 hE
  replace hg1 := Nat.lt_of_lt_of_le hg1 hE.below.size
  go_upto_region 1 with fail
  refine wp_region_lit ?_
  have zc0 := b0.cell 0
  iterate 3 (refine wpList_plain rfl (fun K hK => ?_); go_simp; (try simp only [hv0]); (try dsimp only); refine hK _ _ ?_; clear hK K; (try simp only [Act.put, Zs, Zz, Zc]))
  clear zc0
  refine wpList_nil ?_
  go_upto_region 3 with fail
  have ya1 := hra1
  have yb1 := hrb1
  have yg1 := hg1
  go_cut [5, 6] (fun sva svb wc => ∃ sra srb : Nat, sva = .pointer (some ⟨sra, 0, none⟩) ∧ svb = .pointer (some ⟨srb, 0, none⟩) ∧ r1 < sra ∧ r1 < srb ∧ sra ≠ srb ∧ Blk wc sra 28 pa.cs ∧ Blk wc srb 28 pb.cs ∧ Ext W1 wc)
  case first =>
    have hEz : Ext W1 W1 := Ext.refl _
    have x0 := b0
    have x1 := b1
    obtain ⟨mX, hmX⟩ : ∃ m, m = W1.heap.size := ⟨_, rfl⟩
    have hS : GrownX W1 [] W1 := GrownX.refl _ _
    refine wp_region_S (GrownX W1 []) (by kernel_rfl) ?_
    refine name_wd (fun W2 hW => ?_)
    have hx : Ext W1 W2 := by rw [hW]; exact ext_drew _
    clear hW
    replace hS := hS.ext hx
    replace b0 := b0.ext hx
    replace b1 := b1.ext hx
    replace tpa := isT.ext hx tpa
    replace tpb := isT.ext hx tpb
    replace hra1 := rangeAt.ext hra1 hg1 hx
    replace hrb1 := rangeAt.ext hrb1 hg1 hx
    replace hg1 := Nat.lt_of_lt_of_le hg1 hx.below.size
    replace hEz := hEz.trans hx
    replace hE := hE.trans hx
    clear hx
    replace qz : r1 < W2.heap.size := b1.lt
    refine wpAnyD_takeSL (i := 0) rfl (by kernel_rfl) (fun _ _ _ _ h => h) hS ?_
    apply Exists.intro
    refine ⟨Or.inl ⟨by rfl, ?_⟩, ?_⟩
    (focus (intro wz hz; go_simp; (try with_reducible rfl); done))
    (try simp only [Act.put, Zs, Zz, Zc])
    refine wpAnyD_takeSL (i := 1) rfl (by kernel_rfl) (fun _ _ _ _ h => h) hS ?_
    apply Exists.intro
    refine ⟨Or.inl ⟨by rfl, ?_⟩, ?_⟩
    (focus (intro wz hz; have zc := (GrownX.blk hz x0 (by first | decide | (simp; done) | (simp; omega) | omega)).cell 10; go_simp; (try with_reducible rfl); done))
    (try simp only [Act.put, Zs, Zz, Zc])
    refine wpAnyD_takeSL (i := 2) rfl (by kernel_rfl) (fun _ _ _ _ h => h) hS ?_
    apply Exists.intro
    refine ⟨Or.inl ⟨by rfl, ?_⟩, ?_⟩
    (focus (intro wz hz; go_simp; (try with_reducible rfl); done))
    (try simp only [Act.put, Zs, Zz, Zc])
    refine wpAnyD_takeSL (i := 3) rfl (by kernel_rfl) (fun _ _ _ _ h => h) hS ?_
    apply Exists.intro
    refine ⟨Or.inl ⟨by rfl, ?_⟩, ?_⟩
    (focus (intro wz hz; (first | exact exec_ld 28 _ rfl rfl (GrownX.range hz (ya1) (yg1) (by first | decide | (simp; done) | (simp; omega) | omega)) Try.underlying28 rfl (by exact Try.infoT) | exact exec_ld 28 _ rfl rfl (GrownX.range hz (yb1) (yg1) (by first | decide | (simp; done) | (simp; omega) | omega)) Try.underlying28 rfl (by exact Try.infoT))))
    (try simp only [Act.put, Zs, Zz, Zc])
    refine wpAnyD_takeSL (i := 4) rfl (by kernel_rfl) (fun _ _ _ _ h => h) hS ?_
    apply Exists.intro
    refine ⟨Or.inl ⟨by rfl, ?_⟩, ?_⟩
    (focus (intro wz hz; go_simp; (try with_reducible rfl); done))
    (try simp only [Act.put, Zs, Zz, Zc])
    refine wpAnyD_takeSL (i := 5) rfl (by kernel_rfl) (fun _ _ _ _ h => h) hS ?_
    apply Exists.intro
    refine ⟨Or.inl ⟨by rfl, ?_⟩, ?_⟩
    (focus (intro wz hz; have zc := (GrownX.blk hz x0 (by first | decide | (simp; done) | (simp; omega) | omega)).cell 10; go_simp; (try with_reducible rfl); done))
    (try simp only [Act.put, Zs, Zz, Zc])
    refine wpAnyD_takeSL (i := 6) rfl (by kernel_rfl) (fun _ _ _ _ h => h) hS ?_
    apply Exists.intro
    refine ⟨Or.inl ⟨by rfl, ?_⟩, ?_⟩
    (focus (intro wz hz; go_simp; (try with_reducible rfl); done))
    (try simp only [Act.put, Zs, Zz, Zc])
    refine wpAnyD_takeSL (i := 7) rfl (by kernel_rfl) (fun _ _ _ _ h => h) hS ?_
    apply Exists.intro
    refine ⟨Or.inl ⟨by rfl, ?_⟩, ?_⟩
    (focus (intro wz hz; (first | exact exec_ld 28 _ rfl rfl (GrownX.range hz (ya1) (yg1) (by first | decide | (simp; done) | (simp; omega) | omega)) Try.underlying28 rfl (by exact Try.infoT) | exact exec_ld 28 _ rfl rfl (GrownX.range hz (yb1) (yg1) (by first | decide | (simp; done) | (simp; omega) | omega)) Try.underlying28 rfl (by exact Try.infoT))))
    (try simp only [Act.put, Zs, Zz, Zc])
    refine wpAnyD_many [8, 9] (by kernel_rfl) (by simp) (AllD_consL rfl (fun K hK => ?_) (AllD_consL rfl (fun K hK => ?_) AllD_nil))
    · rw [if_pos (by rfl)]
      have qb : mX ≤ W2.heap.size := (by rw [hmX]; exact hS.size)
      go_simp
      (try dsimp only); refine hK.out _ _ (fun _ => hS.ext (ext_alloc _ _)) ?_; clear hK K; (try simp only [Act.put, Zs, Zz, Zc])
      refine name_wd (fun W33 hW => ?_)
      have hx : Ext W2 W33 := by rw [hW]; exact ext_alloc _ _
      have b2 : Blk W33 W2.heap.size 28 TV.z.cs := by rw [hW]; exact Blk.newAt rfl
      clear hW
      replace hS := hS.ext hx
      replace b0 := b0.ext hx
      replace b1 := b1.ext hx
      replace tpa := isT.ext hx tpa
      replace tpb := isT.ext hx tpb
      replace hra1 := rangeAt.ext hra1 hg1 hx
      replace hrb1 := rangeAt.ext hrb1 hg1 hx
      replace hg1 := Nat.lt_of_lt_of_le hg1 hx.below.size
      replace hEz := hEz.trans hx
      replace hE := hE.trans hx
      clear hx
      obtain ⟨r2, hr⟩ : ∃ r, r = W2.heap.size := ⟨_, rfl⟩
      rw [← hr] at b2
      try rw [← hr]
      have q2 : r1 < r2 := by omega
      have qb2 : mX ≤ r2 := by omega
      clear hr
      replace qz : r2 < W33.heap.size := b2.lt
      refine wpAnyD_oneL (i := 9) rfl (by kernel_rfl) (fun K hK => ?_)
      rw [if_pos (by rfl)]
      have qb : mX ≤ W33.heap.size := (by rw [hmX]; exact hS.size)
      go_simp
      (try dsimp only); refine hK.out _ _ (fun _ => hS.ext (ext_alloc _ _)) ?_; clear hK K; (try simp only [Act.put, Zs, Zz, Zc])
      refine name_wd (fun W34 hW => ?_)
      have hx : Ext W33 W34 := by rw [hW]; exact ext_alloc _ _
      have b3 : Blk W34 W33.heap.size 28 TV.z.cs := by rw [hW]; exact Blk.newAt rfl
      clear hW
      replace hS := hS.ext hx
      replace b0 := b0.ext hx
      replace b1 := b1.ext hx
      replace b2 := b2.ext hx
      replace tpa := isT.ext hx tpa
      replace tpb := isT.ext hx tpb
      replace hra1 := rangeAt.ext hra1 hg1 hx
      replace hrb1 := rangeAt.ext hrb1 hg1 hx
      replace hg1 := Nat.lt_of_lt_of_le hg1 hx.below.size
      replace hEz := hEz.trans hx
      replace hE := hE.trans hx
      clear hx
      obtain ⟨r3, hr⟩ : ∃ r, r = W33.heap.size := ⟨_, rfl⟩
      rw [← hr] at b3
      try rw [← hr]
      have q3 : r2 < r3 := by omega
      have qb3 : mX ≤ r3 := by omega
      clear hr
      replace qz : r3 < W34.heap.size := b3.lt
      refine wpAnyD_oneL (i := 10) rfl (by kernel_rfl) (fun K hK => ?_)
      rw [if_pos (by rfl)]
      refine wp_store_box 28 _ _ (by rfl) b2 (by rfl) (by rfl) (by exact Try.infoT) (by first | exact RV.one _ | exact TV.one _ rfl | exact TV.one _ (isT.one tpa) | exact TV.one _ (isT.one tpb)) (by rfl) (fun W35 hg bn => ?_)
      replace b0 := b0.kept hg (Zn (by omega))
      replace b1 := b1.kept hg (Zn (by omega))
      replace b3 := b3.kept hg (Zn (by omega))
      replace tpa := isT.kept hg (Lw.not (by omega)) tpa
      replace tpb := isT.kept hg (Lw.not (by omega)) tpb
      replace hra1 := rangeAt.kept hra1 hg1 hg (Zn (by omega))
      replace hrb1 := rangeAt.kept hrb1 hg1 hg (Zn (by omega))
      replace hg1 := Nat.lt_of_lt_of_le hg1 hg.size
      replace hEz := ext_grow hEz hg (fun q hq => by cases hq; omega)
      replace hE := ext_grow hE hg (fun q hq => by cases hq; omega)
      replace hS := hS.stepNew hg (by omega)
      clear b2 hg
      have b2 := bn
      clear bn
      (try dsimp only); refine hK.out _ _ (fun _ => hS) ?_; clear hK K; (try simp only [Act.put, Zs, Zz, Zc])
      replace qz : r3 < W35.heap.size := b3.lt
      refine wpAnyD_oneL (i := 11) rfl (by kernel_rfl) (fun K hK => ?_)
      rw [if_pos (by rfl)]
      refine wp_store_box 28 _ _ (by rfl) b3 (by rfl) (by rfl) (by exact Try.infoT) (by first | exact RV.one _ | exact TV.one _ rfl | exact TV.one _ (isT.one tpa) | exact TV.one _ (isT.one tpb)) (by rfl) (fun W36 hg bn => ?_)
      replace b0 := b0.kept hg (Zn (by omega))
      replace b1 := b1.kept hg (Zn (by omega))
      replace b2 := b2.kept hg (Zn (by omega))
      replace tpa := isT.kept hg (Lw.not (by omega)) tpa
      replace tpb := isT.kept hg (Lw.not (by omega)) tpb
      replace hra1 := rangeAt.kept hra1 hg1 hg (Zn (by omega))
      replace hrb1 := rangeAt.kept hrb1 hg1 hg (Zn (by omega))
      replace hg1 := Nat.lt_of_lt_of_le hg1 hg.size
      replace hEz := ext_grow hEz hg (fun q hq => by cases hq; omega)
      replace hE := ext_grow hE hg (fun q hq => by cases hq; omega)
      replace hS := hS.stepNew hg (by omega)
      clear b3 hg
      have b3 := bn
      clear bn
      (try dsimp only); refine hK.out _ _ (fun _ => hS) ?_; clear hK K; (try simp only [Act.put, Zs, Zz, Zc])
      replace qz : r3 < W36.heap.size := b3.lt
      refine wpAnyD_done (by kernel_rfl) ?_ _
      clear hS hmX x0 x1
      simp only [Exit.then]; go_step; go_meet
      exact ⟨r2, r3, rfl, rfl, by omega, by omega, by omega, b2, b3, hEz⟩
    · rw [if_pos (by rfl)]
      have qb : mX ≤ W2.heap.size := (by rw [hmX]; exact hS.size)
      go_simp
      (try dsimp only); refine hK.out _ _ (fun _ => hS.ext (ext_alloc _ _)) ?_; clear hK K; (try simp only [Act.put, Zs, Zz, Zc])
      refine name_wd (fun W63 hW => ?_)
      have hx : Ext W2 W63 := by rw [hW]; exact ext_alloc _ _
      have b2 : Blk W63 W2.heap.size 28 TV.z.cs := by rw [hW]; exact Blk.newAt rfl
      clear hW
      replace hS := hS.ext hx
      replace b0 := b0.ext hx
      replace b1 := b1.ext hx
      replace tpa := isT.ext hx tpa
      replace tpb := isT.ext hx tpb
      replace hra1 := rangeAt.ext hra1 hg1 hx
      replace hrb1 := rangeAt.ext hrb1 hg1 hx
      replace hg1 := Nat.lt_of_lt_of_le hg1 hx.below.size
      replace hEz := hEz.trans hx
      replace hE := hE.trans hx
      clear hx
      obtain ⟨r2, hr⟩ : ∃ r, r = W2.heap.size := ⟨_, rfl⟩
      rw [← hr] at b2
      try rw [← hr]
      have q2 : r1 < r2 := by omega
      have qb2 : mX ≤ r2 := by omega
      clear hr
      replace qz : r2 < W63.heap.size := b2.lt
      refine wpAnyD_oneL (i := 8) rfl (by kernel_rfl) (fun K hK => ?_)
      rw [if_pos (by rfl)]
      have qb : mX ≤ W63.heap.size := (by rw [hmX]; exact hS.size)
      go_simp
      (try dsimp only); refine hK.out _ _ (fun _ => hS.ext (ext_alloc _ _)) ?_; clear hK K; (try simp only [Act.put, Zs, Zz, Zc])
      refine name_wd (fun W64 hW => ?_)
      have hx : Ext W63 W64 := by rw [hW]; exact ext_alloc _ _
      have b3 : Blk W64 W63.heap.size 28 TV.z.cs := by rw [hW]; exact Blk.newAt rfl
      clear hW
      replace hS := hS.ext hx
      replace b0 := b0.ext hx
      replace b1 := b1.ext hx
      replace b2 := b2.ext hx
      replace tpa := isT.ext hx tpa
      replace tpb := isT.ext hx tpb
      replace hra1 := rangeAt.ext hra1 hg1 hx
      replace hrb1 := rangeAt.ext hrb1 hg1 hx
      replace hg1 := Nat.lt_of_lt_of_le hg1 hx.below.size
      replace hEz := hEz.trans hx
      replace hE := hE.trans hx
      clear hx
      obtain ⟨r3, hr⟩ : ∃ r, r = W63.heap.size := ⟨_, rfl⟩
      rw [← hr] at b3
      try rw [← hr]
      have q3 : r2 < r3 := by omega
      have qb3 : mX ≤ r3 := by omega
      clear hr
      replace qz : r3 < W64.heap.size := b3.lt
      refine wpAnyD_oneL (i := 10) rfl (by kernel_rfl) (fun K hK => ?_)
      rw [if_pos (by rfl)]
      refine wp_store_box 28 _ _ (by rfl) b3 (by rfl) (by rfl) (by exact Try.infoT) (by first | exact RV.one _ | exact TV.one _ rfl | exact TV.one _ (isT.one tpa) | exact TV.one _ (isT.one tpb)) (by rfl) (fun W65 hg bn => ?_)
      replace b0 := b0.kept hg (Zn (by omega))
      replace b1 := b1.kept hg (Zn (by omega))
      replace b2 := b2.kept hg (Zn (by omega))
      replace tpa := isT.kept hg (Lw.not (by omega)) tpa
      replace tpb := isT.kept hg (Lw.not (by omega)) tpb
      replace hra1 := rangeAt.kept hra1 hg1 hg (Zn (by omega))
      replace hrb1 := rangeAt.kept hrb1 hg1 hg (Zn (by omega))
      replace hg1 := Nat.lt_of_lt_of_le hg1 hg.size
      replace hEz := ext_grow hEz hg (fun q hq => by cases hq; omega)
      replace hE := ext_grow hE hg (fun q hq => by cases hq; omega)
      replace hS := hS.stepNew hg (by omega)
      clear b3 hg
      have b3 := bn
      clear bn
      (try dsimp only); refine hK.out _ _ (fun _ => hS) ?_; clear hK K; (try simp only [Act.put, Zs, Zz, Zc])
      replace qz : r3 < W65.heap.size := b3.lt
      refine wpAnyD_oneL (i := 11) rfl (by kernel_rfl) (fun K hK => ?_)
      rw [if_pos (by rfl)]
      refine wp_store_box 28 _ _ (by rfl) b2 (by rfl) (by rfl) (by exact Try.infoT) (by first | exact RV.one _ | exact TV.one _ rfl | exact TV.one _ (isT.one tpa) | exact TV.one _ (isT.one tpb)) (by rfl) (fun W66 hg bn => ?_)
      replace b0 := b0.kept hg (Zn (by omega))
      replace b1 := b1.kept hg (Zn (by omega))
      replace b3 := b3.kept hg (Zn (by omega))
      replace tpa := isT.kept hg (Lw.not (by omega)) tpa
      replace tpb := isT.kept hg (Lw.not (by omega)) tpb
      replace hra1 := rangeAt.kept hra1 hg1 hg (Zn (by omega))
      replace hrb1 := rangeAt.kept hrb1 hg1 hg (Zn (by omega))
      replace hg1 := Nat.lt_of_lt_of_le hg1 hg.size
      replace hEz := ext_grow hEz hg (fun q hq => by cases hq; omega)
      replace hE := ext_grow hE hg (fun q hq => by cases hq; omega)
      replace hS := hS.stepNew hg (by omega)
      clear b2 hg
      have b2 := bn
      clear bn
      (try dsimp only); refine hK.out _ _ (fun _ => hS) ?_; clear hK K; (try simp only [Act.put, Zs, Zz, Zc])
      replace qz : r3 < W66.heap.size := b3.lt
      refine wpAnyD_done (by kernel_rfl) ?_ _
      clear hS hmX x0 x1
      simp only [Exit.then]; go_step; go_meet
      exact ⟨r3, r2, rfl, rfl, by omega, by omega, by omega, b3, b2, hEz⟩
  obtain ⟨r2, r3, rfl, rfl, q2x, q3x, qne2, b2, b3, hx⟩ := hcut
  obtain ⟨W2, rfl⟩ : ∃ W, W = wc := ⟨_, rfl⟩
  replace b0 := b0.ext hx
  replace b1 := b1.ext hx
  replace tpa := isT.ext hx tpa
  replace tpb := isT.ext hx tpb
  replace hra1 := rangeAt.ext hra1 hg1 hx
  replace hrb1 := rangeAt.ext hrb1 hg1 hx
  replace hg1 := Nat.lt_of_lt_of_le hg1 hx.below.size
  replace hE := hE.trans hx
  clear hx
  replace qz : r1 < W2.heap.size := b1.lt
  replace qz : r3 < W2.heap.size := b3.lt
  have qz2 : r2 < W2.heap.size := b2.lt
  clear ya1 yb1 yg1 hra1 hrb1 hg1
  go_upto_region 4 with fail
  by_cases c1 : s < y.s
  · have hR : remP (.N a y b) s = joinP (remP a s) y b := by rw [remP, if_pos c1]
    replace hR : Hid _ := hR
    have hc1 : decide (s < y.s) = true := decide_eq_true c1
    have hsa : ∃ z ∈ a.flat, z.s = s := by
      obtain ⟨z, hz, hzs⟩ := hs.out
      rcases List.mem_append.1 (show z ∈ a.flat ++ y :: b.flat from hz) with h | h
      · exact ⟨z, h, hzs⟩
      · rcases List.mem_cons.1 h with h | h
        · rw [h] at hzs; omega
        · have := apart_lt (l2.out z h) hvy; omega
    have hi9 := (rem_bal a s hba.out).2.2
    replace c1 : Hid _ := c1
    refine wp_region_lit ?_
    have zc0 := b0.cell 4
    iterate 5 (refine wpList_plain rfl (fun K hK => ?_); go_simp; (try simp only [hc1]); (try dsimp only); refine hK _ _ ?_; clear hK K; (try simp only [Act.put, Zs, Zz, Zc]))
    clear zc0
    refine wpList_nil ?_
    go_upto_region 5 with fail
    obtain ⟨m, hm, hm2⟩ : ∃ m, r3 < m ∧ m = W2.heap.size := ⟨_, qz, rfl⟩
    have hm3 : m ≤ W2.heap.size := by omega
    have hm_2 : r2 < m := by omega
    clear hm2
    have x0 := b0
    have x1 := b1
    have x2 := b2
    have x3 := b3
    have hS : GrownX W2 [r1] W2 := GrownX.refl _ _
    refine wp_region_S (GrownX W2 [r1]) (by kernel_rfl) ?_
    refine name_wd (fun W401 hW => ?_)
    have hx : Ext W2 W401 := by rw [hW]; exact ext_drew _
    clear hW
    replace hS := hS.ext hx
    replace b0 := b0.ext hx
    replace b1 := b1.ext hx
    replace b2 := b2.ext hx
    replace b3 := b3.ext hx
    replace tpa := isT.ext hx tpa
    replace tpb := isT.ext hx tpb
    replace hm3 := Nat.le_trans hm3 hx.below.size
    replace hE := hE.trans hx
    clear hx
    replace qz : r3 < W401.heap.size := b3.lt
    replace qz2 : r2 < W401.heap.size := b2.lt
    refine wpAnyD_takeSL (i := 0) rfl (by kernel_rfl) (fun _ _ _ _ h => h) hS ?_
    apply Exists.intro
    refine ⟨Or.inl ⟨by rfl, ?_⟩, ?_⟩
    (focus (intro wz hz; (first | exact exec_ld 28 _ rfl rfl ((GrownX.blk hz x2 (by first | decide | (simp; done) | (simp; omega) | omega)).range) Try.underlying28 rfl (by exact Try.infoT))))
    (try simp only [Act.put, Zs, Zz, Zc])
    refine wpAnyD_takeSL (i := 1) rfl (by kernel_rfl) (fun _ _ _ _ h => h) hS ?_
    apply Exists.intro
    refine ⟨Or.inl ⟨by rfl, ?_⟩, ?_⟩
    (focus (intro wz hz; go_simp; (try with_reducible rfl); done))
    (try simp only [Act.put, Zs, Zz, Zc])
    refine wpAnyD_takeSL (i := 3) rfl (by kernel_rfl) (fun _ _ _ _ h => h) hS ?_
    apply Exists.intro
    refine ⟨Or.inl ⟨by rfl, ?_⟩, ?_⟩
    (focus (intro wz hz; go_simp; (try with_reducible rfl); done))
    (try simp only [Act.put, Zs, Zz, Zc])
    refine wpAnyD_takeSL (i := 4) rfl (by kernel_rfl) (fun _ _ _ _ h => h) hS ?_
    apply Exists.intro
    refine ⟨Or.inl ⟨by rfl, ?_⟩, ?_⟩
    (focus (intro wz hz; (first | exact exec_ld 25 _ rfl rfl (Blk.rgn (GrownX.blk hz x0 (by first | decide | (simp; done) | (simp; omega) | omega))) Try.underlying25 rfl (by exact Try.infoR))))
    (try simp only [Act.put, Zs, Zz, Zc])
    refine wpAnyD_takeSL (i := 5) rfl (by kernel_rfl) (fun _ _ _ _ h => h) hS ?_
    apply Exists.intro
    refine ⟨Or.inl ⟨by rfl, ?_⟩, ?_⟩
    (focus (intro wz hz; (first | exact exec_ld 28 _ rfl rfl ((GrownX.blk hz x3 (by first | decide | (simp; done) | (simp; omega) | omega)).range) Try.underlying28 rfl (by exact Try.infoT))))
    (try simp only [Act.put, Zs, Zz, Zc])
    refine wpAnyD_oneL (i := 2) rfl (by kernel_rfl) (fun K hK => ?_)
    rw [if_pos (by rfl)]
    go_simp
    (go_at_call 40; refine (iha (Lo A w.heap.size m) s _ _ (Up.lo hA hE hm3) tpa.up ba hba.out oa (by omega) hsa).mono ?_; intro e W402 hpp; obtain ⟨v1, rfl, t1, hx⟩ := hpp)
    replace hS := hS.ext hx; (try dsimp only); refine hK.out _ _ (fun _ => hS) ?_; clear hK K; (try simp only [Act.put, Zs, Zz, Zc])
    replace b0 := b0.ext hx
    replace b1 := b1.ext hx
    replace b2 := b2.ext hx
    replace b3 := b3.ext hx
    replace tpa := isT.ext hx tpa
    replace tpb := isT.ext hx tpb
    replace hm3 := Nat.le_trans hm3 hx.below.size
    replace hE := hE.trans hx
    clear hx
    replace qz : r3 < W402.heap.size := b3.lt
    replace qz2 : r2 < W402.heap.size := b2.lt
    refine wpAnyD_oneL (i := 6) rfl (by kernel_rfl) (fun K hK => ?_)
    rw [if_pos (by rfl)]
    go_simp
    (go_at_call 56; refine (rbal_P (A := Lo A w.heap.size m) (remP a s) y (b) _ _ _ (Up.lo hA hE hm3) t1 tpb.up hvy (bd_rem ba oa hba.out) bb (by omega)).mono ?_; intro e W403 hpp; obtain ⟨v2, rfl, t2, hx⟩ := hpp)
    replace hS := hS.ext hx; (try dsimp only); refine hK.out _ _ (fun _ => hS) ?_; clear hK K; (try simp only [Act.put, Zs, Zz, Zc])
    replace b0 := b0.ext hx
    replace b1 := b1.ext hx
    replace b2 := b2.ext hx
    replace b3 := b3.ext hx
    replace tpa := isT.ext hx tpa
    replace tpb := isT.ext hx tpb
    replace hm3 := Nat.le_trans hm3 hx.below.size
    replace t1 := isT.ext hx t1
    replace hE := hE.trans hx
    clear hx
    replace qz : r3 < W403.heap.size := b3.lt
    replace qz2 : r2 < W403.heap.size := b2.lt
    refine wpAnyD_oneL (i := 7) rfl (by kernel_rfl) (fun K hK => ?_)
    rw [if_pos (by rfl)]
    refine wp_store_box 28 _ _ (by rfl) b1 (by rfl) (by rfl) (by exact Try.infoT) (by first | exact RV.one _ | exact TV.one _ rfl | exact TV.one _ (isT.one tpa) | exact TV.one _ (isT.one tpb) | exact TV.one _ (isT.one t1) | exact TV.one _ (isT.one t2)) (by rfl) (fun W404 hg bn => ?_)
    replace b0 := b0.kept hg (Zn (by omega))
    replace b2 := b2.kept hg (Zn (by omega))
    replace b3 := b3.kept hg (Zn (by omega))
    replace tpa := isT.kept hg (Lw.not (by omega)) tpa
    replace tpb := isT.kept hg (Lw.not (by omega)) tpb
    replace hm3 := Nat.le_trans hm3 hg.size
    replace t1 := isT.kept hg (Lo.not (by omega) (by omega)) t1
    replace t2 := isT.kept hg (Lo.not (by omega) (by omega)) t2
    replace hE := ext_grow hE hg (fun q hq => by cases hq; omega)
    replace hS := hS.step hg (by first | decide | (simp; done) | (simp; omega) | omega)
    clear b1 hg
    have b1 := bn
    clear bn
    (try dsimp only); refine hK.out _ _ (fun _ => hS) ?_; clear hK K; (try simp only [Act.put, Zs, Zz, Zc])
    replace qz : r3 < W404.heap.size := b3.lt
    replace qz2 : r2 < W404.heap.size := b2.lt
    refine wpAnyD_done (by kernel_rfl) ?_ _
    clear hS x0 x1 x2 x3
    go_wp2_with fail
    exact bodyPost_ret (res_c rfl (GivesC.of b1 rfl Try.underlying28 rfl Try.infoT)) rfl ⟨v2, rfl, by rw [hJ.out, hR.out]; exact t2.hi, hE⟩
  · have hc1 : decide (s < y.s) = false := decide_eq_false c1
    refine wp_region_lit ?_
    have zc0 := b0.cell 4
    iterate 5 (refine wpList_plain rfl (fun K hK => ?_); go_simp; (try simp only [hc1]); (try dsimp only); refine hK _ _ ?_; clear hK K; (try simp only [Act.put, Zs, Zz, Zc]))
    clear zc0
    refine wpList_nil ?_
    go_upto_region 6 with fail
    by_cases c2 : y.s < s
    · have hR : remP (.N a y b) s = joinP a y (remP b s) := by rw [remP, if_neg c1, if_pos c2]
      replace hR : Hid _ := hR
      have hc2 : decide (y.s < s) = true := decide_eq_true c2
      have hsb : ∃ z ∈ b.flat, z.s = s := by
        obtain ⟨z, hz, hzs⟩ := hs.out
        rcases List.mem_append.1 (show z ∈ a.flat ++ y :: b.flat from hz) with h | h
        · have := apart_lt (l1.out z h) (oa.v z h); omega
        · rcases List.mem_cons.1 h with h | h
          · rw [h] at hzs; omega
          · exact ⟨z, h, hzs⟩
      have hi9 := (rem_bal b s hbb.out).2.2
      replace c1 : Hid _ := c1
      replace c2 : Hid _ := c2
      refine wp_region_lit ?_
      have zc0 := b0.cell 4
      iterate 5 (refine wpList_plain rfl (fun K hK => ?_); go_simp; (try simp only [hc2]); (try dsimp only); refine hK _ _ ?_; clear hK K; (try simp only [Act.put, Zs, Zz, Zc]))
      clear zc0
      refine wpList_nil ?_
      go_upto_region 7 with fail
      obtain ⟨m, hm, hm2⟩ : ∃ m, r3 < m ∧ m = W2.heap.size := ⟨_, qz, rfl⟩
      have hm3 : m ≤ W2.heap.size := by omega
      have hm_2 : r2 < m := by omega
      clear hm2
      have x0 := b0
      have x1 := b1
      have x2 := b2
      have x3 := b3
      have hS : GrownX W2 [r1] W2 := GrownX.refl _ _
      refine wp_region_S (GrownX W2 [r1]) (by kernel_rfl) ?_
      refine name_wd (fun W601 hW => ?_)
      have hx : Ext W2 W601 := by rw [hW]; exact ext_drew _
      clear hW
      replace hS := hS.ext hx
      replace b0 := b0.ext hx
      replace b1 := b1.ext hx
      replace b2 := b2.ext hx
      replace b3 := b3.ext hx
      replace tpa := isT.ext hx tpa
      replace tpb := isT.ext hx tpb
      replace hm3 := Nat.le_trans hm3 hx.below.size
      replace hE := hE.trans hx
      clear hx
      replace qz : r3 < W601.heap.size := b3.lt
      replace qz2 : r2 < W601.heap.size := b2.lt
      refine wpAnyD_takeSL (i := 0) rfl (by kernel_rfl) (fun _ _ _ _ h => h) hS ?_
      apply Exists.intro
      refine ⟨Or.inl ⟨by rfl, ?_⟩, ?_⟩
      (focus (intro wz hz; (first | exact exec_ld 28 _ rfl rfl ((GrownX.blk hz x2 (by first | decide | (simp; done) | (simp; omega) | omega)).range) Try.underlying28 rfl (by exact Try.infoT))))
      (try simp only [Act.put, Zs, Zz, Zc])
      refine wpAnyD_takeSL (i := 1) rfl (by kernel_rfl) (fun _ _ _ _ h => h) hS ?_
      apply Exists.intro
      refine ⟨Or.inl ⟨by rfl, ?_⟩, ?_⟩
      (focus (intro wz hz; go_simp; (try with_reducible rfl); done))
      (try simp only [Act.put, Zs, Zz, Zc])
      refine wpAnyD_takeSL (i := 2) rfl (by kernel_rfl) (fun _ _ _ _ h => h) hS ?_
      apply Exists.intro
      refine ⟨Or.inl ⟨by rfl, ?_⟩, ?_⟩
      (focus (intro wz hz; (first | exact exec_ld 25 _ rfl rfl (Blk.rgn (GrownX.blk hz x0 (by first | decide | (simp; done) | (simp; omega) | omega))) Try.underlying25 rfl (by exact Try.infoR))))
      (try simp only [Act.put, Zs, Zz, Zc])
      refine wpAnyD_takeSL (i := 3) rfl (by kernel_rfl) (fun _ _ _ _ h => h) hS ?_
      apply Exists.intro
      refine ⟨Or.inl ⟨by rfl, ?_⟩, ?_⟩
      (focus (intro wz hz; (first | exact exec_ld 28 _ rfl rfl ((GrownX.blk hz x3 (by first | decide | (simp; done) | (simp; omega) | omega)).range) Try.underlying28 rfl (by exact Try.infoT))))
      (try simp only [Act.put, Zs, Zz, Zc])
      refine wpAnyD_takeSL (i := 4) rfl (by kernel_rfl) (fun _ _ _ _ h => h) hS ?_
      apply Exists.intro
      refine ⟨Or.inl ⟨by rfl, ?_⟩, ?_⟩
      (focus (intro wz hz; go_simp; (try with_reducible rfl); done))
      (try simp only [Act.put, Zs, Zz, Zc])
      refine wpAnyD_oneL (i := 5) rfl (by kernel_rfl) (fun K hK => ?_)
      rw [if_pos (by rfl)]
      go_simp
      (go_at_call 40; refine (ihb (Lo A w.heap.size m) s _ _ (Up.lo hA hE hm3) tpb.up bb hbb.out ob (by omega) hsb).mono ?_; intro e W602 hpp; obtain ⟨v1, rfl, t1, hx⟩ := hpp)
      replace hS := hS.ext hx; (try dsimp only); refine hK.out _ _ (fun _ => hS) ?_; clear hK K; (try simp only [Act.put, Zs, Zz, Zc])
      replace b0 := b0.ext hx
      replace b1 := b1.ext hx
      replace b2 := b2.ext hx
      replace b3 := b3.ext hx
      replace tpa := isT.ext hx tpa
      replace tpb := isT.ext hx tpb
      replace hm3 := Nat.le_trans hm3 hx.below.size
      replace hE := hE.trans hx
      clear hx
      replace qz : r3 < W602.heap.size := b3.lt
      replace qz2 : r2 < W602.heap.size := b2.lt
      refine wpAnyD_oneL (i := 6) rfl (by kernel_rfl) (fun K hK => ?_)
      rw [if_pos (by rfl)]
      go_simp
      (go_at_call 56; refine (rbal_P (A := Lo A w.heap.size m) (a) y (remP b s) _ _ _ (Up.lo hA hE hm3) tpa.up t1 hvy ba (bd_rem bb ob hbb.out) (by omega)).mono ?_; intro e W603 hpp; obtain ⟨v2, rfl, t2, hx⟩ := hpp)
      replace hS := hS.ext hx; (try dsimp only); refine hK.out _ _ (fun _ => hS) ?_; clear hK K; (try simp only [Act.put, Zs, Zz, Zc])
      replace b0 := b0.ext hx
      replace b1 := b1.ext hx
      replace b2 := b2.ext hx
      replace b3 := b3.ext hx
      replace tpa := isT.ext hx tpa
      replace tpb := isT.ext hx tpb
      replace hm3 := Nat.le_trans hm3 hx.below.size
      replace t1 := isT.ext hx t1
      replace hE := hE.trans hx
      clear hx
      replace qz : r3 < W603.heap.size := b3.lt
      replace qz2 : r2 < W603.heap.size := b2.lt
      refine wpAnyD_oneL (i := 7) rfl (by kernel_rfl) (fun K hK => ?_)
      rw [if_pos (by rfl)]
      refine wp_store_box 28 _ _ (by rfl) b1 (by rfl) (by rfl) (by exact Try.infoT) (by first | exact RV.one _ | exact TV.one _ rfl | exact TV.one _ (isT.one tpa) | exact TV.one _ (isT.one tpb) | exact TV.one _ (isT.one t1) | exact TV.one _ (isT.one t2)) (by rfl) (fun W604 hg bn => ?_)
      replace b0 := b0.kept hg (Zn (by omega))
      replace b2 := b2.kept hg (Zn (by omega))
      replace b3 := b3.kept hg (Zn (by omega))
      replace tpa := isT.kept hg (Lw.not (by omega)) tpa
      replace tpb := isT.kept hg (Lw.not (by omega)) tpb
      replace hm3 := Nat.le_trans hm3 hg.size
      replace t1 := isT.kept hg (Lo.not (by omega) (by omega)) t1
      replace t2 := isT.kept hg (Lo.not (by omega) (by omega)) t2
      replace hE := ext_grow hE hg (fun q hq => by cases hq; omega)
      replace hS := hS.step hg (by first | decide | (simp; done) | (simp; omega) | omega)
      clear b1 hg
      have b1 := bn
      clear bn
      (try dsimp only); refine hK.out _ _ (fun _ => hS) ?_; clear hK K; (try simp only [Act.put, Zs, Zz, Zc])
      replace qz : r3 < W604.heap.size := b3.lt
      replace qz2 : r2 < W604.heap.size := b2.lt
      refine wpAnyD_done (by kernel_rfl) ?_ _
      clear hS x0 x1 x2 x3
      go_wp2_with fail
      exact bodyPost_ret (res_c rfl (GivesC.of b1 rfl Try.underlying28 rfl Try.infoT)) rfl ⟨v2, rfl, by rw [hJ.out, hR.out]; exact t2.hi, hE⟩
    · have hc2 : decide (y.s < s) = false := decide_eq_false c2
      refine wp_region_lit ?_
      have zc0 := b0.cell 4
      iterate 5 (refine wpList_plain rfl (fun K hK => ?_); go_simp; (try simp only [hc2]); (try dsimp only); refine hK _ _ ?_; clear hK K; (try simp only [Act.put, Zs, Zz, Zc]))
      clear zc0
      refine wpList_nil ?_
      go_upto_region 8 with fail
      by_cases c3 : a.ht = 0
      · have hR : remP (.N a y b) s = b := by rw [remP, if_neg c1, if_neg c2, if_pos c3]
        replace hR : Hid _ := hR
        have hc3 : (pa.h == 0) = true := by rw [na.out, c3]; rfl
        replace c1 : Hid _ := c1
        replace c2 : Hid _ := c2
        replace c3 : Hid _ := c3
        refine wp_region_lit ?_
        have zc0 := b2.cell 0
        iterate 3 (refine wpList_plain rfl (fun K hK => ?_); go_simp; (try simp only [hc3]); (try dsimp only); refine hK _ _ ?_; clear hK K; (try simp only [Act.put, Zs, Zz, Zc]))
        clear zc0
        refine wpList_nil ?_
        go_upto_region 9 with fail
        refine wp_region_lit ?_
        refine wpList_plain rfl (fun K hK => ?_); (first | (refine wp_ld 28 _ (b3.range) (by rfl) (by rfl) Try.underlying28 rfl (by exact Try.infoT) ?_)); (try dsimp only); refine hK _ _ ?_; clear hK K; (try simp only [Act.put, Zs, Zz, Zc])
        refine wpList_plain rfl (fun K hK => ?_)
        refine wp_store_box 28 _ _ (by rfl) b1 (by rfl) (by rfl) (by exact Try.infoT) (by first | exact RV.one _ | exact TV.one _ rfl | exact TV.one _ (isT.one tpa) | exact TV.one _ (isT.one tpb)) (by rfl) (fun W701 hg bn => ?_)
        replace b0 := b0.kept hg (Zn (by omega))
        replace b2 := b2.kept hg (Zn (by omega))
        replace b3 := b3.kept hg (Zn (by omega))
        replace tpa := isT.kept hg (Lw.not (by omega)) tpa
        replace tpb := isT.kept hg (Lw.not (by omega)) tpb
        replace hE := ext_grow hE hg (fun q hq => by cases hq; omega)
        clear b1 hg
        have b1 := bn
        clear bn
        (try dsimp only); refine hK _ _ ?_; clear hK K; (try simp only [Act.put, Zs, Zz, Zc])
        replace qz : r3 < W701.heap.size := b3.lt
        replace qz2 : r2 < W701.heap.size := b2.lt
        refine wpList_nil ?_
        go_wp2_with fail
        exact bodyPost_ret (res_c rfl (GivesC.of b1 rfl Try.underlying28 rfl Try.infoT)) rfl ⟨pb, rfl, by rw [hJ.out, hR.out]; exact tpb.low, hE⟩
      · have hc3 : (pa.h == 0) = false := by rw [na.out]; simpa using c3
        refine wp_region_lit ?_
        have zc0 := b2.cell 0
        iterate 3 (refine wpList_plain rfl (fun K hK => ?_); go_simp; (try simp only [hc3]); (try dsimp only); refine hK _ _ ?_; clear hK K; (try simp only [Act.put, Zs, Zz, Zc]))
        clear zc0
        refine wpList_nil ?_
        go_upto_region 10 with fail
        by_cases c4 : b.ht = 0
        · have hR : remP (.N a y b) s = a := by rw [remP, if_neg c1, if_neg c2, if_neg c3, if_pos c4]
          replace hR : Hid _ := hR
          have hc4 : (pb.h == 0) = true := by rw [nb.out, c4]; rfl
          replace c1 : Hid _ := c1
          replace c2 : Hid _ := c2
          replace c3 : Hid _ := c3
          replace c4 : Hid _ := c4
          refine wp_region_lit ?_
          have zc0 := b3.cell 0
          iterate 3 (refine wpList_plain rfl (fun K hK => ?_); go_simp; (try simp only [hc4]); (try dsimp only); refine hK _ _ ?_; clear hK K; (try simp only [Act.put, Zs, Zz, Zc]))
          clear zc0
          refine wpList_nil ?_
          go_upto_region 11 with fail
          refine wp_region_lit ?_
          refine wpList_plain rfl (fun K hK => ?_); (first | (refine wp_ld 28 _ (b2.range) (by rfl) (by rfl) Try.underlying28 rfl (by exact Try.infoT) ?_)); (try dsimp only); refine hK _ _ ?_; clear hK K; (try simp only [Act.put, Zs, Zz, Zc])
          refine wpList_plain rfl (fun K hK => ?_)
          refine wp_store_box 28 _ _ (by rfl) b1 (by rfl) (by rfl) (by exact Try.infoT) (by first | exact RV.one _ | exact TV.one _ rfl | exact TV.one _ (isT.one tpa) | exact TV.one _ (isT.one tpb)) (by rfl) (fun W801 hg bn => ?_)
          replace b0 := b0.kept hg (Zn (by omega))
          replace b2 := b2.kept hg (Zn (by omega))
          replace b3 := b3.kept hg (Zn (by omega))
          replace tpa := isT.kept hg (Lw.not (by omega)) tpa
          replace tpb := isT.kept hg (Lw.not (by omega)) tpb
          replace hE := ext_grow hE hg (fun q hq => by cases hq; omega)
          clear b1 hg
          have b1 := bn
          clear bn
          (try dsimp only); refine hK _ _ ?_; clear hK K; (try simp only [Act.put, Zs, Zz, Zc])
          replace qz : r3 < W801.heap.size := b3.lt
          replace qz2 : r2 < W801.heap.size := b2.lt
          refine wpList_nil ?_
          go_wp2_with fail
          exact bodyPost_ret (res_c rfl (GivesC.of b1 rfl Try.underlying28 rfl Try.infoT)) rfl ⟨pa, rfl, by rw [hJ.out, hR.out]; exact tpa.low, hE⟩
        · have hR : remP (.N a y b) s = joinP a (minP b y) (remP b (minP b y).s) := by rw [remP, if_neg c1, if_neg c2, if_neg c3, if_neg c4]
          replace hR : Hid _ := hR
          have hc4 : (pb.h == 0) = false := by rw [nb.out]; simpa using c4
          have hmv : vld (minP b y) := bb.v _ (min_mem b y (by have := PT.ht_nn b; omega))
          have hsb : ∃ z ∈ b.flat, z.s = (minP b y).s := ⟨_, min_mem b y (by have := PT.ht_nn b; omega), rfl⟩
          have hi9 := (rem_bal b (minP b y).s hbb.out).2.2
          obtain ⟨B, hB⟩ := min_flat b y (by have := PT.ht_nn b; omega)
          have hpos : 0 < b.flat.length := by rw [hB]; simp
          have hfst : b.flat[0] = minP b y := by simp [hB]
          obtain ⟨mm, hmm⟩ : ∃ mm, mm = minP b y := ⟨_, rfl⟩
          rw [← hmm] at hmv hsb hi9 hfst
          have hR2 : remP (.N a y b) s = joinP a mm (remP b mm.s) := by rw [hmm]; exact hR.out
          clear hR
          have hR := hid_of hR2
          replace hfst : Hid _ := hfst
          clear hB hmm hR2
          replace c1 : Hid _ := c1
          replace c2 : Hid _ := c2
          replace c3 : Hid _ := c3
          replace c4 : Hid _ := c4
          refine wp_region_lit ?_
          have zc0 := b3.cell 0
          iterate 3 (refine wpList_plain rfl (fun K hK => ?_); go_simp; (try simp only [hc4]); (try dsimp only); refine hK _ _ ?_; clear hK K; (try simp only [Act.put, Zs, Zz, Zc]))
          clear zc0
          refine wpList_nil ?_
          go_upto_region 12 with fail
          refine wp_region_lit ?_
          refine wpList_plain rfl (fun K hK => ?_); (first | (refine wp_ld 28 _ (b3.range) (by rfl) (by rfl) Try.underlying28 rfl (by exact Try.infoT) ?_)); (try dsimp only); refine hK _ _ ?_; clear hK K; (try simp only [Act.put, Zs, Zz, Zc])
          refine wpList_plain rfl (fun K hK => ?_); go_simp; (go_at_call 48; refine (rregs_flat b pb _ tpb (by omega)).mono ?_; intro e W901 hpp; obtain ⟨u, rfl, hown, hx⟩ := hpp); (try dsimp only); refine hK _ _ ?_; clear hK K; (try simp only [Act.put, Zs, Zz, Zc])
          replace b0 := b0.ext hx
          replace b1 := b1.ext hx
          replace b2 := b2.ext hx
          replace b3 := b3.ext hx
          replace tpa := isT.ext hx tpa
          replace tpb := isT.ext hx tpb
          replace hE := hE.trans hx
          clear hx
          replace qz : r3 < W901.heap.size := b3.lt
          replace qz2 : r2 < W901.heap.size := b2.lt
          obtain ⟨ua, uc, rfl⟩ := hown.shape
          obtain ⟨gw, ow, rfl, hd1, hd2, hgw, hrw⟩ := sl_at hown.isSl (k := 0) hpos
          rw [hfst.out, Nat.zero_mul, Nat.add_zero] at hrw
          have hrw0 := hrw
          clear hrw hown
          have hpI : (0 : Int) < (b.flat.length : Int) := by omega
          refine wpList_plain rfl (fun K hK => ?_); go_simp; (try dsimp only); refine hK _ _ ?_; clear hK K; (try simp only [Act.put, Zs, Zz, Zc])
          refine wpList_plain rfl (fun K hK => ?_); (first | (refine wp_ld 25 _ (hrw0) (by rfl) (by rfl) Try.underlying25 rfl (by exact Try.infoR) ?_)); (try dsimp only); refine hK _ _ ?_; clear hK K; (try simp only [Act.put, Zs, Zz, Zc])
          refine wpList_plain rfl (fun K hK => ?_); have qb : (gw + 1) ≤ W901.heap.size := hgw; go_simp; (try dsimp only); refine hK _ _ ?_; clear hK K; (try simp only [Act.put, Zs, Zz, Zc])
          refine name_wl (fun W902 hW => ?_)
          have hx : Ext W901 W902 := by rw [hW]; exact ext_alloc _ _
          have b4 : Blk W902 W901.heap.size 25 RV.z.cs := by rw [hW]; exact Blk.newAt rfl
          clear hW
          replace b0 := b0.ext hx
          replace b1 := b1.ext hx
          replace b2 := b2.ext hx
          replace b3 := b3.ext hx
          replace tpa := isT.ext hx tpa
          replace tpb := isT.ext hx tpb
          replace hrw0 := rangeAt.ext hrw0 hgw hx
          replace hgw := Nat.lt_of_lt_of_le hgw hx.below.size
          replace hE := hE.trans hx
          clear hx
          obtain ⟨r4, hr⟩ : ∃ r, r = W901.heap.size := ⟨_, rfl⟩
          rw [← hr] at b4
          try rw [← hr]
          have q4 : r3 < r4 := by omega
          have qb4 : (gw + 1) ≤ r4 := by omega
          have q4_2 : r2 < r4 := by omega
          replace qz2 : r2 < W902.heap.size := b2.lt
          clear hr
          replace qz : r4 < W902.heap.size := b4.lt
          refine wpList_plain rfl (fun K hK => ?_)
          refine wp_store_box 25 _ _ (by rfl) b4 (by rfl) (by rfl) (by exact Try.infoR) (by first | exact RV.one _ | exact TV.one _ rfl | exact TV.one _ (isT.one tpa) | exact TV.one _ (isT.one tpb) | exact RV.one _) (by rfl) (fun W903 hg bn => ?_)
          replace b0 := b0.kept hg (Zn (by omega))
          replace b1 := b1.kept hg (Zn (by omega))
          replace b2 := b2.kept hg (Zn (by omega))
          replace b3 := b3.kept hg (Zn (by omega))
          replace tpa := isT.kept hg (Lw.not (by omega)) tpa
          replace tpb := isT.kept hg (Lw.not (by omega)) tpb
          replace hrw0 := rangeAt.kept hrw0 hgw hg (Zn (by omega))
          replace hgw := Nat.lt_of_lt_of_le hgw hg.size
          replace hE := ext_grow hE hg (fun q hq => by cases hq; omega)
          clear b4 hg
          have b4 := bn
          clear bn
          (try dsimp only); refine hK _ _ ?_; clear hK K; (try simp only [Act.put, Zs, Zz, Zc])
          replace qz : r4 < W903.heap.size := b4.lt
          replace qz2 : r2 < W903.heap.size := b2.lt
          refine wpList_nil ?_
          clear hrw0 hgw
          go_upto_region 13 with fail
          obtain ⟨m, hm, hm2⟩ : ∃ m, r4 < m ∧ m = W903.heap.size := ⟨_, qz, rfl⟩
          have hm3 : m ≤ W903.heap.size := by omega
          have hm_2 : r2 < m := by omega
          clear hm2
          have x0 := b0
          have x1 := b1
          have x2 := b2
          have x3 := b3
          have x4 := b4
          have hS : GrownX W903 [r1] W903 := GrownX.refl _ _
          refine wp_region_S (GrownX W903 [r1]) (by kernel_rfl) ?_
          refine name_wd (fun W904 hW => ?_)
          have hx : Ext W903 W904 := by rw [hW]; exact ext_drew _
          clear hW
          replace hS := hS.ext hx
          replace b0 := b0.ext hx
          replace b1 := b1.ext hx
          replace b2 := b2.ext hx
          replace b3 := b3.ext hx
          replace b4 := b4.ext hx
          replace tpa := isT.ext hx tpa
          replace tpb := isT.ext hx tpb
          replace hm3 := Nat.le_trans hm3 hx.below.size
          replace hE := hE.trans hx
          clear hx
          replace qz : r4 < W904.heap.size := b4.lt
          replace qz2 : r2 < W904.heap.size := b2.lt
          refine wpAnyD_takeSL (i := 0) rfl (by kernel_rfl) (fun _ _ _ _ h => h) hS ?_
          apply Exists.intro
          refine ⟨Or.inl ⟨by rfl, ?_⟩, ?_⟩
          (focus (intro wz hz; (first | exact exec_ld 28 _ rfl rfl ((GrownX.blk hz x2 (by first | decide | (simp; done) | (simp; omega) | omega)).range) Try.underlying28 rfl (by exact Try.infoT))))
          (try simp only [Act.put, Zs, Zz, Zc])
          refine wpAnyD_takeSL (i := 1) rfl (by kernel_rfl) (fun _ _ _ _ h => h) hS ?_
          apply Exists.intro
          refine ⟨Or.inl ⟨by rfl, ?_⟩, ?_⟩
          (focus (intro wz hz; (first | exact exec_ld 25 _ rfl rfl ((GrownX.blk hz x4 (by first | decide | (simp; done) | (simp; omega) | omega)).range) Try.underlying25 rfl (by exact Try.infoR))))
          (try simp only [Act.put, Zs, Zz, Zc])
          refine wpAnyD_takeSL (i := 2) rfl (by kernel_rfl) (fun _ _ _ _ h => h) hS ?_
          apply Exists.intro
          refine ⟨Or.inl ⟨by rfl, ?_⟩, ?_⟩
          (focus (intro wz hz; (first | exact exec_ld 28 _ rfl rfl ((GrownX.blk hz x3 (by first | decide | (simp; done) | (simp; omega) | omega)).range) Try.underlying28 rfl (by exact Try.infoT))))
          (try simp only [Act.put, Zs, Zz, Zc])
          refine wpAnyD_takeSL (i := 3) rfl (by kernel_rfl) (fun _ _ _ _ h => h) hS ?_
          apply Exists.intro
          refine ⟨Or.inl ⟨by rfl, ?_⟩, ?_⟩
          (focus (intro wz hz; go_simp; (try with_reducible rfl); done))
          (try simp only [Act.put, Zs, Zz, Zc])
          refine wpAnyD_takeSL (i := 4) rfl (by kernel_rfl) (fun _ _ _ _ h => h) hS ?_
          apply Exists.intro
          refine ⟨Or.inl ⟨by rfl, ?_⟩, ?_⟩
          (focus (intro wz hz; have zc := (GrownX.blk hz x4 (by first | decide | (simp; done) | (simp; omega) | omega)).cell 0; go_simp; (try with_reducible rfl); done))
          (try simp only [Act.put, Zs, Zz, Zc])
          refine wpAnyD_oneL (i := 5) rfl (by kernel_rfl) (fun K hK => ?_)
          rw [if_pos (by rfl)]
          go_simp
          (go_at_call 40; refine (ihb (Lo A w.heap.size m) mm.s _ _ (Up.lo hA hE hm3) tpb.up bb hbb.out ob (by omega) hsb).mono ?_; intro e W905 hpp; obtain ⟨w1, rfl, t1, hx⟩ := hpp)
          replace hS := hS.ext hx; (try dsimp only); refine hK.out _ _ (fun _ => hS) ?_; clear hK K; (try simp only [Act.put, Zs, Zz, Zc])
          replace b0 := b0.ext hx
          replace b1 := b1.ext hx
          replace b2 := b2.ext hx
          replace b3 := b3.ext hx
          replace b4 := b4.ext hx
          replace tpa := isT.ext hx tpa
          replace tpb := isT.ext hx tpb
          replace hm3 := Nat.le_trans hm3 hx.below.size
          replace hE := hE.trans hx
          clear hx
          replace qz : r4 < W905.heap.size := b4.lt
          replace qz2 : r2 < W905.heap.size := b2.lt
          refine wpAnyD_oneL (i := 6) rfl (by kernel_rfl) (fun K hK => ?_)
          rw [if_pos (by rfl)]
          go_simp
          (go_at_call 56; refine (rbal_P (A := Lo A w.heap.size m) (a) mm (remP b mm.s) _ _ _ (Up.lo hA hE hm3) tpa.up t1 hmv ba (bd_rem bb ob hbb.out) (by omega)).mono ?_; intro e W906 hpp; obtain ⟨w2, rfl, t2, hx⟩ := hpp)
          replace hS := hS.ext hx; (try dsimp only); refine hK.out _ _ (fun _ => hS) ?_; clear hK K; (try simp only [Act.put, Zs, Zz, Zc])
          replace b0 := b0.ext hx
          replace b1 := b1.ext hx
          replace b2 := b2.ext hx
          replace b3 := b3.ext hx
          replace b4 := b4.ext hx
          replace tpa := isT.ext hx tpa
          replace tpb := isT.ext hx tpb
          replace hm3 := Nat.le_trans hm3 hx.below.size
          replace t1 := isT.ext hx t1
          replace hE := hE.trans hx
          clear hx
          replace qz : r4 < W906.heap.size := b4.lt
          replace qz2 : r2 < W906.heap.size := b2.lt
          refine wpAnyD_oneL (i := 7) rfl (by kernel_rfl) (fun K hK => ?_)
          rw [if_pos (by rfl)]
          refine wp_store_box 28 _ _ (by rfl) b1 (by rfl) (by rfl) (by exact Try.infoT) (by first | exact RV.one _ | exact TV.one _ rfl | exact TV.one _ (isT.one tpa) | exact TV.one _ (isT.one tpb) | exact RV.one _ | exact TV.one _ (isT.one t1) | exact TV.one _ (isT.one t2)) (by rfl) (fun W907 hg bn => ?_)
          replace b0 := b0.kept hg (Zn (by omega))
          replace b2 := b2.kept hg (Zn (by omega))
          replace b3 := b3.kept hg (Zn (by omega))
          replace b4 := b4.kept hg (Zn (by omega))
          replace tpa := isT.kept hg (Lw.not (by omega)) tpa
          replace tpb := isT.kept hg (Lw.not (by omega)) tpb
          replace hm3 := Nat.le_trans hm3 hg.size
          replace t1 := isT.kept hg (Lo.not (by omega) (by omega)) t1
          replace t2 := isT.kept hg (Lo.not (by omega) (by omega)) t2
          replace hE := ext_grow hE hg (fun q hq => by cases hq; omega)
          replace hS := hS.step hg (by first | decide | (simp; done) | (simp; omega) | omega)
          clear b1 hg
          have b1 := bn
          clear bn
          (try dsimp only); refine hK.out _ _ (fun _ => hS) ?_; clear hK K; (try simp only [Act.put, Zs, Zz, Zc])
          replace qz : r4 < W907.heap.size := b4.lt
          replace qz2 : r2 < W907.heap.size := b2.lt
          refine wpAnyD_done (by kernel_rfl) ?_ _
          clear hS x0 x1 x2 x3 x4
          go_wp2_with fail
          exact bodyPost_ret (res_c rfl (GivesC.of b1 rfl Try.underlying28 rfl Try.infoT)) rfl ⟨w2, rfl, by rw [hJ.out, hR.out]; exact t2.hi, hE⟩
theorem rrem_P : ∀ p : PT, RRemOK p
  | .E => fun A s v w hA ht bp hb ho h8 ⟨z, hz, _⟩ => by cases hz
  | .N a y b => fun A s v w hA ht bp hb ho h8 hs => rrem_N (rrem_P a) (rrem_P b) A s v w hA ht bp hb ho h8 hs _ rfl

end Go.Proofs.Ytnbohogkfdeddaa

set_option linter.unusedSimpArgs false
set_option linter.unusedVariables false
namespace Go.Proofs.Ytnbohogkfdeddaa
open Go.RowKit

theorem rovl_is (a b : RV) (w : World) (ha : vld a) (hb : vld b) (c : Bool) (h : meetsB a b = c) :
    Calls Try.prog 39 #[.agg a.cs.toArray, .agg b.cs.toArray] w fun e w' => e = .returned (.bool c) ∧ Ext w w' := by
  subst h
  exact rovl_any a b w ha hb
set_option maxRecDepth 100000 in
set_option maxHeartbeats 4000000 in
theorem rins_bad {A : Nat → Prop} (p : PT) (r : RV) (v : TV) (w : World) (hA : Up A w) (hp : good p) (ht : isT A w p.bt v) (hv : vldB r = false) :
    Calls Try.prog 18 #[.agg v.cs.toArray, .agg r.cs.toArray] w fun e w' => ∃ v', e = .returned (.tuple #[.agg v'.cs.toArray, .int .i64 (InsF p r).2]) ∧ isT A w' (InsF p r).1.bt v' ∧ Ext w w' := by
  replace ht := ht.lw
  go_enter Try.func18, Try.ntmps18
  go_upto_region 1 with fail
  refine name_wX (fun W1 hW => ?_)
  have hE : Ext w W1 := by rw [hW]; repeat' (first | exact Ext.refl _ | apply Ext.al)
  have b0 : Blk W1 (w.heap.size) 28 v.cs := by rw [hW]; exact ((Blk.newAt rfl).alloc _).alloc _
  have b1 : Blk W1 (w.heap.size + 1) 25 r.cs := by rw [hW]; exact (Blk.newAt (by simp)).alloc _
  have b2 : Blk W1 (w.heap.size + 1 + 1) 28 TV.z.cs := by rw [hW]; exact Blk.newAt (by simp)
  clear hW
  obtain ⟨r2, hr2⟩ : ∃ r, r = w.heap.size + 1 + 1 := ⟨_, rfl⟩
  rw [← hr2] at b2
  try rw [← hr2]
  obtain ⟨r1, hr1⟩ : ∃ r, r = w.heap.size + 1 := ⟨_, rfl⟩
  rw [← hr1] at b1
  try rw [← hr1]
  obtain ⟨r0, hr0⟩ : ∃ r, r = w.heap.size := ⟨_, rfl⟩
  rw [← hr0] at b0
  try rw [← hr0]
  have q0 : w.heap.size ≤ r0 := by omega
  have q1 : r0 < r1 := by omega
  have q2 : r1 < r2 := by omega
  clear hr0 hr1 hr2
  have qz : r2 < W1.heap.size := b2.lt
  replace ht := isT.ext hE ht
  go_upto_region 1 with fail
  refine wp_region_lit ?_
  refine wpList_plain rfl (fun K hK => ?_); (first | (refine wp_ld 28 _ (b0.range) (by rfl) (by rfl) Try.underlying28 rfl (by exact Try.infoT) ?_)); (try dsimp only); refine hK _ _ ?_; clear hK K; (try simp only [Act.put, Zs, Zz, Zc])
  refine wpList_plain rfl (fun K hK => ?_); go_simp; (go_at_call 24; refine (rcheck_P p v _ hp ht).mono ?_; intro e W2 hpp; obtain ⟨rfl, hx⟩ := hpp); (try dsimp only); refine hK _ _ ?_; clear hK K; (try simp only [Act.put, Zs, Zz, Zc])
  replace b0 := b0.ext hx
  replace b1 := b1.ext hx
  replace b2 := b2.ext hx
  replace ht := isT.ext hx ht
  replace hE := hE.trans hx
  clear hx
  replace qz : r2 < W2.heap.size := b2.lt
  refine wpList_plain rfl (fun K hK => ?_); go_simp; (try dsimp only); refine hK _ _ ?_; clear hK K; (try simp only [Act.put, Zs, Zz, Zc])
  refine wpList_nil ?_
  go_upto_region 4 with fail
  refine wp_region_lit ?_
  refine wpList_plain rfl (fun K hK => ?_); (first | (refine wp_ld 25 _ (b1.range) (by rfl) (by rfl) Try.underlying25 rfl (by exact Try.infoR) ?_)); (try dsimp only); refine hK _ _ ?_; clear hK K; (try simp only [Act.put, Zs, Zz, Zc])
  refine wpList_plain rfl (fun K hK => ?_); go_simp; (go_at_call 38; refine (rvalid_is r _ false hv).mono ?_; intro e W3 hpp; obtain ⟨rfl, hx⟩ := hpp); (try dsimp only); refine hK _ _ ?_; clear hK K; (try simp only [Act.put, Zs, Zz, Zc])
  replace b0 := b0.ext hx
  replace b1 := b1.ext hx
  replace b2 := b2.ext hx
  replace ht := isT.ext hx ht
  replace hE := hE.trans hx
  clear hx
  replace qz : r2 < W3.heap.size := b2.lt
  refine wpList_plain rfl (fun K hK => ?_); go_simp; (try dsimp only); refine hK _ _ ?_; clear hK K; (try simp only [Act.put, Zs, Zz, Zc])
  refine wpList_nil ?_
  go_upto_region 5 with fail
  refine wp_region_lit ?_
  refine wpList_plain rfl (fun K hK => ?_); go_simp; (try dsimp only); refine hK _ _ ?_; clear hK K; (try simp only [Act.put, Zs, Zz, Zc])
  refine wpList_plain rfl (fun K hK => ?_)
  refine wp_store_box 28 _ _ (by rfl) b2 (by rfl) (by rfl) (by exact Try.infoT) (by first | exact RV.one _ | exact TV.one _ rfl | exact TV.one TV.z rfl | exact RV.one _ | exact TV.one _ (isT.one ht)) (by rfl) (fun W4 hg bn => ?_)
  replace b0 := b0.kept hg (Zn (by omega))
  replace b1 := b1.kept hg (Zn (by omega))
  replace ht := isT.kept hg (Lw.not (by omega)) ht
  replace hE := ext_grow hE hg (fun q hq => by cases hq; omega)
  clear b2 hg
  have b2 := bn
  clear bn
  (try dsimp only); refine hK _ _ ?_; clear hK K; (try simp only [Act.put, Zs, Zz, Zc])
  replace qz : r2 < W4.heap.size := b2.lt
  refine wpList_plain rfl (fun K hK => ?_); go_simp; (try dsimp only); refine hK _ _ ?_; clear hK K; (try simp only [Act.put, Zs, Zz, Zc])
  refine wpList_nil ?_
  have b2_ : Blk W4 r2 28 TV.z.cs := b2
  go_wp2_with fail
  exact bodyPost_ret (res_ct rfl (GivesC.of b2 rfl Try.underlying28 rfl Try.infoT) rfl) rfl ⟨TV.z, by rw [ins_invP hv]; rfl, by rw [ins_invP hv]; exact isT_z _ _, hE⟩

set_option maxRecDepth 100000 in
set_option maxHeartbeats 4000000 in
theorem rins_ok {A : Nat → Prop} (p : PT) (r : RV) (v : TV) (w : World) (hA : Up A w) (hp : good p) (ht : isT A w p.bt v) (hv : vldB r = true) :
    Calls Try.prog 18 #[.agg v.cs.toArray, .agg r.cs.toArray] w fun e w' => ∃ v', e = .returned (.tuple #[.agg v'.cs.toArray, .int .i64 (InsF p r).2]) ∧ isT A w' (InsF p r).1.bt v' ∧ Ext w w' := by
  replace ht := ht.lw
  have hvr : vld r := (vldB_iff r).1 hv
  have hlen := good_len hp
  have hbd := good_bd hp
  have hht := good_ht hp
  go_enter Try.func18, Try.ntmps18
  go_upto_region 1 with fail
  refine name_wX (fun W1 hW => ?_)
  have hE : Ext w W1 := by rw [hW]; repeat' (first | exact Ext.refl _ | apply Ext.al)
  have b0 : Blk W1 (w.heap.size) 28 v.cs := by rw [hW]; exact ((Blk.newAt rfl).alloc _).alloc _
  have b1 : Blk W1 (w.heap.size + 1) 25 r.cs := by rw [hW]; exact (Blk.newAt (by simp)).alloc _
  have b2 : Blk W1 (w.heap.size + 1 + 1) 28 TV.z.cs := by rw [hW]; exact Blk.newAt (by simp)
  clear hW
  obtain ⟨r2, hr2⟩ : ∃ r, r = w.heap.size + 1 + 1 := ⟨_, rfl⟩
  rw [← hr2] at b2
  try rw [← hr2]
  obtain ⟨r1, hr1⟩ : ∃ r, r = w.heap.size + 1 := ⟨_, rfl⟩
  rw [← hr1] at b1
  try rw [← hr1]
  obtain ⟨r0, hr0⟩ : ∃ r, r = w.heap.size := ⟨_, rfl⟩
  rw [← hr0] at b0
  try rw [← hr0]
  have q0 : w.heap.size ≤ r0 := by omega
  have q1 : r0 < r1 := by omega
  have q2 : r1 < r2 := by omega
  clear hr0 hr1 hr2
  have qz : r2 < W1.heap.size := b2.lt
  replace ht := isT.ext hE ht
  go_upto_region 1 with fail
  refine wp_region_lit ?_
  refine wpList_plain rfl (fun K hK => ?_); (first | (refine wp_ld 28 _ (b0.range) (by rfl) (by rfl) Try.underlying28 rfl (by exact Try.infoT) ?_)); (try dsimp only); refine hK _ _ ?_; clear hK K; (try simp only [Act.put, Zs, Zz, Zc])
  refine wpList_plain rfl (fun K hK => ?_); go_simp; (go_at_call 24; refine (rcheck_P p v _ hp ht).mono ?_; intro e W2 hpp; obtain ⟨rfl, hx⟩ := hpp); (try dsimp only); refine hK _ _ ?_; clear hK K; (try simp only [Act.put, Zs, Zz, Zc])
  replace b0 := b0.ext hx
  replace b1 := b1.ext hx
  replace b2 := b2.ext hx
  replace ht := isT.ext hx ht
  replace hE := hE.trans hx
  clear hx
  replace qz : r2 < W2.heap.size := b2.lt
  refine wpList_plain rfl (fun K hK => ?_); go_simp; (try dsimp only); refine hK _ _ ?_; clear hK K; (try simp only [Act.put, Zs, Zz, Zc])
  refine wpList_nil ?_
  go_upto_region 4 with fail
  refine wp_region_lit ?_
  refine wpList_plain rfl (fun K hK => ?_); (first | (refine wp_ld 25 _ (b1.range) (by rfl) (by rfl) Try.underlying25 rfl (by exact Try.infoR) ?_)); (try dsimp only); refine hK _ _ ?_; clear hK K; (try simp only [Act.put, Zs, Zz, Zc])
  refine wpList_plain rfl (fun K hK => ?_); go_simp; (go_at_call 38; refine (rvalid_is r _ true hv).mono ?_; intro e W3 hpp; obtain ⟨rfl, hx⟩ := hpp); (try dsimp only); refine hK _ _ ?_; clear hK K; (try simp only [Act.put, Zs, Zz, Zc])
  replace b0 := b0.ext hx
  replace b1 := b1.ext hx
  replace b2 := b2.ext hx
  replace ht := isT.ext hx ht
  replace hE := hE.trans hx
  clear hx
  replace qz : r2 < W3.heap.size := b2.lt
  refine wpList_plain rfl (fun K hK => ?_); go_simp; (try dsimp only); refine hK _ _ ?_; clear hK K; (try simp only [Act.put, Zs, Zz, Zc])
  refine wpList_nil ?_
  go_upto_region 6 with fail
  refine wp_region_lit ?_
  refine wpList_plain rfl (fun K hK => ?_); (first | (refine wp_ld 28 _ (b0.range) (by rfl) (by rfl) Try.underlying28 rfl (by exact Try.infoT) ?_)); (try dsimp only); refine hK _ _ ?_; clear hK K; (try simp only [Act.put, Zs, Zz, Zc])
  refine wpList_plain rfl (fun K hK => ?_); go_simp; (go_at_call 25; refine (rlist_P p v _ hp ht).mono ?_; intro e W4 hpp; obtain ⟨u, rfl, hown, hx⟩ := hpp); (try dsimp only); refine hK _ _ ?_; clear hK K; (try simp only [Act.put, Zs, Zz, Zc])
  replace b0 := b0.ext hx
  replace b1 := b1.ext hx
  replace b2 := b2.ext hx
  replace ht := isT.ext hx ht
  replace hE := hE.trans hx
  clear hx
  replace qz : r2 < W4.heap.size := b2.lt
  obtain ⟨ua, uc, rfl⟩ := hown.shape
  refine wpList_plain rfl (fun K hK => ?_); go_simp; (try dsimp only); refine hK _ _ ?_; clear hK K; (try simp only [Act.put, Zs, Zz, Zc])
  refine wpList_nil ?_
  go_upto_region 7 with fail
  refine wp_region_lit ?_
  refine wpList_plain rfl (fun K hK => ?_); go_simp; (try dsimp only); refine hK _ _ ?_; clear hK K; (try simp only [Act.put, Zs, Zz, Zc])
  refine wpList_nil ?_
  go_upto_region 8 with fail
  go_loopw [8] (fun vi wr => ∃ k : Nat, vi = .int .i64 k ∧ k ≤ p.flat.length ∧ (∀ x ∈ p.flat.take k, ¬ meets x r) ∧ Ext W4 wr) (fun vi _ => p.flat.length - (intOf vi).toNat)
  case atStart => exact ⟨0, rfl, by omega, by simp, Ext.refl _⟩
  case round =>
    obtain ⟨k, rfl, hk, hno, hX⟩ := hrel
    obtain ⟨W0, rfl⟩ : ∃ W, W = wr := ⟨_, rfl⟩
    replace hno : Hid _ := hno
    have hx := hX
    replace b0 := b0.ext hx
    replace b1 := b1.ext hx
    replace b2 := b2.ext hx
    replace ht := isT.ext hx ht
    replace hown := hown.ext hx
    replace hE := hE.trans hx
    clear hx
    replace qz : r2 < W0.heap.size := b2.lt
    by_cases hlt : k < p.flat.length
    · obtain ⟨gw, ow, rfl, hd1, hd2, hgw, hrw⟩ := sl_at hown.isSl hlt
      have hvx := hp.o.v _ (List.getElem_mem hlt)
      obtain ⟨x, hxx⟩ : ∃ x, x = p.flat[k] := ⟨_, rfl⟩
      rw [← hxx] at hrw hvx
      replace hxx : Hid _ := hxx
      have y1 := hrw
      have hy1 := hgw
      cases hm : meetsB x r with
      | true =>
        go_upto_region 10 with fail
        have x0 := b0
        have x1 := b1
        have x2 := b2
        have hS : GrownX W0 [] W0 := GrownX.refl _ _
        refine wp_region_S (GrownX W0 []) (by kernel_rfl) ?_
        refine name_wd (fun W101 hW => ?_)
        have hx : Ext W0 W101 := by rw [hW]; exact ext_drew _
        clear hW
        replace hS := hS.ext hx
        replace b0 := b0.ext hx
        replace b1 := b1.ext hx
        replace b2 := b2.ext hx
        replace ht := isT.ext hx ht
        replace hown := hown.ext hx
        replace hX := hX.trans hx
        replace hrw := rangeAt.ext hrw hgw hx
        replace hgw := Nat.lt_of_lt_of_le hgw hx.below.size
        replace hE := hE.trans hx
        clear hx
        replace qz : r2 < W101.heap.size := b2.lt
        refine wpAnyD_takeSL (i := 0) rfl (by kernel_rfl) (fun _ _ _ _ h => h) hS ?_
        apply Exists.intro
        refine ⟨Or.inl ⟨by rfl, ?_⟩, ?_⟩
        (focus (intro wz hz; go_simp; (try with_reducible rfl); done))
        (try simp only [Act.put, Zs, Zz, Zc])
        refine wpAnyD_takeSL (i := 1) rfl (by kernel_rfl) (fun _ _ _ _ h => h) hS ?_
        apply Exists.intro
        refine ⟨Or.inl ⟨by rfl, ?_⟩, ?_⟩
        (focus (intro wz hz; go_simp; (try with_reducible rfl); done))
        (try simp only [Act.put, Zs, Zz, Zc])
        refine wpAnyD_takeSL (i := 2) rfl (by kernel_rfl) (fun _ _ _ _ h => h) hS ?_
        apply Exists.intro
        refine ⟨Or.inl ⟨by rfl, ?_⟩, ?_⟩
        (focus (intro wz hz; go_simp; (try with_reducible rfl); done))
        (try simp only [Act.put, Zs, Zz, Zc])
        refine wpAnyD_takeSL (i := 3) rfl (by kernel_rfl) (fun _ _ _ _ h => h) hS ?_
        apply Exists.intro
        refine ⟨Or.inl ⟨by rfl, ?_⟩, ?_⟩
        (focus (intro wz hz; (first | exact exec_ld 25 _ rfl rfl (GrownX.range hz (y1) (hy1) (by first | decide | (simp; done) | (simp; omega) | omega)) Try.underlying25 rfl (by exact Try.infoR))))
        (try simp only [Act.put, Zs, Zz, Zc])
        refine wpAnyD_takeSL (i := 4) rfl (by kernel_rfl) (fun _ _ _ _ h => h) hS ?_
        apply Exists.intro
        refine ⟨Or.inl ⟨by rfl, ?_⟩, ?_⟩
        (focus (intro wz hz; (first | exact exec_ld 25 _ rfl rfl ((GrownX.blk hz x1 (by first | decide | (simp; done) | (simp; omega) | omega)).range) Try.underlying25 rfl (by exact Try.infoR))))
        (try simp only [Act.put, Zs, Zz, Zc])
        refine wpAnyD_oneL (i := 5) rfl (by kernel_rfl) (fun K hK => ?_)
        rw [if_pos (by rfl)]
        go_simp
        (go_at_call 39; refine (rovl_is x r _ hvx hvr true hm).mono ?_; intro e W102 hpp; obtain ⟨rfl, hx⟩ := hpp)
        replace hS := hS.ext hx; (try dsimp only); refine hK.out _ _ (fun _ => hS) ?_; clear hK K; (try simp only [Act.put, Zs, Zz, Zc])
        replace b0 := b0.ext hx
        replace b1 := b1.ext hx
        replace b2 := b2.ext hx
        replace ht := isT.ext hx ht
        replace hown := hown.ext hx
        replace hX := hX.trans hx
        replace hrw := rangeAt.ext hrw hgw hx
        replace hgw := Nat.lt_of_lt_of_le hgw hx.below.size
        replace hE := hE.trans hx
        clear hx
        replace qz : r2 < W102.heap.size := b2.lt
        refine wpAnyD_done (by kernel_rfl) ?_ _
        clear hS x0 x1 x2
        clear hrw hgw hown hX
        go_upto_region 11 with fail
        refine wp_region_lit ?_
        refine wpList_plain rfl (fun K hK => ?_); go_simp; (try dsimp only); refine hK _ _ ?_; clear hK K; (try simp only [Act.put, Zs, Zz, Zc])
        refine wpList_plain rfl (fun K hK => ?_)
        refine wp_store_box 28 _ _ (by rfl) b2 (by rfl) (by rfl) (by exact Try.infoT) (by first | exact RV.one _ | exact TV.one _ rfl | exact TV.one TV.z rfl | exact RV.one _ | exact TV.one _ (isT.one ht)) (by rfl) (fun W103 hg bn => ?_)
        replace b0 := b0.kept hg (Zn (by omega))
        replace b1 := b1.kept hg (Zn (by omega))
        replace ht := isT.kept hg (Lw.not (by omega)) ht
        replace hE := ext_grow hE hg (fun q hq => by cases hq; omega)
        clear b2 hg
        have b2 := bn
        clear bn
        (try dsimp only); refine hK _ _ ?_; clear hK K; (try simp only [Act.put, Zs, Zz, Zc])
        replace qz : r2 < W103.heap.size := b2.lt
        refine wpList_plain rfl (fun K hK => ?_); go_simp; (try dsimp only); refine hK _ _ ?_; clear hK K; (try simp only [Act.put, Zs, Zz, Zc])
        refine wpList_nil ?_
        have hF := ins_hitP hp hvr ⟨x, by rw [hxx.out]; exact List.getElem_mem hlt, (meetsB_iff x r).1 hm⟩
        have b2_ : Blk W103 r2 28 TV.z.cs := b2
        go_wp2_with fail
        exact bodyPost_ret (res_ct rfl (GivesC.of b2 rfl Try.underlying28 rfl Try.infoT) rfl) rfl ⟨TV.z, by rw [hF]; rfl, by rw [hF]; exact isT_z _ _, hE⟩
      | false =>
        go_upto_region 10 with fail
        have x0 := b0
        have x1 := b1
        have x2 := b2
        have hS : GrownX W0 [] W0 := GrownX.refl _ _
        refine wp_region_S (GrownX W0 []) (by kernel_rfl) ?_
        refine name_wd (fun W201 hW => ?_)
        have hx : Ext W0 W201 := by rw [hW]; exact ext_drew _
        clear hW
        replace hS := hS.ext hx
        replace b0 := b0.ext hx
        replace b1 := b1.ext hx
        replace b2 := b2.ext hx
        replace ht := isT.ext hx ht
        replace hown := hown.ext hx
        replace hX := hX.trans hx
        replace hrw := rangeAt.ext hrw hgw hx
        replace hgw := Nat.lt_of_lt_of_le hgw hx.below.size
        replace hE := hE.trans hx
        clear hx
        replace qz : r2 < W201.heap.size := b2.lt
        refine wpAnyD_takeSL (i := 0) rfl (by kernel_rfl) (fun _ _ _ _ h => h) hS ?_
        apply Exists.intro
        refine ⟨Or.inl ⟨by rfl, ?_⟩, ?_⟩
        (focus (intro wz hz; go_simp; (try with_reducible rfl); done))
        (try simp only [Act.put, Zs, Zz, Zc])
        refine wpAnyD_takeSL (i := 1) rfl (by kernel_rfl) (fun _ _ _ _ h => h) hS ?_
        apply Exists.intro
        refine ⟨Or.inl ⟨by rfl, ?_⟩, ?_⟩
        (focus (intro wz hz; go_simp; (try with_reducible rfl); done))
        (try simp only [Act.put, Zs, Zz, Zc])
        refine wpAnyD_takeSL (i := 2) rfl (by kernel_rfl) (fun _ _ _ _ h => h) hS ?_
        apply Exists.intro
        refine ⟨Or.inl ⟨by rfl, ?_⟩, ?_⟩
        (focus (intro wz hz; go_simp; (try with_reducible rfl); done))
        (try simp only [Act.put, Zs, Zz, Zc])
        refine wpAnyD_takeSL (i := 3) rfl (by kernel_rfl) (fun _ _ _ _ h => h) hS ?_
        apply Exists.intro
        refine ⟨Or.inl ⟨by rfl, ?_⟩, ?_⟩
        (focus (intro wz hz; (first | exact exec_ld 25 _ rfl rfl (GrownX.range hz (y1) (hy1) (by first | decide | (simp; done) | (simp; omega) | omega)) Try.underlying25 rfl (by exact Try.infoR))))
        (try simp only [Act.put, Zs, Zz, Zc])
        refine wpAnyD_takeSL (i := 4) rfl (by kernel_rfl) (fun _ _ _ _ h => h) hS ?_
        apply Exists.intro
        refine ⟨Or.inl ⟨by rfl, ?_⟩, ?_⟩
        (focus (intro wz hz; (first | exact exec_ld 25 _ rfl rfl ((GrownX.blk hz x1 (by first | decide | (simp; done) | (simp; omega) | omega)).range) Try.underlying25 rfl (by exact Try.infoR))))
        (try simp only [Act.put, Zs, Zz, Zc])
        refine wpAnyD_oneL (i := 5) rfl (by kernel_rfl) (fun K hK => ?_)
        rw [if_pos (by rfl)]
        go_simp
        (go_at_call 39; refine (rovl_is x r _ hvx hvr false hm).mono ?_; intro e W202 hpp; obtain ⟨rfl, hx⟩ := hpp)
        replace hS := hS.ext hx; (try dsimp only); refine hK.out _ _ (fun _ => hS) ?_; clear hK K; (try simp only [Act.put, Zs, Zz, Zc])
        replace b0 := b0.ext hx
        replace b1 := b1.ext hx
        replace b2 := b2.ext hx
        replace ht := isT.ext hx ht
        replace hown := hown.ext hx
        replace hX := hX.trans hx
        replace hrw := rangeAt.ext hrw hgw hx
        replace hgw := Nat.lt_of_lt_of_le hgw hx.below.size
        replace hE := hE.trans hx
        clear hx
        replace qz : r2 < W202.heap.size := b2.lt
        refine wpAnyD_done (by kernel_rfl) ?_ _
        clear hS x0 x1 x2
        go_upto_region 9 with fail
        refine wp_region_lit ?_
        refine wpList_plain rfl (fun K hK => ?_); go_simp; (try dsimp only); refine hK _ _ ?_; clear hK K; (try simp only [Act.put, Zs, Zz, Zc])
        refine wpList_plain rfl (fun K hK => ?_); go_simp; (try simp (disch := omega) only [Yq, Yr]); (try dsimp only); refine hK _ _ ?_; clear hK K; (try simp only [Act.put, Zs, Zz, Zc])
        refine wpList_plain rfl (fun K hK => ?_); go_simp; (try dsimp only); refine hK _ _ ?_; clear hK K; (try simp only [Act.put, Zs, Zz, Zc])
        refine wpList_nil ?_
        go_wp2_with fail
        go_roundw
        case rel =>
          refine ⟨k + 1, by go_num, by omega, ?_, hX⟩
          intro z hz
          rw [List.take_succ_eq_append_getElem hlt] at hz
          rcases List.mem_append.1 hz with h | h
          · exact hno.out z h
          · rw [List.mem_singleton.1 h, ← hxx.out]; intro hc; rw [(meetsB_iff x r).2 hc] at hm; cases hm
        case measure => simp [intOf]; omega
    · have hF := (ins_okP hp hvr (fun x hx => hno.out x (by rw [List.take_of_length_le (by omega)]; exact hx))).1
      replace hF : Hid _ := hF
      clear hown hX
      go_upto_region 12 with fail
      obtain ⟨m, hm, hm2⟩ : ∃ m, r2 < m ∧ m = W0.heap.size := ⟨_, qz, rfl⟩
      have hm3 : m ≤ W0.heap.size := by omega
      clear hm2
      refine wp_region_lit ?_
      refine wpList_plain rfl (fun K hK => ?_); (first | (refine wp_ld 28 _ (b0.range) (by rfl) (by rfl) Try.underlying28 rfl (by exact Try.infoT) ?_)); (try dsimp only); refine hK _ _ ?_; clear hK K; (try simp only [Act.put, Zs, Zz, Zc])
      refine wpList_plain rfl (fun K hK => ?_); (first | (refine wp_ld 25 _ (b1.range) (by rfl) (by rfl) Try.underlying25 rfl (by exact Try.infoR) ?_)); (try dsimp only); refine hK _ _ ?_; clear hK K; (try simp only [Act.put, Zs, Zz, Zc])
      refine wpList_plain rfl (fun K hK => ?_); go_simp; (go_at_call 33; refine (rins_P p (Lo A w.heap.size m) _ _ _ (Up.lo hA hE hm3) ht.up hvr hbd hp.b (by omega)).mono ?_; intro e W301 hpp; obtain ⟨v1, rfl, t1, hx⟩ := hpp); (try dsimp only); refine hK _ _ ?_; clear hK K; (try simp only [Act.put, Zs, Zz, Zc])
      replace b0 := b0.ext hx
      replace b1 := b1.ext hx
      replace b2 := b2.ext hx
      replace ht := isT.ext hx ht
      replace hm3 := Nat.le_trans hm3 hx.below.size
      replace hE := hE.trans hx
      clear hx
      replace qz : r2 < W301.heap.size := b2.lt
      refine wpList_plain rfl (fun K hK => ?_)
      refine wp_store_box 28 _ _ (by rfl) b2 (by rfl) (by rfl) (by exact Try.infoT) (by first | exact RV.one _ | exact TV.one _ rfl | exact TV.one TV.z rfl | exact RV.one _ | exact TV.one _ (isT.one ht) | exact TV.one _ (isT.one t1)) (by rfl) (fun W302 hg bn => ?_)
      replace b0 := b0.kept hg (Zn (by omega))
      replace b1 := b1.kept hg (Zn (by omega))
      replace ht := isT.kept hg (Lw.not (by omega)) ht
      replace hm3 := Nat.le_trans hm3 hg.size
      replace t1 := isT.kept hg (Lo.not (by omega) (by omega)) t1
      replace hE := ext_grow hE hg (fun q hq => by cases hq; omega)
      clear b2 hg
      have b2 := bn
      clear bn
      (try dsimp only); refine hK _ _ ?_; clear hK K; (try simp only [Act.put, Zs, Zz, Zc])
      replace qz : r2 < W302.heap.size := b2.lt
      refine wpList_plain rfl (fun K hK => ?_); go_simp; (try dsimp only); refine hK _ _ ?_; clear hK K; (try simp only [Act.put, Zs, Zz, Zc])
      refine wpList_nil ?_
      go_wp2_with fail
      exact bodyPost_ret (res_ct rfl (GivesC.of b2 rfl Try.underlying28 rfl Try.infoT) rfl) rfl ⟨v1, by rw [hF.out]; rfl, by rw [hF.out]; exact t1.hi, hE⟩
theorem rinsert_P {A : Nat → Prop} (p : PT) (r : RV) (v : TV) (w : World) (hA : Up A w) (hp : good p) (ht : isT A w p.bt v) :
    Calls Try.prog 18 #[.agg v.cs.toArray, .agg r.cs.toArray] w fun e w' => ∃ v', e = .returned (.tuple #[.agg v'.cs.toArray, .int .i64 (InsF p r).2]) ∧ isT A w' (InsF p r).1.bt v' ∧ Ext w w' := by
  cases hv : vldB r with
  | false => exact rins_bad p r v w hA hp ht hv
  | true => exact rins_ok p r v w hA hp ht hv
set_option maxRecDepth 100000 in
set_option maxHeartbeats 4000000 in
theorem rdelete_P {A : Nat → Prop} (p : PT) (s : Int) (v : TV) (w : World) (hA : Up A w) (hp : good p) (ht : isT A w p.bt v) :
    Calls Try.prog 19 #[.agg v.cs.toArray, .int .i64 s] w fun e w' => ∃ v', e = .returned (.tuple #[.agg v'.cs.toArray, .int .i64 (DelF p s).2]) ∧ isT A w' (DelF p s).1.bt v' ∧ Ext w w' := by
  replace ht := ht.lw
  have hlen := good_len hp
  have hbd := good_bd hp
  have hht := good_ht hp
  go_enter Try.func19, Try.ntmps19
  go_upto_region 1 with fail
  refine name_wX (fun W1 hW => ?_)
  have hE : Ext w W1 := by rw [hW]; repeat' (first | exact Ext.refl _ | apply Ext.al)
  have b0 : Blk W1 (w.heap.size) 28 v.cs := by rw [hW]; exact (Blk.newAt rfl).alloc _
  have b1 : Blk W1 (w.heap.size + 1) 28 TV.z.cs := by rw [hW]; exact Blk.newAt (by simp)
  clear hW
  obtain ⟨r1, hr1⟩ : ∃ r, r = w.heap.size + 1 := ⟨_, rfl⟩
  rw [← hr1] at b1
  try rw [← hr1]
  obtain ⟨r0, hr0⟩ : ∃ r, r = w.heap.size := ⟨_, rfl⟩
  rw [← hr0] at b0
  try rw [← hr0]
  have q0 : w.heap.size ≤ r0 := by omega
  have q1 : r0 < r1 := by omega
  clear hr0 hr1
  have qz : r1 < W1.heap.size := b1.lt
  replace ht := isT.ext hE ht
  go_upto_region 1 with fail
  refine wp_region_lit ?_
  refine wpList_plain rfl (fun K hK => ?_); (first | (refine wp_ld 28 _ (b0.range) (by rfl) (by rfl) Try.underlying28 rfl (by exact Try.infoT) ?_)); (try dsimp only); refine hK _ _ ?_; clear hK K; (try simp only [Act.put, Zs, Zz, Zc])
  refine wpList_plain rfl (fun K hK => ?_); go_simp; (go_at_call 24; refine (rcheck_P p v _ hp ht).mono ?_; intro e W2 hpp; obtain ⟨rfl, hx⟩ := hpp); (try dsimp only); refine hK _ _ ?_; clear hK K; (try simp only [Act.put, Zs, Zz, Zc])
  replace b0 := b0.ext hx
  replace b1 := b1.ext hx
  replace ht := isT.ext hx ht
  replace hE := hE.trans hx
  clear hx
  replace qz : r1 < W2.heap.size := b1.lt
  refine wpList_plain rfl (fun K hK => ?_); go_simp; (try dsimp only); refine hK _ _ ?_; clear hK K; (try simp only [Act.put, Zs, Zz, Zc])
  refine wpList_nil ?_
  go_upto_region 4 with fail
  refine wp_region_lit ?_
  refine wpList_plain rfl (fun K hK => ?_); (first | (refine wp_ld 28 _ (b0.range) (by rfl) (by rfl) Try.underlying28 rfl (by exact Try.infoT) ?_)); (try dsimp only); refine hK _ _ ?_; clear hK K; (try simp only [Act.put, Zs, Zz, Zc])
  refine wpList_plain rfl (fun K hK => ?_); go_simp; (go_at_call 25; refine (rlist_P p v _ hp ht).mono ?_; intro e W3 hpp; obtain ⟨u, rfl, hown, hx⟩ := hpp); (try dsimp only); refine hK _ _ ?_; clear hK K; (try simp only [Act.put, Zs, Zz, Zc])
  replace b0 := b0.ext hx
  replace b1 := b1.ext hx
  replace ht := isT.ext hx ht
  replace hE := hE.trans hx
  clear hx
  replace qz : r1 < W3.heap.size := b1.lt
  obtain ⟨ua, uc, rfl⟩ := hown.shape
  refine wpList_plain rfl (fun K hK => ?_); go_simp; (try dsimp only); refine hK _ _ ?_; clear hK K; (try simp only [Act.put, Zs, Zz, Zc])
  refine wpList_nil ?_
  go_upto_region 5 with fail
  refine wp_region_lit ?_
  refine wpList_plain rfl (fun K hK => ?_); go_simp; (try dsimp only); refine hK _ _ ?_; clear hK K; (try simp only [Act.put, Zs, Zz, Zc])
  refine wpList_nil ?_
  go_upto_region 6 with fail
  go_loopw [8] (fun vi wr => ∃ k : Nat, vi = .int .i64 k ∧ k ≤ p.flat.length ∧ (∀ x ∈ p.flat.take k, x.s ≠ s) ∧ Ext W3 wr) (fun vi _ => p.flat.length - (intOf vi).toNat)
  case atStart => exact ⟨0, rfl, by omega, by simp, Ext.refl _⟩
  case round =>
    obtain ⟨k, rfl, hk, hno, hX⟩ := hrel
    obtain ⟨W0, rfl⟩ : ∃ W, W = wr := ⟨_, rfl⟩
    replace hno : Hid _ := hno
    have hx := hX
    replace b0 := b0.ext hx
    replace b1 := b1.ext hx
    replace ht := isT.ext hx ht
    replace hown := hown.ext hx
    replace hE := hE.trans hx
    clear hx
    replace qz : r1 < W0.heap.size := b1.lt
    by_cases hlt : k < p.flat.length
    · obtain ⟨gw, ow, rfl, hd1, hd2, hgw, hrw⟩ := sl_at hown.isSl hlt
      have cw : W0.cell? ⟨gw, ow + k * 6, none⟩ = some (.int .i64 (p.flat[k]).s) := hrw 0 _ rfl
      obtain ⟨xs, hxs⟩ : ∃ z, z = (p.flat[k]).s := ⟨_, rfl⟩
      rw [← hxs] at cw
      replace hxs : Hid _ := hxs
      by_cases hm : xs = s
      · have hmb : (xs == s) = true := by simpa using hm
        go_upto_region 8 with fail
        refine wp_region_lit ?_
        iterate 7 (refine wpList_plain rfl (fun K hK => ?_); go_simp; (try simp only [hmb]); (try dsimp only); refine hK _ _ ?_; clear hK K; (try simp only [Act.put, Zs, Zz, Zc]))
        refine wpList_nil ?_
        clear hrw hgw hown hX cw
        have hF := (del_hitP (s := s) hp hlt (by rw [← hxs.out]; exact hm)).1
        replace hF : Hid _ := hF
        have hex : ∃ z ∈ p.flat, z.s = s := ⟨_, List.getElem_mem hlt, by rw [← hxs.out]; exact hm⟩
        replace hm : Hid _ := hm
        go_upto_region 9 with fail
        obtain ⟨m, hm, hm2⟩ : ∃ m, r1 < m ∧ m = W0.heap.size := ⟨_, qz, rfl⟩
        have hm3 : m ≤ W0.heap.size := by omega
        clear hm2
        refine wp_region_lit ?_
        refine wpList_plain rfl (fun K hK => ?_); (first | (refine wp_ld 28 _ (b0.range) (by rfl) (by rfl) Try.underlying28 rfl (by exact Try.infoT) ?_)); (try dsimp only); refine hK _ _ ?_; clear hK K; (try simp only [Act.put, Zs, Zz, Zc])
        refine wpList_plain rfl (fun K hK => ?_); go_simp; (try dsimp only); refine hK _ _ ?_; clear hK K; (try simp only [Act.put, Zs, Zz, Zc])
        refine wpList_plain rfl (fun K hK => ?_); go_simp; (go_at_call 40; refine (rrem_P p (Lo A w.heap.size m) s _ _ (Up.lo hA hE hm3) ht.up hbd hp.b hp.o (by omega) hex).mono ?_; intro e W101 hpp; obtain ⟨v1, rfl, t1, hx⟩ := hpp); (try dsimp only); refine hK _ _ ?_; clear hK K; (try simp only [Act.put, Zs, Zz, Zc])
        replace b0 := b0.ext hx
        replace b1 := b1.ext hx
        replace ht := isT.ext hx ht
        replace hm3 := Nat.le_trans hm3 hx.below.size
        replace hE := hE.trans hx
        clear hx
        replace qz : r1 < W101.heap.size := b1.lt
        refine wpList_plain rfl (fun K hK => ?_)
        refine wp_store_box 28 _ _ (by rfl) b1 (by rfl) (by rfl) (by exact Try.infoT) (by first | exact RV.one _ | exact TV.one _ rfl | exact TV.one TV.z rfl | exact RV.one _ | exact TV.one _ (isT.one ht) | exact TV.one _ (isT.one t1)) (by rfl) (fun W102 hg bn => ?_)
        replace b0 := b0.kept hg (Zn (by omega))
        replace ht := isT.kept hg (Lw.not (by omega)) ht
        replace hm3 := Nat.le_trans hm3 hg.size
        replace t1 := isT.kept hg (Lo.not (by omega) (by omega)) t1
        replace hE := ext_grow hE hg (fun q hq => by cases hq; omega)
        clear b1 hg
        have b1 := bn
        clear bn
        (try dsimp only); refine hK _ _ ?_; clear hK K; (try simp only [Act.put, Zs, Zz, Zc])
        replace qz : r1 < W102.heap.size := b1.lt
        refine wpList_plain rfl (fun K hK => ?_); go_simp; (try dsimp only); refine hK _ _ ?_; clear hK K; (try simp only [Act.put, Zs, Zz, Zc])
        refine wpList_nil ?_
        go_wp2_with fail
        exact bodyPost_ret (res_ct rfl (GivesC.of b1 rfl Try.underlying28 rfl Try.infoT) rfl) rfl ⟨v1, by rw [hF.out]; rfl, by rw [hF.out]; exact t1.hi, hE⟩
      · have hmb : (xs == s) = false := by simpa using hm
        go_upto_region 8 with fail
        refine wp_region_lit ?_
        iterate 7 (refine wpList_plain rfl (fun K hK => ?_); go_simp; (try simp only [hmb]); (try dsimp only); refine hK _ _ ?_; clear hK K; (try simp only [Act.put, Zs, Zz, Zc]))
        refine wpList_nil ?_
        go_upto_region 7 with fail
        refine wp_region_lit ?_
        refine wpList_plain rfl (fun K hK => ?_); go_simp; (try dsimp only); refine hK _ _ ?_; clear hK K; (try simp only [Act.put, Zs, Zz, Zc])
        refine wpList_plain rfl (fun K hK => ?_); go_simp; (try simp (disch := omega) only [Yq, Yr]); (try dsimp only); refine hK _ _ ?_; clear hK K; (try simp only [Act.put, Zs, Zz, Zc])
        refine wpList_plain rfl (fun K hK => ?_); go_simp; (try dsimp only); refine hK _ _ ?_; clear hK K; (try simp only [Act.put, Zs, Zz, Zc])
        refine wpList_nil ?_
        go_wp2_with fail
        go_roundw
        case rel =>
          refine ⟨k + 1, by go_num, by omega, ?_, hX⟩
          intro z hz
          rw [List.take_succ_eq_append_getElem hlt] at hz
          rcases List.mem_append.1 hz with h | h
          · exact hno.out z h
          · rw [List.mem_singleton.1 h, ← hxs.out]; exact hm
        case measure => simp [intOf]; omega
    · have hF : DelF p s = (.E, 6) := del_missP (fun x hx => hno.out x (by rw [List.take_of_length_le (by omega)]; exact hx))
      replace hF : Hid _ := hF
      clear hown hX
      go_upto_region 10 with fail
      refine wp_region_lit ?_
      refine wpList_plain rfl (fun K hK => ?_); go_simp; (try dsimp only); refine hK _ _ ?_; clear hK K; (try simp only [Act.put, Zs, Zz, Zc])
      refine wpList_plain rfl (fun K hK => ?_)
      refine wp_store_box 28 _ _ (by rfl) b1 (by rfl) (by rfl) (by exact Try.infoT) (by first | exact RV.one _ | exact TV.one _ rfl | exact TV.one TV.z rfl | exact RV.one _ | exact TV.one _ (isT.one ht)) (by rfl) (fun W301 hg bn => ?_)
      replace b0 := b0.kept hg (Zn (by omega))
      replace ht := isT.kept hg (Lw.not (by omega)) ht
      replace hE := ext_grow hE hg (fun q hq => by cases hq; omega)
      clear b1 hg
      have b1 := bn
      clear bn
      (try dsimp only); refine hK _ _ ?_; clear hK K; (try simp only [Act.put, Zs, Zz, Zc])
      replace qz : r1 < W301.heap.size := b1.lt
      refine wpList_plain rfl (fun K hK => ?_); go_simp; (try dsimp only); refine hK _ _ ?_; clear hK K; (try simp only [Act.put, Zs, Zz, Zc])
      refine wpList_nil ?_
      have b1_ : Blk W301 r1 28 TV.z.cs := b1
      go_wp2_with fail
      exact bodyPost_ret (res_ct rfl (GivesC.of b1 rfl Try.underlying28 rfl Try.infoT) rfl) rfl ⟨TV.z, by rw [hF.out]; rfl, by rw [hF.out]; exact isT_z _ _, hE⟩

end Go.Proofs.Ytnbohogkfdeddaa

set_option linter.unusedSimpArgs false
set_option linter.unusedVariables false
namespace Go.Proofs.Ytnbohogkfdeddaa
open Go.RowKit

theorem isT_E_any {A B : Nat → Prop} {w w' : World} {v : TV} (h : isT A w .E v) : isT B w' .E v := h
/-- What one operation answers. -/
def StpF (p : PT) (o : OV) : PT × Int := if o.d = true then DelF p o.x.s else InsF p o.x
theorem stp_good {p : PT} (hp : good p) (o : OV) (h : (StpF p o).2 = 0) : good (StpF p o).1 := by
  unfold StpF at h ⊢
  split at h
  · rename_i c
    rw [if_pos c]
    unfold DelF at h ⊢
    split at h
    · rename_i c2
      rw [if_pos c2]
      exact rem_good hp _
    · cases h
  · rename_i c
    rw [if_neg c]
    unfold InsF at h ⊢
    split at h
    · cases h
    · rename_i c2
      rw [if_neg c2]
      split at h
      · cases h
      · rename_i c3
        rw [if_neg c3]
        have hv : vldB o.x = true := by cases hh : vldB o.x with | true => rfl | false => exact absurd hh c2
        refine ins_good hp ((vldB_iff _).1 hv) (fun y hy hm => c3 ?_)
        have hF := ins_hitP hp ((vldB_iff _).1 hv) ⟨y, hy, hm⟩
        unfold InsF at hF
        rw [if_neg c2] at hF
        by_cases c4 : (aftP p o.x.s).isSome = true ∧ (bestR (aftP p o.x.s)).s < o.x.e
        · exact c4
        · rw [if_neg c4] at hF
          exact absurd (congrArg Prod.snd hF) (by simp)
set_option maxRecDepth 100000 in
set_option maxHeartbeats 4000000 in
theorem law_steps_big (l : List OV) (s : Value) (w : World) (hs : isSl w s 7 l.length (oF l)) (hl : 40 < l.length) :
    Calls Try.prog 4 #[s] w fun e w' => e = .returned (.bool true) ∧ Ext w w' := by
  obtain ⟨ad, c, rfl⟩ := sl_shape hs
  have HS : Hid (isSl w (.slice ad l.length c) 7 l.length (oF l)) := hs
  clear hs
  have hb1 : decide ((40 : Int) < (l.length : Int)) = true := by simpa using (by omega :  (40 : Int) < (l.length : Int))
  have hb2 : decide (40 < l.length) = true := by simpa using hl
  go_enter Try.func4, Try.ntmps4
  go_upto_region 1 with fail
  refine name_wX (fun W0 hW => ?_)
  have hE : Ext w W0 := by rw [hW]; exact Ext.refl w
  clear hW
  refine wp_region_lit ?_
  refine wpList_plain rfl (fun K hK => ?_); go_simp; (go_at_call 11; refine (awake_ok _).mono ?_; intro e W1 hpp; obtain ⟨rfl, hx⟩ := hpp); (try dsimp only); refine hK _ _ ?_; clear hK K; (try simp only [Act.put, Zs, Zz, Zc])
  replace hE := hE.trans hx
  clear hx
  refine wpList_plain rfl (fun K hK => ?_); go_simp; (try simp only [hb1, hb2]); (try dsimp only); refine hK _ _ ?_; clear hK K; (try simp only [Act.put, Zs, Zz, Zc])
  refine wpList_plain rfl (fun K hK => ?_); go_simp; (try dsimp only); refine hK _ _ ?_; clear hK K; (try simp only [Act.put, Zs, Zz, Zc])
  iterate 2 (refine wpList_step (fun K hK => ?_); rw [if_pos (by rfl)]; go_simp; (try dsimp only); refine hK _ _ ?_; clear hK K; (try simp only [Act.put, Zs, Zz, Zc]))
  refine wpList_step (fun K hK => ?_); rw [if_pos (by rfl)]; go_simp; (try simp (disch := omega) only [Yq, Yr]); (try simp only [hb1, hb2]); (try dsimp only); refine hK _ _ ?_; clear hK K; (try simp only [Act.put, Zs, Zz, Zc])
  refine wpList_plain rfl (fun K hK => ?_); go_simp; (try dsimp only); refine hK _ _ ?_; clear hK K; (try simp only [Act.put, Zs, Zz, Zc])
  refine wpList_nil ?_
  go_upto_region 2 with fail
  refine wp_region_lit ?_
  refine wpList_plain rfl (fun K hK => ?_); go_simp; (go_at_call 11; refine (awake_ok _).mono ?_; intro e W2 hpp; obtain ⟨rfl, hx⟩ := hpp); (try dsimp only); refine hK _ _ ?_; clear hK K; (try simp only [Act.put, Zs, Zz, Zc])
  replace hE := hE.trans hx
  clear hx
  refine wpList_plain rfl (fun K hK => ?_); go_simp; (try dsimp only); refine hK _ _ ?_; clear hK K; (try simp only [Act.put, Zs, Zz, Zc])
  refine wpList_nil ?_
  go_wp2_with fail
  go_ret
  exact ⟨rfl, hE⟩

set_option maxRecDepth 100000 in
set_option maxHeartbeats 4000000 in
theorem law_steps_ok (l : List OV) (s : Value) (w : World) (hs : isSl w s 7 l.length (oF l)) (hl : ¬ 40 < l.length) :
    Calls Try.prog 4 #[s] w fun e w' => e = .returned (.bool true) ∧ Ext w w' := by
  obtain ⟨ad, c, rfl⟩ := sl_shape hs
  have HS : Hid (isSl w (.slice ad l.length c) 7 l.length (oF l)) := hs
  clear hs
  have hb1 : decide ((40 : Int) < (l.length : Int)) = false := by simpa using (by omega : ¬ (40 : Int) < (l.length : Int))
  have hb2 : decide (40 < l.length) = false := by simpa using hl
  go_enter Try.func4, Try.ntmps4
  go_upto_region 1 with fail
  refine name_wX (fun W0 hW => ?_)
  have hE : Ext w W0 := by rw [hW]; exact Ext.refl w
  clear hW
  refine wp_region_lit ?_
  refine wpList_plain rfl (fun K hK => ?_); go_simp; (go_at_call 11; refine (awake_ok _).mono ?_; intro e W1 hpp; obtain ⟨rfl, hx⟩ := hpp); (try dsimp only); refine hK _ _ ?_; clear hK K; (try simp only [Act.put, Zs, Zz, Zc])
  replace hE := hE.trans hx
  clear hx
  refine wpList_plain rfl (fun K hK => ?_); go_simp; (try simp only [hb1, hb2]); (try dsimp only); refine hK _ _ ?_; clear hK K; (try simp only [Act.put, Zs, Zz, Zc])
  refine wpList_plain rfl (fun K hK => ?_); go_simp; (try dsimp only); refine hK _ _ ?_; clear hK K; (try simp only [Act.put, Zs, Zz, Zc])
  iterate 2 (refine wpList_step (fun K hK => ?_); rw [if_pos (by rfl)]; go_simp; (try dsimp only); refine hK _ _ ?_; clear hK K; (try simp only [Act.put, Zs, Zz, Zc]))
  refine wpList_step (fun K hK => ?_); rw [if_pos (by rfl)]; go_simp; (try simp (disch := omega) only [Yq, Yr]); (try simp only [hb1, hb2]); (try dsimp only); refine hK _ _ ?_; clear hK K; (try simp only [Act.put, Zs, Zz, Zc])
  refine wpList_plain rfl (fun K hK => ?_); go_simp; (try dsimp only); refine hK _ _ ?_; clear hK K; (try simp only [Act.put, Zs, Zz, Zc])
  refine wpList_nil ?_
  go_upto_region 3 with fail
  refine wp_region_lit ?_
  refine wpList_plain rfl (fun K hK => ?_); have qb : w.heap.size ≤ W1.heap.size := hE.below.size; go_simp; (try dsimp only); refine hK _ _ ?_; clear hK K; (try simp only [Act.put, Zs, Zz, Zc])
  refine name_wl (fun W2 hW => ?_)
  have hx : Ext W1 W2 := by rw [hW]; exact ext_alloc _ _
  have b0 : Blk W2 W1.heap.size 28 TV.z.cs := by rw [hW]; exact Blk.newAt rfl
  clear hW
  replace hE := hE.trans hx
  clear hx
  obtain ⟨r0, hr⟩ : ∃ r, r = W1.heap.size := ⟨_, rfl⟩
  rw [← hr] at b0
  try rw [← hr]
  have qb0 : w.heap.size ≤ r0 := by omega
  clear hr
  have qz : r0 < W2.heap.size := b0.lt
  refine wpList_nil ?_
  go_upto_region 5 with fail
  go_loopw [20] (fun vi wr => ∃ (k : Nat) (p : PT) (v : TV), vi = .int .i64 k ∧ k ≤ l.length ∧ Blk wr r0 28 v.cs ∧ isT (Ex [r0]) wr p.bt v ∧ good p ∧ w.heap.size ≤ r0 ∧ Ext w wr) (fun vi _ => l.length - (intOf vi).toNat)
  case atStart => exact ⟨0, .E, TV.z, rfl, by omega, b0, isT_z _ _, good_E, by omega, hE⟩
  case round =>
    clear b0 hE qz
    obtain ⟨k, p, v, rfl, hk, b0, tv, hp, q0, hE⟩ := hrel
    obtain ⟨W0, rfl⟩ : ∃ W0, W0 = wr := ⟨_, rfl⟩
    have qz : r0 < W0.heap.size := b0.lt
    by_cases hlt : k < l.length
    · obtain ⟨b, o, rfl, hc1, hc2, hbw0, hra⟩ := ol_at HS.out hlt
      have hbw : b < W0.heap.size := Nat.lt_of_lt_of_le hbw0 hE.below.size
      have hbr : b < r0 := by omega
      replace hra := rangeAt.ext hra hbw0 hE
      obtain ⟨q, hq⟩ : ∃ q, q = l[k] := ⟨_, rfl⟩
      rw [← hq] at hra
      clear hq
      replace tv := isT.lw tv
      obtain ⟨mtv, hmtv0⟩ : ∃ m, m = W0.heap.size := ⟨_, rfl⟩
      have zhmtv : w.heap.size ≤ mtv := by rw [hmtv0]; exact hE.below.size
      rw [← hmtv0] at tv
      have hmtv : mtv ≤ W0.heap.size := by omega
      have qhmtv : r0 < mtv := by omega
      clear hmtv0
      go_upto_region 6 with fail
      refine wp_region_lit ?_
      refine wpList_plain rfl (fun K hK => ?_); go_simp; (try dsimp only); refine hK _ _ ?_; clear hK K; (try simp only [Act.put, Zs, Zz, Zc])
      refine wpList_plain rfl (fun K hK => ?_); (first | (refine wp_ld 38 _ (hra) (by rfl) (by rfl) Try.underlying38 rfl (by exact Try.infoO) ?_)); (try dsimp only); refine hK _ _ ?_; clear hK K; (try simp only [Act.put, Zs, Zz, Zc])
      refine wpList_plain rfl (fun K hK => ?_); have qb : mtv ≤ W0.heap.size := hmtv; go_simp; (try dsimp only); refine hK _ _ ?_; clear hK K; (try simp only [Act.put, Zs, Zz, Zc])
      refine name_wl (fun W101 hW => ?_)
      have hx : Ext W0 W101 := by rw [hW]; exact ext_alloc _ _
      have b1 : Blk W101 W0.heap.size 38 OV.z.cs := by rw [hW]; exact Blk.newAt rfl
      clear hW
      replace b0 := b0.ext hx
      replace hra := rangeAt.ext hra hbw hx
      replace hbw := Nat.lt_of_lt_of_le hbw hx.below.size
      replace tv := isT.ext hx tv
      replace hmtv := Nat.le_trans hmtv hx.below.size
      replace hE := hE.trans hx
      clear hx
      obtain ⟨r1, hr⟩ : ∃ r, r = W0.heap.size := ⟨_, rfl⟩
      rw [← hr] at b1
      try rw [← hr]
      have q1 : r0 < r1 := by omega
      have qb1 : mtv ≤ r1 := by omega
      clear hr
      replace qz : r1 < W101.heap.size := b1.lt
      refine wpList_plain rfl (fun K hK => ?_)
      refine wp_store_box 38 _ _ (by rfl) b1 (by rfl) (by rfl) (by exact Try.infoO) (by first | exact RV.one _ | exact TV.one _ rfl | exact RV.one _ | exact OV.one _ | exact RV.one _ | exact TV.one _ (isT.one tv)) (by rfl) (fun W102 hg bn => ?_)
      replace b0 := b0.kept hg (Zn (by omega))
      replace hra := rangeAt.kept hra hbw hg (Zn (by omega))
      replace hbw := Nat.lt_of_lt_of_le hbw hg.size
      replace tv := isT.kept hg (by rintro ⟨h1, h2⟩; first | omega | exact h1 (by simp)) tv
      replace hmtv := Nat.le_trans hmtv hg.size
      replace hE := ext_grow hE hg (fun q hq => by cases hq; omega)
      clear b1 hg
      have b1 := bn
      clear bn
      (try dsimp only); refine hK _ _ ?_; clear hK K; (try simp only [Act.put, Zs, Zz, Zc])
      replace qz : r1 < W102.heap.size := b1.lt
      refine wpList_nil ?_
      clear hra hbw
      cases hqd : q.d with
      | true =>
        go_upto_region 7 with fail
        refine wp_region_lit ?_
        iterate 3 (refine wpList_plain rfl (fun K hK => ?_); (first | (refine wp_ld 28 _ (b0.range) (by rfl) (by rfl) Try.underlying28 rfl (by exact Try.infoT) ?_) | (refine wp_ld 25 _ (Blk.opr b1) (by rfl) (by rfl) Try.underlying25 rfl (by exact Try.infoR) ?_) | go_simp); (try dsimp only); refine hK _ _ ?_; clear hK K; (try simp only [Act.put, Zs, Zz, Zc]))
        refine wpList_plain rfl (fun K hK => ?_); go_simp; (go_at_call 18; refine (rinsert_P (A := Ex [r0, r1]) p q.x v _ (Up.ex (by intro r hr; simp at hr <;> omega)) hp (isT.exm tv (by intro r hr; simp at hr <;> (try simp) <;> omega))).mono ?_; intro e W201 hpp; obtain ⟨v1, rfl, t1, hx⟩ := hpp); (try dsimp only); refine hK _ _ ?_; clear hK K; (try simp only [Act.put, Zs, Zz, Zc])
        replace b0 := b0.ext hx
        replace b1 := b1.ext hx
        replace tv := isT.ext hx tv
        replace hmtv := Nat.le_trans hmtv hx.below.size
        replace hE := hE.trans hx
        clear hx
        replace qz : r1 < W201.heap.size := b1.lt
        replace t1 := isT.lw t1
        obtain ⟨mt1, hmt10⟩ : ∃ m, m = W201.heap.size := ⟨_, rfl⟩
        have zhmt1 : w.heap.size ≤ mt1 := by rw [hmt10]; exact hE.below.size
        rw [← hmt10] at t1
        have hmt1 : mt1 ≤ W201.heap.size := by omega
        have qhmt1 : r1 < mt1 := by omega
        have phmt1 : mtv ≤ mt1 := by omega
        clear hmt10
        iterate 3 (refine wpList_plain rfl (fun K hK => ?_); go_simp; (try dsimp only); refine hK _ _ ?_; clear hK K; (try simp only [Act.put, Zs, Zz, Zc]))
        refine wpList_plain rfl (fun K hK => ?_); have qb : mt1 ≤ W201.heap.size := hmt1; go_simp; (try dsimp only); refine hK _ _ ?_; clear hK K; (try simp only [Act.put, Zs, Zz, Zc])
        refine name_wl (fun W202 hW => ?_)
        have hx : Ext W201 W202 := by rw [hW]; exact ext_alloc _ _
        have b2 : Blk W202 W201.heap.size 28 TV.z.cs := by rw [hW]; exact Blk.newAt rfl
        clear hW
        replace b0 := b0.ext hx
        replace b1 := b1.ext hx
        replace tv := isT.ext hx tv
        replace hmtv := Nat.le_trans hmtv hx.below.size
        replace t1 := isT.ext hx t1
        replace hmt1 := Nat.le_trans hmt1 hx.below.size
        replace hE := hE.trans hx
        clear hx
        obtain ⟨r2, hr⟩ : ∃ r, r = W201.heap.size := ⟨_, rfl⟩
        rw [← hr] at b2
        try rw [← hr]
        have q2 : r1 < r2 := by omega
        have qb2 : mt1 ≤ r2 := by omega
        clear hr
        replace qz : r2 < W202.heap.size := b2.lt
        refine wpList_plain rfl (fun K hK => ?_)
        refine wp_store_box 28 _ _ (by rfl) b2 (by rfl) (by rfl) (by exact Try.infoT) (by first | exact RV.one _ | exact TV.one _ rfl | exact RV.one _ | exact OV.one _ | exact RV.one _ | exact TV.one _ (isT.one tv) | exact TV.one _ (isT.one t1)) (by rfl) (fun W203 hg bn => ?_)
        replace b0 := b0.kept hg (Zn (by omega))
        replace b1 := b1.kept hg (Zn (by omega))
        replace tv := isT.kept hg (by rintro ⟨h1, h2⟩; first | omega | exact h1 (by simp)) tv
        replace hmtv := Nat.le_trans hmtv hg.size
        replace t1 := isT.kept hg (by rintro ⟨h1, h2⟩; first | omega | exact h1 (by simp)) t1
        replace hmt1 := Nat.le_trans hmt1 hg.size
        replace hE := ext_grow hE hg (fun q hq => by cases hq; omega)
        clear b2 hg
        have b2 := bn
        clear bn
        (try dsimp only); refine hK _ _ ?_; clear hK K; (try simp only [Act.put, Zs, Zz, Zc])
        replace qz : r2 < W203.heap.size := b2.lt
        refine wpList_plain rfl (fun K hK => ?_); go_simp; (try dsimp only); refine hK _ _ ?_; clear hK K; (try simp only [Act.put, Zs, Zz, Zc])
        refine wpList_nil ?_
        go_upto_region 8 with fail
        refine wp_region_lit ?_
        refine wpList_plain rfl (fun K hK => ?_); go_simp; (try dsimp only); refine hK _ _ ?_; clear hK K; (try simp only [Act.put, Zs, Zz, Zc])
        refine wpList_plain rfl (fun K hK => ?_); have zc := b1.cell 0; go_simp; clear zc; (try simp only [hqd]); (try dsimp only); refine hK _ _ ?_; clear hK K; (try simp only [Act.put, Zs, Zz, Zc])
        refine wpList_nil ?_
        go_upto_region 9 with fail
        refine wp_region_lit ?_
        have zc0 := b1.cell 1
        iterate 4 (refine wpList_plain rfl (fun K hK => ?_); (first | (refine wp_ld 28 _ (b0.range) (by rfl) (by rfl) Try.underlying28 rfl (by exact Try.infoT) ?_) | go_simp); (try dsimp only); refine hK _ _ ?_; clear hK K; (try simp only [Act.put, Zs, Zz, Zc]))
        clear zc0
        refine wpList_plain rfl (fun K hK => ?_); go_simp; (go_at_call 19; refine (rdelete_P (A := Ex [r0, r1, r2]) p q.x.s v _ (Up.ex (by intro r hr; simp at hr <;> omega)) hp (isT.exm tv (by intro r hr; simp at hr <;> (try simp) <;> omega))).mono ?_; intro e W204 hpp; obtain ⟨v2, rfl, t2, hx⟩ := hpp); (try dsimp only); refine hK _ _ ?_; clear hK K; (try simp only [Act.put, Zs, Zz, Zc])
        replace b0 := b0.ext hx
        replace b1 := b1.ext hx
        replace b2 := b2.ext hx
        replace tv := isT.ext hx tv
        replace hmtv := Nat.le_trans hmtv hx.below.size
        replace t1 := isT.ext hx t1
        replace hmt1 := Nat.le_trans hmt1 hx.below.size
        replace hE := hE.trans hx
        clear hx
        replace qz : r2 < W204.heap.size := b2.lt
        replace t2 := isT.lw t2
        obtain ⟨mt2, hmt20⟩ : ∃ m, m = W204.heap.size := ⟨_, rfl⟩
        have zhmt2 : w.heap.size ≤ mt2 := by rw [hmt20]; exact hE.below.size
        rw [← hmt20] at t2
        have hmt2 : mt2 ≤ W204.heap.size := by omega
        have qhmt2 : r2 < mt2 := by omega
        have phmt2 : mt1 ≤ mt2 := by omega
        clear hmt20
        iterate 3 (refine wpList_plain rfl (fun K hK => ?_); go_simp; (try dsimp only); refine hK _ _ ?_; clear hK K; (try simp only [Act.put, Zs, Zz, Zc]))
        refine wpList_plain rfl (fun K hK => ?_)
        refine wp_store_box 28 _ _ (by rfl) b2 (by rfl) (by rfl) (by exact Try.infoT) (by first | exact RV.one _ | exact TV.one _ rfl | exact RV.one _ | exact OV.one _ | exact RV.one _ | exact TV.one _ (isT.one tv) | exact TV.one _ (isT.one t1) | exact TV.one _ (isT.one t2)) (by rfl) (fun W205 hg bn => ?_)
        replace b0 := b0.kept hg (Zn (by omega))
        replace b1 := b1.kept hg (Zn (by omega))
        replace tv := isT.kept hg (by rintro ⟨h1, h2⟩; first | omega | exact h1 (by simp)) tv
        replace hmtv := Nat.le_trans hmtv hg.size
        replace t1 := isT.kept hg (by rintro ⟨h1, h2⟩; first | omega | exact h1 (by simp)) t1
        replace hmt1 := Nat.le_trans hmt1 hg.size
        replace t2 := isT.kept hg (by rintro ⟨h1, h2⟩; first | omega | exact h1 (by simp)) t2
        replace hmt2 := Nat.le_trans hmt2 hg.size
        replace hE := ext_grow hE hg (fun q hq => by cases hq; omega)
        clear b2 hg
        have b2 := bn
        clear bn
        (try dsimp only); refine hK _ _ ?_; clear hK K; (try simp only [Act.put, Zs, Zz, Zc])
        replace qz : r2 < W205.heap.size := b2.lt
        refine wpList_plain rfl (fun K hK => ?_); go_simp; (try dsimp only); refine hK _ _ ?_; clear hK K; (try simp only [Act.put, Zs, Zz, Zc])
        refine wpList_nil ?_
        clear t1
        go_upto_region 10 with fail
        refine wp_region_lit ?_
        iterate 3 (refine wpList_plain rfl (fun K hK => ?_); (first | (refine wp_ld 28 _ (b0.range) (by rfl) (by rfl) Try.underlying28 rfl (by exact Try.infoT) ?_) | (refine wp_ld 25 _ (Blk.opr b1) (by rfl) (by rfl) Try.underlying25 rfl (by exact Try.infoR) ?_) | go_simp); (try dsimp only); refine hK _ _ ?_; clear hK K; (try simp only [Act.put, Zs, Zz, Zc]))
        refine wpList_plain rfl (fun K hK => ?_); go_simp; (go_at_call 15; refine (insert_P (A := Ex [r0, r1, r2]) p q.x v _ (Up.ex (by intro r hr; simp at hr <;> omega)) hp (isT.exm tv (by intro r hr; simp at hr <;> (try simp) <;> omega))).mono ?_; intro e W206 hpp; obtain ⟨v3, rfl, t3, hx⟩ := hpp); (try dsimp only); refine hK _ _ ?_; clear hK K; (try simp only [Act.put, Zs, Zz, Zc])
        replace b0 := b0.ext hx
        replace b1 := b1.ext hx
        replace b2 := b2.ext hx
        replace tv := isT.ext hx tv
        replace hmtv := Nat.le_trans hmtv hx.below.size
        replace hmt1 := Nat.le_trans hmt1 hx.below.size
        replace t2 := isT.ext hx t2
        replace hmt2 := Nat.le_trans hmt2 hx.below.size
        replace hE := hE.trans hx
        clear hx
        replace qz : r2 < W206.heap.size := b2.lt
        replace t3 := isT.lw t3
        obtain ⟨mt3, hmt30⟩ : ∃ m, m = W206.heap.size := ⟨_, rfl⟩
        have zhmt3 : w.heap.size ≤ mt3 := by rw [hmt30]; exact hE.below.size
        rw [← hmt30] at t3
        have hmt3 : mt3 ≤ W206.heap.size := by omega
        have qhmt3 : r2 < mt3 := by omega
        have phmt3 : mt2 ≤ mt3 := by omega
        clear hmt30
        iterate 3 (refine wpList_plain rfl (fun K hK => ?_); go_simp; (try dsimp only); refine hK _ _ ?_; clear hK K; (try simp only [Act.put, Zs, Zz, Zc]))
        refine wpList_plain rfl (fun K hK => ?_); have qb : mt3 ≤ W206.heap.size := hmt3; go_simp; (try dsimp only); refine hK _ _ ?_; clear hK K; (try simp only [Act.put, Zs, Zz, Zc])
        refine name_wl (fun W207 hW => ?_)
        have hx : Ext W206 W207 := by rw [hW]; exact ext_alloc _ _
        have b3 : Blk W207 W206.heap.size 28 TV.z.cs := by rw [hW]; exact Blk.newAt rfl
        clear hW
        replace b0 := b0.ext hx
        replace b1 := b1.ext hx
        replace b2 := b2.ext hx
        replace tv := isT.ext hx tv
        replace hmtv := Nat.le_trans hmtv hx.below.size
        replace hmt1 := Nat.le_trans hmt1 hx.below.size
        replace t2 := isT.ext hx t2
        replace hmt2 := Nat.le_trans hmt2 hx.below.size
        replace t3 := isT.ext hx t3
        replace hmt3 := Nat.le_trans hmt3 hx.below.size
        replace hE := hE.trans hx
        clear hx
        obtain ⟨r3, hr⟩ : ∃ r, r = W206.heap.size := ⟨_, rfl⟩
        rw [← hr] at b3
        try rw [← hr]
        have q3 : r2 < r3 := by omega
        have qb3 : mt3 ≤ r3 := by omega
        clear hr
        replace qz : r3 < W207.heap.size := b3.lt
        refine wpList_plain rfl (fun K hK => ?_)
        refine wp_store_box 28 _ _ (by rfl) b3 (by rfl) (by rfl) (by exact Try.infoT) (by first | exact RV.one _ | exact TV.one _ rfl | exact RV.one _ | exact OV.one _ | exact RV.one _ | exact TV.one _ (isT.one tv) | exact TV.one _ (isT.one t1) | exact TV.one _ (isT.one t2) | exact TV.one _ (isT.one t3)) (by rfl) (fun W208 hg bn => ?_)
        replace b0 := b0.kept hg (Zn (by omega))
        replace b1 := b1.kept hg (Zn (by omega))
        replace b2 := b2.kept hg (Zn (by omega))
        replace tv := isT.kept hg (by rintro ⟨h1, h2⟩; first | omega | exact h1 (by simp)) tv
        replace hmtv := Nat.le_trans hmtv hg.size
        replace hmt1 := Nat.le_trans hmt1 hg.size
        replace t2 := isT.kept hg (by rintro ⟨h1, h2⟩; first | omega | exact h1 (by simp)) t2
        replace hmt2 := Nat.le_trans hmt2 hg.size
        replace t3 := isT.kept hg (by rintro ⟨h1, h2⟩; first | omega | exact h1 (by simp)) t3
        replace hmt3 := Nat.le_trans hmt3 hg.size
        replace hE := ext_grow hE hg (fun q hq => by cases hq; omega)
        clear b3 hg
        have b3 := bn
        clear bn
        (try dsimp only); refine hK _ _ ?_; clear hK K; (try simp only [Act.put, Zs, Zz, Zc])
        replace qz : r3 < W208.heap.size := b3.lt
        refine wpList_plain rfl (fun K hK => ?_); go_simp; (try dsimp only); refine hK _ _ ?_; clear hK K; (try simp only [Act.put, Zs, Zz, Zc])
        refine wpList_nil ?_
        go_upto_region 11 with fail
        refine wp_region_lit ?_
        refine wpList_plain rfl (fun K hK => ?_); go_simp; (try dsimp only); refine hK _ _ ?_; clear hK K; (try simp only [Act.put, Zs, Zz, Zc])
        refine wpList_plain rfl (fun K hK => ?_); have zc := b1.cell 0; go_simp; clear zc; (try simp only [hqd]); (try dsimp only); refine hK _ _ ?_; clear hK K; (try simp only [Act.put, Zs, Zz, Zc])
        refine wpList_nil ?_
        go_upto_region 12 with fail
        refine wp_region_lit ?_
        have zc0 := b1.cell 1
        iterate 4 (refine wpList_plain rfl (fun K hK => ?_); (first | (refine wp_ld 28 _ (b0.range) (by rfl) (by rfl) Try.underlying28 rfl (by exact Try.infoT) ?_) | go_simp); (try dsimp only); refine hK _ _ ?_; clear hK K; (try simp only [Act.put, Zs, Zz, Zc]))
        clear zc0
        refine wpList_plain rfl (fun K hK => ?_); go_simp; (go_at_call 20; refine (delete_P (A := Ex [r0, r1, r2, r3]) p q.x.s v _ (Up.ex (by intro r hr; simp at hr <;> omega)) hp (isT.exm tv (by intro r hr; simp at hr <;> (try simp) <;> omega))).mono ?_; intro e W209 hpp; obtain ⟨v4, rfl, t4, hx⟩ := hpp); (try dsimp only); refine hK _ _ ?_; clear hK K; (try simp only [Act.put, Zs, Zz, Zc])
        replace b0 := b0.ext hx
        replace b1 := b1.ext hx
        replace b2 := b2.ext hx
        replace b3 := b3.ext hx
        replace tv := isT.ext hx tv
        replace hmtv := Nat.le_trans hmtv hx.below.size
        replace hmt1 := Nat.le_trans hmt1 hx.below.size
        replace t2 := isT.ext hx t2
        replace hmt2 := Nat.le_trans hmt2 hx.below.size
        replace t3 := isT.ext hx t3
        replace hmt3 := Nat.le_trans hmt3 hx.below.size
        replace hE := hE.trans hx
        clear hx
        replace qz : r3 < W209.heap.size := b3.lt
        replace t4 := isT.lw t4
        obtain ⟨mt4, hmt40⟩ : ∃ m, m = W209.heap.size := ⟨_, rfl⟩
        have zhmt4 : w.heap.size ≤ mt4 := by rw [hmt40]; exact hE.below.size
        rw [← hmt40] at t4
        have hmt4 : mt4 ≤ W209.heap.size := by omega
        have qhmt4 : r3 < mt4 := by omega
        have phmt4 : mt3 ≤ mt4 := by omega
        clear hmt40
        iterate 3 (refine wpList_plain rfl (fun K hK => ?_); go_simp; (try dsimp only); refine hK _ _ ?_; clear hK K; (try simp only [Act.put, Zs, Zz, Zc]))
        refine wpList_plain rfl (fun K hK => ?_)
        refine wp_store_box 28 _ _ (by rfl) b3 (by rfl) (by rfl) (by exact Try.infoT) (by first | exact RV.one _ | exact TV.one _ rfl | exact RV.one _ | exact OV.one _ | exact RV.one _ | exact TV.one _ (isT.one tv) | exact TV.one _ (isT.one t1) | exact TV.one _ (isT.one t2) | exact TV.one _ (isT.one t3) | exact TV.one _ (isT.one t4)) (by rfl) (fun W210 hg bn => ?_)
        replace b0 := b0.kept hg (Zn (by omega))
        replace b1 := b1.kept hg (Zn (by omega))
        replace b2 := b2.kept hg (Zn (by omega))
        replace tv := isT.kept hg (by rintro ⟨h1, h2⟩; first | omega | exact h1 (by simp)) tv
        replace hmtv := Nat.le_trans hmtv hg.size
        replace hmt1 := Nat.le_trans hmt1 hg.size
        replace t2 := isT.kept hg (by rintro ⟨h1, h2⟩; first | omega | exact h1 (by simp)) t2
        replace hmt2 := Nat.le_trans hmt2 hg.size
        replace t3 := isT.kept hg (by rintro ⟨h1, h2⟩; first | omega | exact h1 (by simp)) t3
        replace hmt3 := Nat.le_trans hmt3 hg.size
        replace t4 := isT.kept hg (by rintro ⟨h1, h2⟩; first | omega | exact h1 (by simp)) t4
        replace hmt4 := Nat.le_trans hmt4 hg.size
        replace hE := ext_grow hE hg (fun q hq => by cases hq; omega)
        clear b3 hg
        have b3 := bn
        clear bn
        (try dsimp only); refine hK _ _ ?_; clear hK K; (try simp only [Act.put, Zs, Zz, Zc])
        replace qz : r3 < W210.heap.size := b3.lt
        refine wpList_plain rfl (fun K hK => ?_); go_simp; (try dsimp only); refine hK _ _ ?_; clear hK K; (try simp only [Act.put, Zs, Zz, Zc])
        refine wpList_nil ?_
        clear t3
        have hbe : ((DelF p q.x.s).2 != (DelF p q.x.s).2) = false := by simp
        go_upto_region 13 with fail
        refine wp_region_lit ?_
        iterate 4 (refine wpList_plain rfl (fun K hK => ?_); go_simp; (try simp only [hbe]); (try dsimp only); refine hK _ _ ?_; clear hK K; (try simp only [Act.put, Zs, Zz, Zc]))
        refine wpList_step (fun K hK => ?_); rw [if_pos (by rfl)]; (first | (refine wp_ld 28 _ (b3.range) (by rfl) (by rfl) Try.underlying28 rfl (by exact Try.infoT) ?_)); (try dsimp only); refine hK _ _ ?_; clear hK K; (try simp only [Act.put, Zs, Zz, Zc])
        refine wpList_step (fun K hK => ?_); rw [if_pos (by rfl)]; (first | (refine wp_ld 28 _ (b2.range) (by rfl) (by rfl) Try.underlying28 rfl (by exact Try.infoT) ?_)); (try dsimp only); refine hK _ _ ?_; clear hK K; (try simp only [Act.put, Zs, Zz, Zc])
        refine wpList_step (fun K hK => ?_); rw [if_pos (by rfl)]; go_simp; (go_at_call 14; refine (rsame_P _ _ _ _ _ _ t4 t2).mono ?_; intro e W211 hpp; obtain ⟨rfl, hx⟩ := hpp); (try dsimp only); refine hK _ _ ?_; clear hK K; (try simp only [Act.put, Zs, Zz, Zc])
        replace b0 := b0.ext hx
        replace b1 := b1.ext hx
        replace b2 := b2.ext hx
        replace b3 := b3.ext hx
        replace tv := isT.ext hx tv
        replace hmtv := Nat.le_trans hmtv hx.below.size
        replace hmt1 := Nat.le_trans hmt1 hx.below.size
        replace t2 := isT.ext hx t2
        replace hmt2 := Nat.le_trans hmt2 hx.below.size
        replace hmt3 := Nat.le_trans hmt3 hx.below.size
        replace t4 := isT.ext hx t4
        replace hmt4 := Nat.le_trans hmt4 hx.below.size
        replace hE := hE.trans hx
        clear hx
        replace qz : r3 < W211.heap.size := b3.lt
        refine wpList_step (fun K hK => ?_); rw [if_pos (by rfl)]; go_simp; (try simp only [hbe]); (try dsimp only); refine hK _ _ ?_; clear hK K; (try simp only [Act.put, Zs, Zz, Zc])
        refine wpList_plain rfl (fun K hK => ?_); go_simp; (try dsimp only); refine hK _ _ ?_; clear hK K; (try simp only [Act.put, Zs, Zz, Zc])
        refine wpList_nil ?_
        have hsg := stp_good hp q
        unfold StpF at hsg
        rw [if_pos hqd] at hsg
        replace hsg : Hid _ := hsg
        by_cases h0 : (DelF p q.x.s).2 = 0
        · have hb0 : ((DelF p q.x.s).2 == 0) = true := by simpa using h0
          go_upto_region 15 with fail
          refine wp_region_lit ?_
          refine wpList_plain rfl (fun K hK => ?_); go_simp; (try dsimp only); refine hK _ _ ?_; clear hK K; (try simp only [Act.put, Zs, Zz, Zc])
          refine wpList_plain rfl (fun K hK => ?_); go_simp; (try simp (disch := omega) only [Yq, Yr]); (try simp only [hb0]); (try dsimp only); refine hK _ _ ?_; clear hK K; (try simp only [Act.put, Zs, Zz, Zc])
          refine wpList_nil ?_
          go_upto_region 16 with fail
          refine wp_region_lit ?_
          refine wpList_plain rfl (fun K hK => ?_); (first | (refine wp_ld 28 _ (b2.range) (by rfl) (by rfl) Try.underlying28 rfl (by exact Try.infoT) ?_)); (try dsimp only); refine hK _ _ ?_; clear hK K; (try simp only [Act.put, Zs, Zz, Zc])
          refine wpList_plain rfl (fun K hK => ?_)
          refine wp_store_box 28 _ _ (by rfl) b0 (by rfl) (by rfl) (by exact Try.infoT) (by first | exact RV.one _ | exact TV.one _ rfl | exact RV.one _ | exact OV.one _ | exact RV.one _ | exact TV.one _ (isT.one tv) | exact TV.one _ (isT.one t1) | exact TV.one _ (isT.one t2) | exact TV.one _ (isT.one t3) | exact TV.one _ (isT.one t4)) (by rfl) (fun W232 hg bn => ?_)
          replace b1 := b1.kept hg (Zn (by omega))
          replace b2 := b2.kept hg (Zn (by omega))
          replace b3 := b3.kept hg (Zn (by omega))
          replace tv := isT.kept hg (by rintro ⟨h1, h2⟩; first | omega | exact h1 (by simp)) tv
          replace hmtv := Nat.le_trans hmtv hg.size
          replace hmt1 := Nat.le_trans hmt1 hg.size
          replace t2 := isT.kept hg (by rintro ⟨h1, h2⟩; first | omega | exact h1 (by simp)) t2
          replace hmt2 := Nat.le_trans hmt2 hg.size
          replace hmt3 := Nat.le_trans hmt3 hg.size
          replace t4 := isT.kept hg (by rintro ⟨h1, h2⟩; first | omega | exact h1 (by simp)) t4
          replace hmt4 := Nat.le_trans hmt4 hg.size
          replace hE := ext_grow hE hg (fun q hq => by cases hq; omega)
          clear b0 hg
          have b0 := bn
          clear bn
          (try dsimp only); refine hK _ _ ?_; clear hK K; (try simp only [Act.put, Zs, Zz, Zc])
          replace qz : r3 < W232.heap.size := b3.lt
          refine wpList_nil ?_
          go_upto_region 17 with fail
          refine wp_region_lit ?_
          refine wpList_plain rfl (fun K hK => ?_); go_simp; (try simp (disch := omega) only [Yq, Yr]); (try dsimp only); refine hK _ _ ?_; clear hK K; (try simp only [Act.put, Zs, Zz, Zc])
          refine wpList_plain rfl (fun K hK => ?_); go_simp; (try dsimp only); refine hK _ _ ?_; clear hK K; (try simp only [Act.put, Zs, Zz, Zc])
          refine wpList_nil ?_
          go_wp2_with fail
          go_roundw
          case rel => exact ⟨k + 1, _, v2, by go_num, by omega, b0, isT.exm t2 (by intro r hr; simp at hr; simp [hr]), hsg.out h0, q0, hE⟩
          case measure => simp [intOf]; omega
        · have hb0 : ((DelF p q.x.s).2 == 0) = false := by simpa using h0
          go_upto_region 15 with fail
          refine wp_region_lit ?_
          refine wpList_plain rfl (fun K hK => ?_); go_simp; (try dsimp only); refine hK _ _ ?_; clear hK K; (try simp only [Act.put, Zs, Zz, Zc])
          refine wpList_plain rfl (fun K hK => ?_); go_simp; (try simp (disch := omega) only [Yq, Yr]); (try simp only [hb0]); (try dsimp only); refine hK _ _ ?_; clear hK K; (try simp only [Act.put, Zs, Zz, Zc])
          refine wpList_nil ?_
          go_upto_region 17 with fail
          refine wp_region_lit ?_
          refine wpList_plain rfl (fun K hK => ?_); go_simp; (try simp (disch := omega) only [Yq, Yr]); (try dsimp only); refine hK _ _ ?_; clear hK K; (try simp only [Act.put, Zs, Zz, Zc])
          refine wpList_plain rfl (fun K hK => ?_); go_simp; (try dsimp only); refine hK _ _ ?_; clear hK K; (try simp only [Act.put, Zs, Zz, Zc])
          refine wpList_nil ?_
          go_wp2_with fail
          go_roundw
          case rel => exact ⟨k + 1, p, v, by go_num, by omega, b0, isT.exm tv (by intro r hr; simp at hr; simp [hr]), hp, q0, hE⟩
          case measure => simp [intOf]; omega
      | false =>
        go_upto_region 7 with fail
        refine wp_region_lit ?_
        iterate 3 (refine wpList_plain rfl (fun K hK => ?_); (first | (refine wp_ld 28 _ (b0.range) (by rfl) (by rfl) Try.underlying28 rfl (by exact Try.infoT) ?_) | (refine wp_ld 25 _ (Blk.opr b1) (by rfl) (by rfl) Try.underlying25 rfl (by exact Try.infoR) ?_) | go_simp); (try dsimp only); refine hK _ _ ?_; clear hK K; (try simp only [Act.put, Zs, Zz, Zc]))
        refine wpList_plain rfl (fun K hK => ?_); go_simp; (go_at_call 18; refine (rinsert_P (A := Ex [r0, r1]) p q.x v _ (Up.ex (by intro r hr; simp at hr <;> omega)) hp (isT.exm tv (by intro r hr; simp at hr <;> (try simp) <;> omega))).mono ?_; intro e W401 hpp; obtain ⟨v1, rfl, t1, hx⟩ := hpp); (try dsimp only); refine hK _ _ ?_; clear hK K; (try simp only [Act.put, Zs, Zz, Zc])
        replace b0 := b0.ext hx
        replace b1 := b1.ext hx
        replace tv := isT.ext hx tv
        replace hmtv := Nat.le_trans hmtv hx.below.size
        replace hE := hE.trans hx
        clear hx
        replace qz : r1 < W401.heap.size := b1.lt
        replace t1 := isT.lw t1
        obtain ⟨mt1, hmt10⟩ : ∃ m, m = W401.heap.size := ⟨_, rfl⟩
        have zhmt1 : w.heap.size ≤ mt1 := by rw [hmt10]; exact hE.below.size
        rw [← hmt10] at t1
        have hmt1 : mt1 ≤ W401.heap.size := by omega
        have qhmt1 : r1 < mt1 := by omega
        have phmt1 : mtv ≤ mt1 := by omega
        clear hmt10
        iterate 3 (refine wpList_plain rfl (fun K hK => ?_); go_simp; (try dsimp only); refine hK _ _ ?_; clear hK K; (try simp only [Act.put, Zs, Zz, Zc]))
        refine wpList_plain rfl (fun K hK => ?_); have qb : mt1 ≤ W401.heap.size := hmt1; go_simp; (try dsimp only); refine hK _ _ ?_; clear hK K; (try simp only [Act.put, Zs, Zz, Zc])
        refine name_wl (fun W402 hW => ?_)
        have hx : Ext W401 W402 := by rw [hW]; exact ext_alloc _ _
        have b2 : Blk W402 W401.heap.size 28 TV.z.cs := by rw [hW]; exact Blk.newAt rfl
        clear hW
        replace b0 := b0.ext hx
        replace b1 := b1.ext hx
        replace tv := isT.ext hx tv
        replace hmtv := Nat.le_trans hmtv hx.below.size
        replace t1 := isT.ext hx t1
        replace hmt1 := Nat.le_trans hmt1 hx.below.size
        replace hE := hE.trans hx
        clear hx
        obtain ⟨r2, hr⟩ : ∃ r, r = W401.heap.size := ⟨_, rfl⟩
        rw [← hr] at b2
        try rw [← hr]
        have q2 : r1 < r2 := by omega
        have qb2 : mt1 ≤ r2 := by omega
        clear hr
        replace qz : r2 < W402.heap.size := b2.lt
        refine wpList_plain rfl (fun K hK => ?_)
        refine wp_store_box 28 _ _ (by rfl) b2 (by rfl) (by rfl) (by exact Try.infoT) (by first | exact RV.one _ | exact TV.one _ rfl | exact RV.one _ | exact OV.one _ | exact RV.one _ | exact TV.one _ (isT.one tv) | exact TV.one _ (isT.one t1)) (by rfl) (fun W403 hg bn => ?_)
        replace b0 := b0.kept hg (Zn (by omega))
        replace b1 := b1.kept hg (Zn (by omega))
        replace tv := isT.kept hg (by rintro ⟨h1, h2⟩; first | omega | exact h1 (by simp)) tv
        replace hmtv := Nat.le_trans hmtv hg.size
        replace t1 := isT.kept hg (by rintro ⟨h1, h2⟩; first | omega | exact h1 (by simp)) t1
        replace hmt1 := Nat.le_trans hmt1 hg.size
        replace hE := ext_grow hE hg (fun q hq => by cases hq; omega)
        clear b2 hg
        have b2 := bn
        clear bn
        (try dsimp only); refine hK _ _ ?_; clear hK K; (try simp only [Act.put, Zs, Zz, Zc])
        replace qz : r2 < W403.heap.size := b2.lt
        refine wpList_plain rfl (fun K hK => ?_); go_simp; (try dsimp only); refine hK _ _ ?_; clear hK K; (try simp only [Act.put, Zs, Zz, Zc])
        refine wpList_nil ?_
        go_upto_region 8 with fail
        refine wp_region_lit ?_
        refine wpList_plain rfl (fun K hK => ?_); go_simp; (try dsimp only); refine hK _ _ ?_; clear hK K; (try simp only [Act.put, Zs, Zz, Zc])
        refine wpList_plain rfl (fun K hK => ?_); have zc := b1.cell 0; go_simp; clear zc; (try simp only [hqd]); (try dsimp only); refine hK _ _ ?_; clear hK K; (try simp only [Act.put, Zs, Zz, Zc])
        refine wpList_nil ?_
        go_upto_region 10 with fail
        refine wp_region_lit ?_
        iterate 3 (refine wpList_plain rfl (fun K hK => ?_); (first | (refine wp_ld 28 _ (b0.range) (by rfl) (by rfl) Try.underlying28 rfl (by exact Try.infoT) ?_) | (refine wp_ld 25 _ (Blk.opr b1) (by rfl) (by rfl) Try.underlying25 rfl (by exact Try.infoR) ?_) | go_simp); (try dsimp only); refine hK _ _ ?_; clear hK K; (try simp only [Act.put, Zs, Zz, Zc]))
        refine wpList_plain rfl (fun K hK => ?_); go_simp; (go_at_call 15; refine (insert_P (A := Ex [r0, r1, r2]) p q.x v _ (Up.ex (by intro r hr; simp at hr <;> omega)) hp (isT.exm tv (by intro r hr; simp at hr <;> (try simp) <;> omega))).mono ?_; intro e W404 hpp; obtain ⟨v3, rfl, t3, hx⟩ := hpp); (try dsimp only); refine hK _ _ ?_; clear hK K; (try simp only [Act.put, Zs, Zz, Zc])
        replace b0 := b0.ext hx
        replace b1 := b1.ext hx
        replace b2 := b2.ext hx
        replace tv := isT.ext hx tv
        replace hmtv := Nat.le_trans hmtv hx.below.size
        replace t1 := isT.ext hx t1
        replace hmt1 := Nat.le_trans hmt1 hx.below.size
        replace hE := hE.trans hx
        clear hx
        replace qz : r2 < W404.heap.size := b2.lt
        replace t3 := isT.lw t3
        obtain ⟨mt3, hmt30⟩ : ∃ m, m = W404.heap.size := ⟨_, rfl⟩
        have zhmt3 : w.heap.size ≤ mt3 := by rw [hmt30]; exact hE.below.size
        rw [← hmt30] at t3
        have hmt3 : mt3 ≤ W404.heap.size := by omega
        have qhmt3 : r2 < mt3 := by omega
        have phmt3 : mt1 ≤ mt3 := by omega
        clear hmt30
        iterate 3 (refine wpList_plain rfl (fun K hK => ?_); go_simp; (try dsimp only); refine hK _ _ ?_; clear hK K; (try simp only [Act.put, Zs, Zz, Zc]))
        refine wpList_plain rfl (fun K hK => ?_); have qb : mt3 ≤ W404.heap.size := hmt3; go_simp; (try dsimp only); refine hK _ _ ?_; clear hK K; (try simp only [Act.put, Zs, Zz, Zc])
        refine name_wl (fun W405 hW => ?_)
        have hx : Ext W404 W405 := by rw [hW]; exact ext_alloc _ _
        have b3 : Blk W405 W404.heap.size 28 TV.z.cs := by rw [hW]; exact Blk.newAt rfl
        clear hW
        replace b0 := b0.ext hx
        replace b1 := b1.ext hx
        replace b2 := b2.ext hx
        replace tv := isT.ext hx tv
        replace hmtv := Nat.le_trans hmtv hx.below.size
        replace t1 := isT.ext hx t1
        replace hmt1 := Nat.le_trans hmt1 hx.below.size
        replace t3 := isT.ext hx t3
        replace hmt3 := Nat.le_trans hmt3 hx.below.size
        replace hE := hE.trans hx
        clear hx
        obtain ⟨r3, hr⟩ : ∃ r, r = W404.heap.size := ⟨_, rfl⟩
        rw [← hr] at b3
        try rw [← hr]
        have q3 : r2 < r3 := by omega
        have qb3 : mt3 ≤ r3 := by omega
        clear hr
        replace qz : r3 < W405.heap.size := b3.lt
        refine wpList_plain rfl (fun K hK => ?_)
        refine wp_store_box 28 _ _ (by rfl) b3 (by rfl) (by rfl) (by exact Try.infoT) (by first | exact RV.one _ | exact TV.one _ rfl | exact RV.one _ | exact OV.one _ | exact RV.one _ | exact TV.one _ (isT.one tv) | exact TV.one _ (isT.one t1) | exact TV.one _ (isT.one t3)) (by rfl) (fun W406 hg bn => ?_)
        replace b0 := b0.kept hg (Zn (by omega))
        replace b1 := b1.kept hg (Zn (by omega))
        replace b2 := b2.kept hg (Zn (by omega))
        replace tv := isT.kept hg (by rintro ⟨h1, h2⟩; first | omega | exact h1 (by simp)) tv
        replace hmtv := Nat.le_trans hmtv hg.size
        replace t1 := isT.kept hg (by rintro ⟨h1, h2⟩; first | omega | exact h1 (by simp)) t1
        replace hmt1 := Nat.le_trans hmt1 hg.size
        replace t3 := isT.kept hg (by rintro ⟨h1, h2⟩; first | omega | exact h1 (by simp)) t3
        replace hmt3 := Nat.le_trans hmt3 hg.size
        replace hE := ext_grow hE hg (fun q hq => by cases hq; omega)
        clear b3 hg
        have b3 := bn
        clear bn
        (try dsimp only); refine hK _ _ ?_; clear hK K; (try simp only [Act.put, Zs, Zz, Zc])
        replace qz : r3 < W406.heap.size := b3.lt
        refine wpList_plain rfl (fun K hK => ?_); go_simp; (try dsimp only); refine hK _ _ ?_; clear hK K; (try simp only [Act.put, Zs, Zz, Zc])
        refine wpList_nil ?_
        go_upto_region 11 with fail
        refine wp_region_lit ?_
        refine wpList_plain rfl (fun K hK => ?_); go_simp; (try dsimp only); refine hK _ _ ?_; clear hK K; (try simp only [Act.put, Zs, Zz, Zc])
        refine wpList_plain rfl (fun K hK => ?_); have zc := b1.cell 0; go_simp; clear zc; (try simp only [hqd]); (try dsimp only); refine hK _ _ ?_; clear hK K; (try simp only [Act.put, Zs, Zz, Zc])
        refine wpList_nil ?_
        have hbe : ((InsF p q.x).2 != (InsF p q.x).2) = false := by simp
        go_upto_region 13 with fail
        refine wp_region_lit ?_
        iterate 4 (refine wpList_plain rfl (fun K hK => ?_); go_simp; (try simp only [hbe]); (try dsimp only); refine hK _ _ ?_; clear hK K; (try simp only [Act.put, Zs, Zz, Zc]))
        refine wpList_step (fun K hK => ?_); rw [if_pos (by rfl)]; (first | (refine wp_ld 28 _ (b3.range) (by rfl) (by rfl) Try.underlying28 rfl (by exact Try.infoT) ?_)); (try dsimp only); refine hK _ _ ?_; clear hK K; (try simp only [Act.put, Zs, Zz, Zc])
        refine wpList_step (fun K hK => ?_); rw [if_pos (by rfl)]; (first | (refine wp_ld 28 _ (b2.range) (by rfl) (by rfl) Try.underlying28 rfl (by exact Try.infoT) ?_)); (try dsimp only); refine hK _ _ ?_; clear hK K; (try simp only [Act.put, Zs, Zz, Zc])
        refine wpList_step (fun K hK => ?_); rw [if_pos (by rfl)]; go_simp; (go_at_call 14; refine (rsame_P _ _ _ _ _ _ t3 t1).mono ?_; intro e W407 hpp; obtain ⟨rfl, hx⟩ := hpp); (try dsimp only); refine hK _ _ ?_; clear hK K; (try simp only [Act.put, Zs, Zz, Zc])
        replace b0 := b0.ext hx
        replace b1 := b1.ext hx
        replace b2 := b2.ext hx
        replace b3 := b3.ext hx
        replace tv := isT.ext hx tv
        replace hmtv := Nat.le_trans hmtv hx.below.size
        replace t1 := isT.ext hx t1
        replace hmt1 := Nat.le_trans hmt1 hx.below.size
        replace t3 := isT.ext hx t3
        replace hmt3 := Nat.le_trans hmt3 hx.below.size
        replace hE := hE.trans hx
        clear hx
        replace qz : r3 < W407.heap.size := b3.lt
        refine wpList_step (fun K hK => ?_); rw [if_pos (by rfl)]; go_simp; (try simp only [hbe]); (try dsimp only); refine hK _ _ ?_; clear hK K; (try simp only [Act.put, Zs, Zz, Zc])
        refine wpList_plain rfl (fun K hK => ?_); go_simp; (try dsimp only); refine hK _ _ ?_; clear hK K; (try simp only [Act.put, Zs, Zz, Zc])
        refine wpList_nil ?_
        have hsg := stp_good hp q
        unfold StpF at hsg
        rw [if_neg (by rw [hqd]; decide)] at hsg
        replace hsg : Hid _ := hsg
        by_cases h0 : (InsF p q.x).2 = 0
        · have hb0 : ((InsF p q.x).2 == 0) = true := by simpa using h0
          go_upto_region 15 with fail
          refine wp_region_lit ?_
          refine wpList_plain rfl (fun K hK => ?_); go_simp; (try dsimp only); refine hK _ _ ?_; clear hK K; (try simp only [Act.put, Zs, Zz, Zc])
          refine wpList_plain rfl (fun K hK => ?_); go_simp; (try simp (disch := omega) only [Yq, Yr]); (try simp only [hb0]); (try dsimp only); refine hK _ _ ?_; clear hK K; (try simp only [Act.put, Zs, Zz, Zc])
          refine wpList_nil ?_
          go_upto_region 16 with fail
          refine wp_region_lit ?_
          refine wpList_plain rfl (fun K hK => ?_); (first | (refine wp_ld 28 _ (b2.range) (by rfl) (by rfl) Try.underlying28 rfl (by exact Try.infoT) ?_)); (try dsimp only); refine hK _ _ ?_; clear hK K; (try simp only [Act.put, Zs, Zz, Zc])
          refine wpList_plain rfl (fun K hK => ?_)
          refine wp_store_box 28 _ _ (by rfl) b0 (by rfl) (by rfl) (by exact Try.infoT) (by first | exact RV.one _ | exact TV.one _ rfl | exact RV.one _ | exact OV.one _ | exact RV.one _ | exact TV.one _ (isT.one tv) | exact TV.one _ (isT.one t1) | exact TV.one _ (isT.one t3)) (by rfl) (fun W428 hg bn => ?_)
          replace b1 := b1.kept hg (Zn (by omega))
          replace b2 := b2.kept hg (Zn (by omega))
          replace b3 := b3.kept hg (Zn (by omega))
          replace tv := isT.kept hg (by rintro ⟨h1, h2⟩; first | omega | exact h1 (by simp)) tv
          replace hmtv := Nat.le_trans hmtv hg.size
          replace t1 := isT.kept hg (by rintro ⟨h1, h2⟩; first | omega | exact h1 (by simp)) t1
          replace hmt1 := Nat.le_trans hmt1 hg.size
          replace t3 := isT.kept hg (by rintro ⟨h1, h2⟩; first | omega | exact h1 (by simp)) t3
          replace hmt3 := Nat.le_trans hmt3 hg.size
          replace hE := ext_grow hE hg (fun q hq => by cases hq; omega)
          clear b0 hg
          have b0 := bn
          clear bn
          (try dsimp only); refine hK _ _ ?_; clear hK K; (try simp only [Act.put, Zs, Zz, Zc])
          replace qz : r3 < W428.heap.size := b3.lt
          refine wpList_nil ?_
          go_upto_region 17 with fail
          refine wp_region_lit ?_
          refine wpList_plain rfl (fun K hK => ?_); go_simp; (try simp (disch := omega) only [Yq, Yr]); (try dsimp only); refine hK _ _ ?_; clear hK K; (try simp only [Act.put, Zs, Zz, Zc])
          refine wpList_plain rfl (fun K hK => ?_); go_simp; (try dsimp only); refine hK _ _ ?_; clear hK K; (try simp only [Act.put, Zs, Zz, Zc])
          refine wpList_nil ?_
          go_wp2_with fail
          go_roundw
          case rel => exact ⟨k + 1, _, v1, by go_num, by omega, b0, isT.exm t1 (by intro r hr; simp at hr; simp [hr]), hsg.out h0, q0, hE⟩
          case measure => simp [intOf]; omega
        · have hb0 : ((InsF p q.x).2 == 0) = false := by simpa using h0
          go_upto_region 15 with fail
          refine wp_region_lit ?_
          refine wpList_plain rfl (fun K hK => ?_); go_simp; (try dsimp only); refine hK _ _ ?_; clear hK K; (try simp only [Act.put, Zs, Zz, Zc])
          refine wpList_plain rfl (fun K hK => ?_); go_simp; (try simp (disch := omega) only [Yq, Yr]); (try simp only [hb0]); (try dsimp only); refine hK _ _ ?_; clear hK K; (try simp only [Act.put, Zs, Zz, Zc])
          refine wpList_nil ?_
          go_upto_region 17 with fail
          refine wp_region_lit ?_
          refine wpList_plain rfl (fun K hK => ?_); go_simp; (try simp (disch := omega) only [Yq, Yr]); (try dsimp only); refine hK _ _ ?_; clear hK K; (try simp only [Act.put, Zs, Zz, Zc])
          refine wpList_plain rfl (fun K hK => ?_); go_simp; (try dsimp only); refine hK _ _ ?_; clear hK K; (try simp only [Act.put, Zs, Zz, Zc])
          refine wpList_nil ?_
          go_wp2_with fail
          go_roundw
          case rel => exact ⟨k + 1, p, v, by go_num, by omega, b0, isT.exm tv (by intro r hr; simp at hr; simp [hr]), hp, q0, hE⟩
          case measure => simp [intOf]; omega
    · go_upto_region 18 with fail
      refine wp_region_lit ?_
      refine wpList_plain rfl (fun K hK => ?_); go_simp; (try dsimp only); refine hK _ _ ?_; clear hK K; (try simp only [Act.put, Zs, Zz, Zc])
      refine wpList_nil ?_
      go_wp2_with fail
      go_ret
      exact ⟨rfl, hE⟩
theorem law_steps (l : List OV) (s : Value) (w : World) (hs : isSl w s 7 l.length (oF l)) :
    Calls Try.prog 4 #[s] w fun e w' => e = .returned (.bool true) ∧ Ext w w' := by
  by_cases hl : 40 < l.length
  · exact law_steps_big l s w hs hl
  · exact law_steps_ok l s w hs hl

end Go.Proofs.Ytnbohogkfdeddaa
