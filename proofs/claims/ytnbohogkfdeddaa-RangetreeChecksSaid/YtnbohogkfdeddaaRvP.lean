/- Rangetree: the reference: formed, regions. -/
/- Rangetree: the reference: numbered. -/
/- Rangetree: the reference: Check, List. -/
/- Rangetree, plain: what both Checks say of a formed tree is the same; a tree that both accept. -/
import Derived.Test.YtnbohogkfdeddaaRug
import Derived.Test.YtnbohogkfdeddaaRui
import Derived.Test.YtnbohogkfdeddaaRuw
import Derived.Test.YtnbohogkfdeddaaRvx
import Derived.Test.YtnbohogkfdeddaaRuv
import Derived.Test.YtnbohogkfdeddaaRuk
set_option linter.unusedSimpArgs false
set_option linter.unusedVariables false
namespace Go.Proofs.Ytnbohogkfdeddaa
open Go.RowKit

/-- W has grown out of w but for the row k; u is the row now. -/
structure RW (w : World) (k : Option Nat) (W : World) (u : Value) : Prop where
  g : w.grownBy W k
  r : u.ownBlock = k ∨ ∃ b, u.ownBlock = some b ∧ w.heap.size ≤ b
theorem RW.of_ext {w W : World} {u : Value} (h : Ext w W) : RW w u.ownBlock W u := ⟨grown_ext h _, .inl rfl⟩
theorem RW.trans {w W W' : World} {k : Option Nat} {u u' : Value} (h : RW w k W u) (h' : RW W u.ownBlock W' u') : RW w k W' u' := by
  obtain ⟨g1, r1⟩ := h
  obtain ⟨g2, r2⟩ := h'
  refine ⟨⟨g2.os.trans g1.os, g2.tape.trans g1.tape, g2.output.trans g1.output, Nat.le_trans g1.size g2.size, fun b hb hk => ?_⟩, ?_⟩
  · refine (g2.block b (Nat.lt_of_lt_of_le hb g1.size) (fun e => ?_)).trans (g1.block b hb hk)
    rcases r1 with h | ⟨c, h, hc⟩
    · exact hk (e.trans h)
    · rw [h] at e
      cases e
      omega
  · rcases r2 with h | ⟨c, h, hc⟩
    · rw [h]; exact r1
    · exact .inr ⟨c, h, Nat.le_trans g1.size hc⟩
theorem RW.ext {w W W' : World} {k : Option Nat} {u : Value} (h : RW w k W u) (hE : Ext W W') : RW w k W' u := h.trans (RW.of_ext hE)
/-- A block that is there and is not the row. -/
def NR (W : World) (u : Value) (g : Nat) : Prop := g < W.heap.size ∧ u.ownBlock ≠ some g
theorem NR.rw {W W' : World} {u u' : Value} {g : Nat} (h : NR W u g) (hx : RW W u.ownBlock W' u') : NR W' u' g := by
  refine ⟨Nat.lt_of_lt_of_le h.1 hx.g.size, fun e => ?_⟩
  rcases hx.r with r | ⟨b, r, hb⟩
  · exact h.2 (r.symm.trans e)
  · rw [r] at e
    cases e
    have := h.1
    omega
theorem NR.ext {W W' : World} {u : Value} {g : Nat} (h : NR W u g) (hE : Ext W W') : NR W' u g := ⟨Nat.lt_of_lt_of_le h.1 hE.below.size, h.2⟩
theorem RW.blk {W W' : World} {u u' : Value} {r : Nat} {T : TypeId} {cs : List Value} (hx : RW W u.ownBlock W' u') (h : NR W u r) (b : Blk W r T cs) : Blk W' r T cs := b.kept hx.g (fun e => h.2 e.symm)
theorem RW.range {W W' : World} {u u' : Value} {g o : Nat} {cs : List Value} (hx : RW W u.ownBlock W' u') (h : NR W u g) (b : W.rangeAt g o cs) : W'.rangeAt g o cs := rangeAt.kept b h.1 hx.g (fun e => h.2 e.symm)
theorem isT.rw {A : Nat → Prop} {w w' : World} {u u' : Value} (hx : RW w u.ownBlock w' u') (hL : ∀ g, A g → NR w u g) : ∀ {t : BT} {v : TV}, isT A w t v → isT A w' t v
  | .E, v, h => h
  | .N _ _ _ _ a x b, v, ⟨h1, h2, h3, h4, h5, h6, r, o, c, va, vb, h7, h8, h9, hr, h10, h11, h12, h13⟩ =>
    ⟨h1, h2, h3, h4, h5, h6, r, o, c, va, vb, h7, h8, Nat.lt_of_lt_of_le h9 hx.g.size, hr, hx.range (hL r hr) h10, hx.range (hL r hr) h11, isT.rw hx hL h12, isT.rw hx hL h13⟩
theorem eqR_zz : eqR RV.z RV.z = true := (eqR_iff _ _).2 rfl
/-- The regions of a tree, in order. -/
def BT.regs : BT → List RV
  | .E => []
  | .N _ _ _ _ a x b => a.regs ++ x :: b.regs
theorem regs_flat : ∀ p : PT, p.bt.regs = p.flat
  | .E => rfl
  | .N l x r => by
    show l.bt.regs ++ x :: r.bt.regs = l.flat ++ x :: r.flat
    rw [regs_flat l, regs_flat r]
set_option maxRecDepth 100000 in
set_option maxHeartbeats 4000000 in
theorem rempty_E {A : Nat → Prop} (v : TV) (w : World) (ht : isT A w .E v) :
    Calls Try.prog 59 #[.agg v.cs.toArray] w fun e w' => e = .returned (.bool true) ∧ Ext w w' := by
  obtain ⟨e1, e2, e3, e4, e5, ka, c, hk⟩ := ht
  obtain ⟨h, f, l, gg, x, k⟩ := v
  dsimp only at e1 e2 e3 e4 e5 hk
  subst h f l gg x k
  go_enter Try.func59, Try.ntmps59
  go_upto_region 1 with fail
  refine name_wX (fun W1 hW => ?_)
  have hE : Ext w W1 := by rw [hW]; repeat' (first | exact Ext.refl _ | apply Ext.al)
  have b0 : Blk W1 (w.heap.size) 28 (TV.cs ⟨0, 0, 0, 0, RV.z, .slice ka 0 c⟩) := by rw [hW]; exact Blk.newAt rfl
  clear hW
  obtain ⟨r0, hr0⟩ : ∃ r, r = w.heap.size := ⟨_, rfl⟩
  rw [← hr0] at b0
  try rw [← hr0]
  have q0 : w.heap.size ≤ r0 := by omega
  clear hr0
  have qz : r0 < W1.heap.size := b0.lt
  go_upto_region 1 with fail
  refine wp_region_lit ?_
  refine wpList_plain rfl (fun K hK => ?_); go_simp; (try dsimp only); refine hK _ _ ?_; clear hK K; (try simp only [Act.put, Zs, Zz, Zc])
  refine wpList_plain rfl (fun K hK => ?_); have zc := b0.cell 0; go_simp; clear zc; (try simp only [beq_self_eq_true, eqR_zz]); (try dsimp only); refine hK _ _ ?_; clear hK K; (try simp only [Act.put, Zs, Zz, Zc])
  refine wpList_plain rfl (fun K hK => ?_); go_simp; (try simp (disch := omega) only [Yq, Yr]); (try simp only [beq_self_eq_true, eqR_zz]); (try dsimp only); refine hK _ _ ?_; clear hK K; (try simp only [Act.put, Zs, Zz, Zc])
  refine wpList_plain rfl (fun K hK => ?_); go_simp; (try dsimp only); refine hK _ _ ?_; clear hK K; (try simp only [Act.put, Zs, Zz, Zc])
  refine wpList_step (fun K hK => ?_); rw [if_pos (by rfl)]; go_simp; (try dsimp only); refine hK _ _ ?_; clear hK K; (try simp only [Act.put, Zs, Zz, Zc])
  refine wpList_step (fun K hK => ?_); rw [if_pos (by rfl)]; have zc := b0.cell 1; go_simp; clear zc; (try simp only [beq_self_eq_true, eqR_zz]); (try dsimp only); refine hK _ _ ?_; clear hK K; (try simp only [Act.put, Zs, Zz, Zc])
  refine wpList_step (fun K hK => ?_); rw [if_pos (by rfl)]; go_simp; (try simp (disch := omega) only [Yq, Yr]); (try simp only [beq_self_eq_true, eqR_zz]); (try dsimp only); refine hK _ _ ?_; clear hK K; (try simp only [Act.put, Zs, Zz, Zc])
  iterate 2 (refine wpList_plain rfl (fun K hK => ?_); go_simp; (try dsimp only); refine hK _ _ ?_; clear hK K; (try simp only [Act.put, Zs, Zz, Zc]))
  refine wpList_step (fun K hK => ?_); rw [if_pos (by rfl)]; go_simp; (try dsimp only); refine hK _ _ ?_; clear hK K; (try simp only [Act.put, Zs, Zz, Zc])
  refine wpList_step (fun K hK => ?_); rw [if_pos (by rfl)]; have zc := b0.cell 2; go_simp; clear zc; (try simp only [beq_self_eq_true, eqR_zz]); (try dsimp only); refine hK _ _ ?_; clear hK K; (try simp only [Act.put, Zs, Zz, Zc])
  refine wpList_step (fun K hK => ?_); rw [if_pos (by rfl)]; go_simp; (try simp (disch := omega) only [Yq, Yr]); (try simp only [beq_self_eq_true, eqR_zz]); (try dsimp only); refine hK _ _ ?_; clear hK K; (try simp only [Act.put, Zs, Zz, Zc])
  iterate 2 (refine wpList_plain rfl (fun K hK => ?_); go_simp; (try dsimp only); refine hK _ _ ?_; clear hK K; (try simp only [Act.put, Zs, Zz, Zc]))
  refine wpList_step (fun K hK => ?_); rw [if_pos (by rfl)]; go_simp; (try dsimp only); refine hK _ _ ?_; clear hK K; (try simp only [Act.put, Zs, Zz, Zc])
  refine wpList_step (fun K hK => ?_); rw [if_pos (by rfl)]; have zc := b0.cell 3; go_simp; clear zc; (try simp only [beq_self_eq_true, eqR_zz]); (try dsimp only); refine hK _ _ ?_; clear hK K; (try simp only [Act.put, Zs, Zz, Zc])
  refine wpList_step (fun K hK => ?_); rw [if_pos (by rfl)]; go_simp; (try simp (disch := omega) only [Yq, Yr]); (try simp only [beq_self_eq_true, eqR_zz]); (try dsimp only); refine hK _ _ ?_; clear hK K; (try simp only [Act.put, Zs, Zz, Zc])
  iterate 2 (refine wpList_plain rfl (fun K hK => ?_); go_simp; (try dsimp only); refine hK _ _ ?_; clear hK K; (try simp only [Act.put, Zs, Zz, Zc]))
  refine wpList_step (fun K hK => ?_); rw [if_pos (by rfl)]; go_simp; (try dsimp only); refine hK _ _ ?_; clear hK K; (try simp only [Act.put, Zs, Zz, Zc])
  refine wpList_step (fun K hK => ?_); rw [if_pos (by rfl)]; (first | (refine wp_ld 25 _ (Blk.rgn b0) (by rfl) (by rfl) Try.underlying25 rfl (by exact Try.infoR) ?_)); (try dsimp only); refine hK _ _ ?_; clear hK K; (try simp only [Act.put, Zs, Zz, Zc])
  refine wpList_step (fun K hK => ?_); rw [if_pos (by rfl)]; go_simp; (try dsimp only); refine hK _ _ ?_; clear hK K; (try simp only [Act.put, Zs, Zz, Zc])
  refine wpList_step (fun K hK => ?_); rw [if_pos (by rfl)]; (first | refine wp_eqlR _ _ (by rfl) (by rfl) (by rfl) ?_ | refine wp_eqlR (v := RV.z) _ _ (by rfl) (by rfl) (by rfl) ?_); (try simp only [beq_self_eq_true, eqR_zz]); (try dsimp only); refine hK _ _ ?_; clear hK K; (try simp only [Act.put, Zs, Zz, Zc])
  iterate 2 (refine wpList_plain rfl (fun K hK => ?_); go_simp; (try dsimp only); refine hK _ _ ?_; clear hK K; (try simp only [Act.put, Zs, Zz, Zc]))
  refine wpList_step (fun K hK => ?_); rw [if_pos (by rfl)]; go_simp; (try dsimp only); refine hK _ _ ?_; clear hK K; (try simp only [Act.put, Zs, Zz, Zc])
  refine wpList_step (fun K hK => ?_); rw [if_pos (by rfl)]; have zc := b0.cell 10; go_simp; clear zc; (try simp only [beq_self_eq_true, eqR_zz]); (try dsimp only); refine hK _ _ ?_; clear hK K; (try simp only [Act.put, Zs, Zz, Zc])
  refine wpList_step (fun K hK => ?_); rw [if_pos (by rfl)]; go_simp; (try dsimp only); refine hK _ _ ?_; clear hK K; (try simp only [Act.put, Zs, Zz, Zc])
  refine wpList_step (fun K hK => ?_); rw [if_pos (by rfl)]; go_simp; (try simp (disch := omega) only [Yq, Yr]); (try simp only [beq_self_eq_true, eqR_zz]); (try dsimp only); refine hK _ _ ?_; clear hK K; (try simp only [Act.put, Zs, Zz, Zc])
  iterate 2 (refine wpList_plain rfl (fun K hK => ?_); go_simp; (try dsimp only); refine hK _ _ ?_; clear hK K; (try simp only [Act.put, Zs, Zz, Zc]))
  refine wpList_nil ?_
  go_wp2_with fail
  go_ret
  exact ⟨rfl, hE⟩

def FormOK (t : BT) : Prop := ∀ (A : Nat → Prop) (v : TV) (w : World), isT A w t v →
  Calls Try.prog 47 #[.agg v.cs.toArray] w fun e w' => e = .returned (.bool true) ∧ Ext w w'
set_option maxRecDepth 100000 in
set_option maxHeartbeats 4000000 in
theorem rform_E : FormOK .E := by
  intro A v w ht
  have HT := ht
  obtain ⟨e1, e2, e3, e4, e5, ka, c, hk⟩ := ht
  obtain ⟨h, f, l, gg, x, k⟩ := v
  dsimp only at e1 e2 e3 e4 e5 hk
  subst h f l gg x k
  go_enter Try.func47, Try.ntmps47
  go_upto_region 1 with fail
  refine name_wX (fun W1 hW => ?_)
  have hE : Ext w W1 := by rw [hW]; repeat' (first | exact Ext.refl _ | apply Ext.al)
  have b0 : Blk W1 (w.heap.size) 28 (TV.cs ⟨0, 0, 0, 0, RV.z, .slice ka 0 c⟩) := by rw [hW]; exact Blk.newAt rfl
  clear hW
  obtain ⟨r0, hr0⟩ : ∃ r, r = w.heap.size := ⟨_, rfl⟩
  rw [← hr0] at b0
  try rw [← hr0]
  have q0 : w.heap.size ≤ r0 := by omega
  clear hr0
  have qz : r0 < W1.heap.size := b0.lt
  go_upto_region 1 with fail
  refine wp_region_lit ?_
  refine wpList_plain rfl (fun K hK => ?_); go_simp; (try dsimp only); refine hK _ _ ?_; clear hK K; (try simp only [Act.put, Zs, Zz, Zc])
  refine wpList_plain rfl (fun K hK => ?_); have zc := b0.cell 0; go_simp; clear zc; (try simp only [beq_self_eq_true]); (try dsimp only); refine hK _ _ ?_; clear hK K; (try simp only [Act.put, Zs, Zz, Zc])
  refine wpList_plain rfl (fun K hK => ?_); go_simp; (try simp (disch := omega) only [Yq, Yr]); (try simp only [beq_self_eq_true]); (try dsimp only); refine hK _ _ ?_; clear hK K; (try simp only [Act.put, Zs, Zz, Zc])
  refine wpList_nil ?_
  go_upto_region 2 with fail
  refine wp_region_lit ?_
  refine wpList_plain rfl (fun K hK => ?_); (first | (refine wp_ld 28 _ (b0.range) (by rfl) (by rfl) Try.underlying28 rfl (by exact Try.infoT) ?_)); (try dsimp only); refine hK _ _ ?_; clear hK K; (try simp only [Act.put, Zs, Zz, Zc])
  refine wpList_plain rfl (fun K hK => ?_); go_simp; (go_at_call 59; refine (rempty_E (A := A) _ _ (HT.ext hE)).mono ?_; intro e W2 hpp; obtain ⟨rfl, hx⟩ := hpp); (try dsimp only); refine hK _ _ ?_; clear hK K; (try simp only [Act.put, Zs, Zz, Zc])
  replace b0 := b0.ext hx
  replace hE := hE.trans hx
  clear hx
  replace qz : r0 < W2.heap.size := b0.lt
  refine wpList_plain rfl (fun K hK => ?_); go_simp; (try dsimp only); refine hK _ _ ?_; clear hK K; (try simp only [Act.put, Zs, Zz, Zc])
  refine wpList_nil ?_
  go_wp2_with fail
  go_ret
  exact ⟨rfl, hE⟩

set_option maxRecDepth 100000 in
set_option maxHeartbeats 4000000 in
theorem rform_N {h f l gg : Int} {a b : BT} {y : RV} (iha : FormOK a) (ihb : FormOK b) : FormOK (.N h f l gg a y b) := by
  intro A v w ht
  obtain ⟨e1, e2, e3, e4, e5, e6, g, o, c, va, vb, hk, hc, hgw, hAg, hra, hrb, ta, tb⟩ := ht
  obtain ⟨vh, vf, vl, vg, vx, vk⟩ := v
  dsimp only at e1 e2 e3 e4 e5 hk
  subst vh vf vl vg vx vk
  have hcI : (2 : Int) ≤ (c : Int) := by omega
  have hh0 : (h == 0) = false := by simpa using e6
  clear e6
  go_enter Try.func47, Try.ntmps47
  go_upto_region 1 with fail
  refine name_wX (fun W1 hW => ?_)
  have hE : Ext w W1 := by rw [hW]; repeat' (first | exact Ext.refl _ | apply Ext.al)
  have b0 : Blk W1 (w.heap.size) 28 (TV.cs ⟨h, f, l, gg, y, .slice (some ⟨g, o, none⟩) 2 c⟩) := by rw [hW]; exact Blk.newAt rfl
  clear hW
  obtain ⟨r0, hr0⟩ : ∃ r, r = w.heap.size := ⟨_, rfl⟩
  rw [← hr0] at b0
  try rw [← hr0]
  have q0 : w.heap.size ≤ r0 := by omega
  clear hr0
  have qz : r0 < W1.heap.size := b0.lt
  replace ta := isT.ext hE ta
  replace tb := isT.ext hE tb
  replace hra := rangeAt.ext hra hgw hE
  replace hrb := rangeAt.ext hrb hgw hE
  replace hgw := Nat.lt_of_lt_of_le hgw hE.below.size
  go_upto_region 1 with fail
  refine wp_region_lit ?_
  refine wpList_plain rfl (fun K hK => ?_); go_simp; (try dsimp only); refine hK _ _ ?_; clear hK K; (try simp only [Act.put, Zs, Zz, Zc])
  refine wpList_plain rfl (fun K hK => ?_); have zc := b0.cell 0; go_simp; clear zc; (try simp only [hh0]); (try dsimp only); refine hK _ _ ?_; clear hK K; (try simp only [Act.put, Zs, Zz, Zc])
  refine wpList_plain rfl (fun K hK => ?_); go_simp; (try simp (disch := omega) only [Yq, Yr]); (try simp only [hh0]); (try dsimp only); refine hK _ _ ?_; clear hK K; (try simp only [Act.put, Zs, Zz, Zc])
  refine wpList_nil ?_
  go_upto_region 3 with fail
  refine wp_region_lit ?_
  refine wpList_plain rfl (fun K hK => ?_); go_simp; (try dsimp only); refine hK _ _ ?_; clear hK K; (try simp only [Act.put, Zs, Zz, Zc])
  refine wpList_plain rfl (fun K hK => ?_); have zc := b0.cell 10; go_simp; clear zc; (try simp only [beq_self_eq_true]); (try dsimp only); refine hK _ _ ?_; clear hK K; (try simp only [Act.put, Zs, Zz, Zc])
  refine wpList_plain rfl (fun K hK => ?_); go_simp; (try dsimp only); refine hK _ _ ?_; clear hK K; (try simp only [Act.put, Zs, Zz, Zc])
  refine wpList_plain rfl (fun K hK => ?_); go_simp; (try simp (disch := omega) only [Yq, Yr]); (try simp only [beq_self_eq_true]); (try dsimp only); refine hK _ _ ?_; clear hK K; (try simp only [Act.put, Zs, Zz, Zc])
  refine wpList_plain rfl (fun K hK => ?_); go_simp; (try dsimp only); refine hK _ _ ?_; clear hK K; (try simp only [Act.put, Zs, Zz, Zc])
  refine wpList_step (fun K hK => ?_); rw [if_pos (by rfl)]; go_simp; (try dsimp only); refine hK _ _ ?_; clear hK K; (try simp only [Act.put, Zs, Zz, Zc])
  refine wpList_step (fun K hK => ?_); rw [if_pos (by rfl)]; have zc := b0.cell 10; go_simp; clear zc; (try simp only [beq_self_eq_true]); (try dsimp only); refine hK _ _ ?_; clear hK K; (try simp only [Act.put, Zs, Zz, Zc])
  refine wpList_step (fun K hK => ?_); rw [if_pos (by rfl)]; go_simp; (try dsimp only); refine hK _ _ ?_; clear hK K; (try simp only [Act.put, Zs, Zz, Zc])
  refine wpList_step (fun K hK => ?_); rw [if_pos (by rfl)]; (first | (refine wp_ld 28 _ (hra) (by rfl) (by rfl) Try.underlying28 rfl (by exact Try.infoT) ?_) | (refine wp_ld 28 _ (hrb) (by rfl) (by rfl) Try.underlying28 rfl (by exact Try.infoT) ?_)); (try dsimp only); refine hK _ _ ?_; clear hK K; (try simp only [Act.put, Zs, Zz, Zc])
  refine wpList_step (fun K hK => ?_); rw [if_pos (by rfl)]; go_simp; (go_at_call 47; refine (iha A _ _ ta).mono ?_; intro e W2 hpp; obtain ⟨rfl, hx⟩ := hpp); (try dsimp only); refine hK _ _ ?_; clear hK K; (try simp only [Act.put, Zs, Zz, Zc])
  replace b0 := b0.ext hx
  replace ta := isT.ext hx ta
  replace tb := isT.ext hx tb
  replace hra := rangeAt.ext hra hgw hx
  replace hrb := rangeAt.ext hrb hgw hx
  replace hgw := Nat.lt_of_lt_of_le hgw hx.below.size
  replace hE := hE.trans hx
  clear hx
  replace qz : r0 < W2.heap.size := b0.lt
  iterate 2 (refine wpList_plain rfl (fun K hK => ?_); go_simp; (try dsimp only); refine hK _ _ ?_; clear hK K; (try simp only [Act.put, Zs, Zz, Zc]))
  refine wpList_step (fun K hK => ?_); rw [if_pos (by rfl)]; go_simp; (try dsimp only); refine hK _ _ ?_; clear hK K; (try simp only [Act.put, Zs, Zz, Zc])
  refine wpList_step (fun K hK => ?_); rw [if_pos (by rfl)]; have zc := b0.cell 10; go_simp; clear zc; (try simp only [beq_self_eq_true]); (try dsimp only); refine hK _ _ ?_; clear hK K; (try simp only [Act.put, Zs, Zz, Zc])
  refine wpList_step (fun K hK => ?_); rw [if_pos (by rfl)]; go_simp; (try dsimp only); refine hK _ _ ?_; clear hK K; (try simp only [Act.put, Zs, Zz, Zc])
  refine wpList_step (fun K hK => ?_); rw [if_pos (by rfl)]; (first | (refine wp_ld 28 _ (hra) (by rfl) (by rfl) Try.underlying28 rfl (by exact Try.infoT) ?_) | (refine wp_ld 28 _ (hrb) (by rfl) (by rfl) Try.underlying28 rfl (by exact Try.infoT) ?_)); (try dsimp only); refine hK _ _ ?_; clear hK K; (try simp only [Act.put, Zs, Zz, Zc])
  refine wpList_step (fun K hK => ?_); rw [if_pos (by rfl)]; go_simp; (go_at_call 47; refine (ihb A _ _ tb).mono ?_; intro e W3 hpp; obtain ⟨rfl, hx⟩ := hpp); (try dsimp only); refine hK _ _ ?_; clear hK K; (try simp only [Act.put, Zs, Zz, Zc])
  replace b0 := b0.ext hx
  replace ta := isT.ext hx ta
  replace tb := isT.ext hx tb
  replace hra := rangeAt.ext hra hgw hx
  replace hrb := rangeAt.ext hrb hgw hx
  replace hgw := Nat.lt_of_lt_of_le hgw hx.below.size
  replace hE := hE.trans hx
  clear hx
  replace qz : r0 < W3.heap.size := b0.lt
  iterate 2 (refine wpList_plain rfl (fun K hK => ?_); go_simp; (try dsimp only); refine hK _ _ ?_; clear hK K; (try simp only [Act.put, Zs, Zz, Zc]))
  refine wpList_nil ?_
  go_wp2_with fail
  go_ret
  exact ⟨rfl, hE⟩
theorem rform_P : ∀ t : BT, FormOK t
  | .E => rform_E
  | .N _ _ _ _ a _ b => rform_N (rform_P a) (rform_P b)
def RegsOK (t : BT) : Prop := ∀ (A : Nat → Prop) (base : Nat) (L : List RV) (u : Value) (v : TV) (w : World), ownR w base u L → isT A w t v → (∀ g, A g → NR w u g) → base ≤ w.heap.size → L.length + t.regs.length ≤ 90000 →
  Calls Try.prog 48 #[.agg v.cs.toArray, u] w fun e w' => ∃ u', e = .returned u' ∧ ownR w' base u' (L ++ t.regs) ∧ RW w u.ownBlock w' u'
set_option maxRecDepth 100000 in
set_option maxHeartbeats 4000000 in
theorem rregs_E : RegsOK .E := by
  intro A base L u v w hown ht hAK hb hlen
  obtain ⟨ad, cu, rfl⟩ := hown.shape
  obtain ⟨e1, e2, e3, e4, e5, ka, c, hk⟩ := ht
  obtain ⟨h, f, l, gg, x, k⟩ := v
  dsimp only at e1 e2 e3 e4 e5 hk
  subst h f l gg x k
  go_enter Try.func48, Try.ntmps48
  go_upto_region 1 with fail
  refine name_wX (fun W1 hW => ?_)
  have hE : Ext w W1 := by rw [hW]; repeat' (first | exact Ext.refl _ | apply Ext.al)
  have b0 : Blk W1 (w.heap.size) 28 (TV.cs ⟨0, 0, 0, 0, RV.z, .slice ka 0 c⟩) := by rw [hW]; exact Blk.newAt rfl
  clear hW
  obtain ⟨r0, hr0⟩ : ∃ r, r = w.heap.size := ⟨_, rfl⟩
  rw [← hr0] at b0
  try rw [← hr0]
  have q0 : w.heap.size ≤ r0 := by omega
  clear hr0
  have qz : r0 < W1.heap.size := b0.lt
  go_upto_region 1 with fail
  refine wp_region_lit ?_
  refine wpList_plain rfl (fun K hK => ?_); go_simp; (try dsimp only); refine hK _ _ ?_; clear hK K; (try simp only [Act.put, Zs, Zz, Zc])
  refine wpList_plain rfl (fun K hK => ?_); have zc := b0.cell 0; go_simp; clear zc; (try simp only [beq_self_eq_true]); (try dsimp only); refine hK _ _ ?_; clear hK K; (try simp only [Act.put, Zs, Zz, Zc])
  refine wpList_plain rfl (fun K hK => ?_); go_simp; (try simp (disch := omega) only [Yq, Yr]); (try simp only [beq_self_eq_true]); (try dsimp only); refine hK _ _ ?_; clear hK K; (try simp only [Act.put, Zs, Zz, Zc])
  refine wpList_nil ?_
  go_upto_region 2 with fail
  refine wp_region_lit ?_
  iterate 2 (refine wpList_plain rfl (fun K hK => ?_); go_simp; (try dsimp only); refine hK _ _ ?_; clear hK K; (try simp only [Act.put, Zs, Zz, Zc]))
  refine wpList_nil ?_
  go_wp2_with fail
  go_ret
  exact ⟨_, rfl, by simpa [BT.regs] using hown.ext hE, RW.of_ext hE⟩

set_option maxRecDepth 100000 in
set_option maxHeartbeats 4000000 in
theorem rregs_N {h f l gg : Int} {a b : BT} {y : RV} (iha : RegsOK a) (ihb : RegsOK b) : RegsOK (.N h f l gg a y b) := by
  intro A base L u v w hown ht hAK hb hlen
  obtain ⟨ad, cu, rfl⟩ := hown.shape
  have hl1 : L.length + a.regs.length ≤ 90000 := by simp only [BT.regs, List.length_append, List.length_cons] at hlen; omega
  have hl2 : (L ++ a.regs).length + [y].length ≤ 100000 := by simp only [BT.regs, List.length_append, List.length_cons, List.length_nil] at hlen ⊢; omega
  have hl3 : (L ++ a.regs ++ [y]).length + b.regs.length ≤ 90000 := by simp only [BT.regs, List.length_append, List.length_cons, List.length_nil] at hlen ⊢; omega
  replace hl1 : Hid _ := hl1
  replace hl2 : Hid _ := hl2
  replace hl3 : Hid _ := hl3
  clear hlen
  obtain ⟨e1, e2, e3, e4, e5, e6, g, o, c, va, vb, hk, hc, hgw, hAg, hra, hrb, ta, tb⟩ := ht
  obtain ⟨vh, vf, vl, vg, vx, vk⟩ := v
  dsimp only at e1 e2 e3 e4 e5 hk
  subst vh vf vl vg vx vk
  have hcI : (2 : Int) ≤ (c : Int) := by omega
  have hh0 : (h == 0) = false := by simpa using e6
  clear e6
  go_enter Try.func48, Try.ntmps48
  go_upto_region 1 with fail
  refine name_wX (fun W1 hW => ?_)
  have hE : Ext w W1 := by rw [hW]; repeat' (first | exact Ext.refl _ | apply Ext.al)
  have b0 : Blk W1 (w.heap.size) 28 (TV.cs ⟨h, f, l, gg, y, .slice (some ⟨g, o, none⟩) 2 c⟩) := by rw [hW]; exact Blk.newAt rfl
  clear hW
  obtain ⟨r0, hr0⟩ : ∃ r, r = w.heap.size := ⟨_, rfl⟩
  rw [← hr0] at b0
  try rw [← hr0]
  have q0 : w.heap.size ≤ r0 := by omega
  clear hr0
  have qz : r0 < W1.heap.size := b0.lt
  have k0 : NR W1 (.slice ad L.length cu) r0 := ⟨qz, fun he => by have := (hown.lt r0 he).2; omega⟩
  replace ta := isT.ext hE ta
  replace tb := isT.ext hE tb
  replace hra := rangeAt.ext hra hgw hE
  replace hrb := rangeAt.ext hrb hgw hE
  replace hgw := Nat.lt_of_lt_of_le hgw hE.below.size
  replace hown := hown.ext hE
  replace hAK : ∀ q, A q → NR W1 (.slice ad L.length cu) q := fun q hq => (hAK q hq).ext hE
  replace hb := Nat.le_trans hb hE.below.size
  have hE0 : RW w (Value.slice ad L.length cu).ownBlock W1 (.slice ad L.length cu) := RW.of_ext hE
  clear hE
  have hE := hE0
  clear hE0
  go_upto_region 1 with fail
  refine wp_region_lit ?_
  refine wpList_plain rfl (fun K hK => ?_); go_simp; (try dsimp only); refine hK _ _ ?_; clear hK K; (try simp only [Act.put, Zs, Zz, Zc])
  refine wpList_plain rfl (fun K hK => ?_); have zc := b0.cell 0; go_simp; clear zc; (try simp only [hh0]); (try dsimp only); refine hK _ _ ?_; clear hK K; (try simp only [Act.put, Zs, Zz, Zc])
  refine wpList_plain rfl (fun K hK => ?_); go_simp; (try simp (disch := omega) only [Yq, Yr]); (try simp only [hh0]); (try dsimp only); refine hK _ _ ?_; clear hK K; (try simp only [Act.put, Zs, Zz, Zc])
  refine wpList_nil ?_
  go_upto_region 3 with fail
  refine wp_region_lit ?_
  refine wpList_plain rfl (fun K hK => ?_); go_simp; (try dsimp only); refine hK _ _ ?_; clear hK K; (try simp only [Act.put, Zs, Zz, Zc])
  refine wpList_plain rfl (fun K hK => ?_); have zc := b0.cell 10; go_simp; clear zc; (try dsimp only); refine hK _ _ ?_; clear hK K; (try simp only [Act.put, Zs, Zz, Zc])
  refine wpList_plain rfl (fun K hK => ?_); go_simp; (try dsimp only); refine hK _ _ ?_; clear hK K; (try simp only [Act.put, Zs, Zz, Zc])
  refine wpList_plain rfl (fun K hK => ?_); (first | (refine wp_ld 28 _ (hra) (by rfl) (by rfl) Try.underlying28 rfl (by exact Try.infoT) ?_) | (refine wp_ld 28 _ (hrb) (by rfl) (by rfl) Try.underlying28 rfl (by exact Try.infoT) ?_)); (try dsimp only); refine hK _ _ ?_; clear hK K; (try simp only [Act.put, Zs, Zz, Zc])
  refine wpList_plain rfl (fun K hK => ?_); go_simp; (try dsimp only); refine hK _ _ ?_; clear hK K; (try simp only [Act.put, Zs, Zz, Zc])
  refine wpList_plain rfl (fun K hK => ?_); go_simp; (go_at_call 48; refine (iha A base L _ _ _ hown ta hAK hb hl1.out).mono ?_; intro e W2 hpp; obtain ⟨u1, rfl, hown2, hx⟩ := hpp); (try dsimp only); refine hK _ _ ?_; clear hK K; (try simp only [Act.put, Zs, Zz, Zc])
  replace b0 := RW.blk hx k0 b0
  replace ta := isT.rw hx hAK ta
  replace tb := isT.rw hx hAK tb
  replace hra := RW.range hx (hAK g hAg) hra
  replace hrb := RW.range hx (hAK g hAg) hrb
  replace hgw := Nat.lt_of_lt_of_le hgw hx.g.size
  replace hb := Nat.le_trans hb hx.g.size
  replace k0 := NR.rw k0 hx
  replace hAK := (fun q hq => (hAK q hq).rw hx)
  replace hE := RW.trans hE hx
  clear hx
  replace qz : r0 < W2.heap.size := b0.lt
  clear hown
  have hown := hown2
  clear hown2
  refine wpList_plain rfl (fun K hK => ?_); go_simp; (try dsimp only); refine hK _ _ ?_; clear hK K; (try simp only [Act.put, Zs, Zz, Zc])
  refine wpList_nil ?_
  go_upto_region 4 with fail
  refine wp_region_lit ?_
  iterate 2 (refine wpList_plain rfl (fun K hK => ?_); go_simp; (try dsimp only); refine hK _ _ ?_; clear hK K; (try simp only [Act.put, Zs, Zz, Zc]))
  refine wpList_plain rfl (fun K hK => ?_); refine wp_ld 25 _ (Blk.rgn b0) (by rfl) (by rfl) Try.underlying25 rfl (by exact Try.infoR) ?_; (try dsimp only); refine hK _ _ ?_; clear hK K; (try simp only [Act.put, Zs, Zz, Zc])
  refine wpList_plain rfl (fun K hK => ?_); refine wp_bs1 _ (by rfl) (by rfl) ?_; (try dsimp only); refine hK _ _ ?_; clear hK K; (try simp only [Act.put, Zs, Zz, Zc])
  refine name_wl (fun W3 hW => ?_)
  have hx : Ext W2 W3 := by rw [hW]; exact ext_alloc _ _
  have bs : Blk W3 W2.heap.size 25 y.cs := by rw [hW]; exact Blk.newAt rfl
  clear hW
  replace hown := hown.ext hx
  replace b0 := b0.ext hx
  replace ta := isT.ext hx ta
  replace tb := isT.ext hx tb
  replace hra := rangeAt.ext hra hgw hx
  replace hrb := rangeAt.ext hrb hgw hx
  replace hgw := Nat.lt_of_lt_of_le hgw hx.below.size
  replace hb := Nat.le_trans hb hx.below.size
  replace k0 := NR.ext k0 hx
  replace hAK := (fun q hq => (hAK q hq).ext hx)
  replace hE := hE.ext hx
  clear hx
  refine wpList_plain rfl (fun K hK => ?_); refine wp_app _ _ (by rfl) (by rfl) hown (ys := [y]) (by rfl) rfl (by simpa [rF] using bs.range) hl2.out hb (fun u2 W4 hown2 hgr hat => ?_); (try dsimp only); refine hK _ _ ?_; clear hK K; (try simp only [Act.put, Zs, Zz, Zc])
  have hx : RW W3 u1.ownBlock W4 u2 := ⟨hgr, hat.imp_right (fun e => ⟨_, e, Nat.le_refl _⟩)⟩
  clear hgr hat bs
  replace b0 := RW.blk hx k0 b0
  replace ta := isT.rw hx hAK ta
  replace tb := isT.rw hx hAK tb
  replace hra := RW.range hx (hAK g hAg) hra
  replace hrb := RW.range hx (hAK g hAg) hrb
  replace hgw := Nat.lt_of_lt_of_le hgw hx.g.size
  replace hb := Nat.le_trans hb hx.g.size
  replace k0 := NR.rw k0 hx
  replace hAK := (fun q hq => (hAK q hq).rw hx)
  replace hE := hE.trans hx
  clear hx hown
  have hown := hown2
  clear hown2
  replace qz : r0 < W4.heap.size := b0.lt
  refine wpList_plain rfl (fun K hK => ?_); go_simp; (try dsimp only); refine hK _ _ ?_; clear hK K; (try simp only [Act.put, Zs, Zz, Zc])
  refine wpList_nil ?_
  go_upto_region 5 with fail
  refine wp_region_lit ?_
  refine wpList_plain rfl (fun K hK => ?_); go_simp; (try dsimp only); refine hK _ _ ?_; clear hK K; (try simp only [Act.put, Zs, Zz, Zc])
  refine wpList_plain rfl (fun K hK => ?_); have zc := b0.cell 10; go_simp; clear zc; (try dsimp only); refine hK _ _ ?_; clear hK K; (try simp only [Act.put, Zs, Zz, Zc])
  refine wpList_plain rfl (fun K hK => ?_); go_simp; (try dsimp only); refine hK _ _ ?_; clear hK K; (try simp only [Act.put, Zs, Zz, Zc])
  refine wpList_plain rfl (fun K hK => ?_); (first | (refine wp_ld 28 _ (hra) (by rfl) (by rfl) Try.underlying28 rfl (by exact Try.infoT) ?_) | (refine wp_ld 28 _ (hrb) (by rfl) (by rfl) Try.underlying28 rfl (by exact Try.infoT) ?_)); (try dsimp only); refine hK _ _ ?_; clear hK K; (try simp only [Act.put, Zs, Zz, Zc])
  refine wpList_plain rfl (fun K hK => ?_); go_simp; (try dsimp only); refine hK _ _ ?_; clear hK K; (try simp only [Act.put, Zs, Zz, Zc])
  refine wpList_plain rfl (fun K hK => ?_); go_simp; (go_at_call 48; refine (ihb A base _ _ _ _ hown tb hAK hb hl3.out).mono ?_; intro e W5 hpp; obtain ⟨u3, rfl, hown2, hx⟩ := hpp); (try dsimp only); refine hK _ _ ?_; clear hK K; (try simp only [Act.put, Zs, Zz, Zc])
  replace b0 := RW.blk hx k0 b0
  replace ta := isT.rw hx hAK ta
  replace tb := isT.rw hx hAK tb
  replace hra := RW.range hx (hAK g hAg) hra
  replace hrb := RW.range hx (hAK g hAg) hrb
  replace hgw := Nat.lt_of_lt_of_le hgw hx.g.size
  replace hb := Nat.le_trans hb hx.g.size
  replace k0 := NR.rw k0 hx
  replace hAK := (fun q hq => (hAK q hq).rw hx)
  replace hE := RW.trans hE hx
  clear hx
  replace qz : r0 < W5.heap.size := b0.lt
  clear hown
  have hown := hown2
  clear hown2
  refine wpList_plain rfl (fun K hK => ?_); go_simp; (try dsimp only); refine hK _ _ ?_; clear hK K; (try simp only [Act.put, Zs, Zz, Zc])
  refine wpList_nil ?_
  go_wp2_with fail
  go_ret
  exact ⟨u3, rfl, by simpa [BT.regs] using hown, hE⟩
theorem rregs_P : ∀ t : BT, RegsOK t
  | .E => rregs_E
  | .N _ _ _ _ a _ b => rregs_N (rregs_P a) (rregs_P b)
/-- The list of a tree's regions, made anew. -/
theorem rregs_any {A : Nat → Prop} (t : BT) (v : TV) (w : World) (ht : isT A w t v) (hl : t.regs.length ≤ 90000) :
    Calls Try.prog 48 #[.agg v.cs.toArray, .slice none 0 0] w fun e w' => ∃ u', e = .returned u' ∧ ownR w' w.heap.size u' t.regs ∧ Ext w w' :=
  (rregs_P t (Lw A w.heap.size) w.heap.size [] _ v w (ownR_nil _ _) ht.lw (fun g hg => ⟨hg.2, by simp [Value.ownBlock]⟩) (Nat.le_refl _) (by simpa using hl)).mono fun e w' ⟨u', he, ho, hE⟩ => ⟨u', he, by simpa using ho, Ext.of_below (below_of_grown hE.g (Nat.le_refl _) (fun r hr => by simp [Value.ownBlock] at hr))⟩

end Go.Proofs.Ytnbohogkfdeddaa

set_option linter.unusedSimpArgs false
set_option linter.unusedVariables false
namespace Go.Proofs.Ytnbohogkfdeddaa
open Go.RowKit

/-- A node's numbers are right, as the reference asks it. -/
def okV (m n l r : TV) : Bool := (((((m.h == n.h) && (m.f == n.f)) && (m.l == n.l)) && (m.g == n.g)) && decide (l.h ≤ r.h + 1)) && decide (r.h ≤ l.h + 1)
def okN : BT → Bool
  | .E => true
  | .N h f l g a y b => okV ⟨h, f, l, g, y, .int .i64 0⟩ (nodeV (a.tv (.int .i64 0)) y (b.tv (.int .i64 0)) (.int .i64 0)) (a.tv (.int .i64 0)) (b.tv (.int .i64 0))
def numR : BT → Bool
  | .E => true
  | .N h f l g a y b => numR a && numR b && okN (.N h f l g a y b)
def BT.dp : BT → Int
  | .E => 0
  | .N _ _ _ _ a _ b => 1 + max a.dp b.dp
theorem BT.dp_nn : ∀ t : BT, 0 ≤ t.dp
  | .E => Int.le_refl _
  | .N _ _ _ _ a _ b => by have := BT.dp_nn a; have := BT.dp_nn b; simp only [BT.dp]; omega
theorem BT.dp_len : ∀ t : BT, t.dp ≤ t.regs.length
  | .E => by simp [BT.dp, BT.regs]
  | .N _ _ _ _ a _ b => by
    have := BT.dp_len a
    have := BT.dp_len b
    simp only [BT.dp, BT.regs, List.length_append, List.length_cons]
    omega
theorem numR_h : ∀ t : BT, numR t = true → t.dp ≤ 1000 → t.h = t.dp
  | .E, _, _ => rfl
  | .N h f l g a y b, hn, hd => by
    simp only [numR, Bool.and_eq_true] at hn
    obtain ⟨⟨h1, h2⟩, h3⟩ := hn
    have na := BT.dp_nn a
    have nb := BT.dp_nn b
    simp only [BT.dp] at hd
    have e1 := numR_h a h1 (by omega)
    have e2 := numR_h b h2 (by omega)
    simp only [okN, okV, Bool.and_eq_true, beq_iff_eq] at h3
    have h4 : h = W64 (1 + mx (a.tv (.int .i64 0)).h (b.tv (.int .i64 0)).h) := h3.1.1.1.1.1
    rw [tv_h, tv_h, e1, e2, mx_max, W64_in (by omega)] at h4
    show h = 1 + max a.dp b.dp
    exact h4
theorem okN_eq {A : Nat → Prop} {w : World} {h f l g : Int} {a b : BT} {y : RV} {va vb : TV} (k : Value) (ta : isT A w a va) (tb : isT A w b vb) :
    okV ⟨h, f, l, g, y, k⟩ (nodeV va y vb k) va vb = okN (.N h f l g a y b) := by
  rw [isT_tv ta, isT_tv tb]
  have e := nodeV_k a b y k va.k vb.k
  simp only [okN, okV, tv_h, e]
  cases a <;> cases b <;> rfl
def NumROK (t : BT) : Prop := ∀ (A : Nat → Prop) (v : TV) (w : World), isT A w t v → (∀ x ∈ t.regs, vld x) → t.dp ≤ 1000 →
  Calls Try.prog 49 #[.agg v.cs.toArray] w fun e w' => e = .returned (.bool (numR t)) ∧ Ext w w'
set_option maxRecDepth 100000 in
set_option maxHeartbeats 4000000 in
theorem rnum_E : NumROK .E := by
  intro A v w ht hv hd
  obtain ⟨e1, e2, e3, e4, e5, ka, c, hk⟩ := ht
  obtain ⟨h, f, l, gg, x, k⟩ := v
  dsimp only at e1 e2 e3 e4 e5 hk
  subst h f l gg x k
  go_enter Try.func49, Try.ntmps49
  go_upto_region 1 with fail
  refine name_wX (fun W1 hW => ?_)
  have hE : Ext w W1 := by rw [hW]; repeat' (first | exact Ext.refl _ | apply Ext.al)
  have b0 : Blk W1 (w.heap.size) 28 (TV.cs ⟨0, 0, 0, 0, RV.z, .slice ka 0 c⟩) := by rw [hW]; exact Blk.newAt rfl
  clear hW
  obtain ⟨r0, hr0⟩ : ∃ r, r = w.heap.size := ⟨_, rfl⟩
  rw [← hr0] at b0
  try rw [← hr0]
  have q0 : w.heap.size ≤ r0 := by omega
  clear hr0
  have qz : r0 < W1.heap.size := b0.lt
  go_upto_region 1 with fail
  refine wp_region_lit ?_
  have zc0 := b0.cell 0
  iterate 3 (refine wpList_plain rfl (fun K hK => ?_); go_simp; (try simp only [beq_self_eq_true]); (try dsimp only); refine hK _ _ ?_; clear hK K; (try simp only [Act.put, Zs, Zz, Zc]))
  clear zc0
  refine wpList_nil ?_
  go_upto_region 2 with fail
  refine wp_region_lit ?_
  refine wpList_plain rfl (fun K hK => ?_); go_simp; (try dsimp only); refine hK _ _ ?_; clear hK K; (try simp only [Act.put, Zs, Zz, Zc])
  refine wpList_nil ?_
  go_wp2_with fail
  go_ret
  exact ⟨rfl, hE⟩

theorem rnum_is {t : BT} (ih : NumROK t) {A : Nat → Prop} {v : TV} {w : World} (ht : isT A w t v) (hv : ∀ x ∈ t.regs, vld x) (hd : t.dp ≤ 1000) {b : Bool} (hb : numR t = b) :
    Calls Try.prog 49 #[.agg v.cs.toArray] w fun e w' => e = .returned (.bool b) ∧ Ext w w' := by
  subst hb
  exact ih A v w ht hv hd
set_option maxRecDepth 100000 in
set_option maxHeartbeats 4000000 in
theorem rnum_f {h f l gg : Int} {a b : BT} {y : RV} (iha : NumROK a) (ihb : NumROK b) (h1 : numR a = false) (A : Nat → Prop) (v : TV) (w : World) (ht : isT A w (.N h f l gg a y b) v) (hv : ∀ x ∈ (BT.N h f l gg a y b).regs, vld x) (hd : (BT.N h f l gg a y b).dp ≤ 1000) :
    Calls Try.prog 49 #[.agg v.cs.toArray] w fun e w' => e = .returned (.bool (numR (.N h f l gg a y b))) ∧ Ext w w' := by
  have hva : ∀ x ∈ a.regs, vld x := fun x hx => hv x (by simp [BT.regs, hx])
  have hvb : ∀ x ∈ b.regs, vld x := fun x hx => hv x (by simp [BT.regs, hx])
  have hvy : vld y := hv y (by simp [BT.regs])
  have hda : a.dp ≤ 999 ∧ b.dp ≤ 999 := by have := BT.dp_nn a; have := BT.dp_nn b; simp only [BT.dp] at hd; omega
  clear hv hd
  replace ht := ht.lw
  obtain ⟨e1, e2, e3, e4, e5, e6, g, o, c, va, vb, hk, hc, hg1, hAg, hra1, hrb1, ta, tb⟩ := ht
  have HN := okN_eq (h := h) (f := f) (l := l) (g := gg) (y := y) (.int .i64 0) ta tb
  have na : va.h = a.h := by rw [isT_tv ta, tv_h]
  have nb : vb.h = b.h := by rw [isT_tv tb, tv_h]
  obtain ⟨vh, vf, vl, vg, vx, vk⟩ := v
  dsimp only at e1 e2 e3 e4 e5 hk
  subst vh vf vl vg vx vk
  have hcI : (2 : Int) ≤ (c : Int) := by omega
  have hgw1 := hg1
  have hh0 : (h == 0) = false := by simpa using e6
  clear e6
  have HR : numR (.N h f l gg a y b) = false := by simp [numR, h1]
  replace h1 : Hid _ := h1
  replace HR : Hid _ := HR
  replace HN : Hid _ := HN
  clear na nb
  go_enter Try.func49, Try.ntmps49
  go_upto_region 1 with fail
  refine name_wX (fun W1 hW => ?_)
  have hE : Ext w W1 := by rw [hW]; repeat' (first | exact Ext.refl _ | apply Ext.al)
  have b0 : Blk W1 (w.heap.size) 28 (TV.cs ⟨h, f, l, gg, y, .slice (some ⟨g, o, none⟩) 2 c⟩) := by rw [hW]; exact Blk.newAt rfl
  clear hW
  obtain ⟨r0, hr0⟩ : ∃ r, r = w.heap.size := ⟨_, rfl⟩
  rw [← hr0] at b0
  try rw [← hr0]
  have q0 : w.heap.size ≤ r0 := by omega
  clear hr0
  have qz : r0 < W1.heap.size := b0.lt
  replace ta := isT.ext hE ta
  replace tb := isT.ext hE tb
  replace hra1 := rangeAt.ext hra1 hg1 hE
  replace hrb1 := rangeAt.ext hrb1 hg1 hE
  replace hg1 := Nat.lt_of_lt_of_le hg1 hE.below.size
  go_upto_region 1 with fail
  refine wp_region_lit ?_
  have zc0 := b0.cell 0
  iterate 3 (refine wpList_plain rfl (fun K hK => ?_); go_simp; (try simp only [hh0]); (try dsimp only); refine hK _ _ ?_; clear hK K; (try simp only [Act.put, Zs, Zz, Zc]))
  clear zc0
  refine wpList_nil ?_
  go_upto_region 3 with fail
  have ya1 := hra1
  have yb1 := hrb1
  have yg1 := hg1
  go_cut [3, 4] (fun sva svb wc => ∃ sra srb : Nat, sva = .pointer (some ⟨sra, 0, none⟩) ∧ svb = .pointer (some ⟨srb, 0, none⟩) ∧ r0 < sra ∧ r0 < srb ∧ sra ≠ srb ∧ Blk wc sra 28 va.cs ∧ Blk wc srb 28 vb.cs ∧ Ext W1 wc)
  case first =>
    have hEz : Ext W1 W1 := Ext.refl _
    have x0 := b0
    obtain ⟨mX, hmX⟩ : ∃ m, m = W1.heap.size := ⟨_, rfl⟩
    have hS : GrownX W1 [] W1 := GrownX.refl _ _
    refine wp_region_S (GrownX W1 []) (by kernel_rfl) ?_
    refine name_wd (fun W2 hW => ?_)
    have hx : Ext W1 W2 := by rw [hW]; exact ext_drew _
    clear hW
    replace hS := hS.ext hx
    replace b0 := b0.ext hx
    replace ta := isT.ext hx ta
    replace tb := isT.ext hx tb
    replace hra1 := rangeAt.ext hra1 hg1 hx
    replace hrb1 := rangeAt.ext hrb1 hg1 hx
    replace hg1 := Nat.lt_of_lt_of_le hg1 hx.below.size
    replace hEz := hEz.trans hx
    replace hE := hE.trans hx
    clear hx
    replace qz : r0 < W2.heap.size := b0.lt
    refine wpAnyD_takeSL (i := 0) rfl (by kernel_rfl) (fun _ _ _ _ h => h) hS ?_
    apply Exists.intro
    refine ⟨Or.inl ⟨by rfl, ?_⟩, ?_⟩
    (focus (intro wz hz; go_simp; (try with_reducible rfl); done))
    (try simp only [Act.put, Zs, Zz, Zc])
    refine wpAnyD_takeSL (i := 1) rfl (by kernel_rfl) (fun _ _ _ _ h => h) hS ?_
    apply Exists.intro
    refine ⟨Or.inl ⟨by rfl, ?_⟩, ?_⟩
    (focus (intro wz hz; have zc := (GrownX.blk hz x0 (by first | decide | (simp; done) | (simp; omega) | omega)).cell 10; go_simp; (try with_reducible rfl); done))
    (try simp only [Act.put, Zs, Zz, Zc])
    refine wpAnyD_takeSL (i := 2) rfl (by kernel_rfl) (fun _ _ _ _ h => h) hS ?_
    apply Exists.intro
    refine ⟨Or.inl ⟨by rfl, ?_⟩, ?_⟩
    (focus (intro wz hz; go_simp; (try with_reducible rfl); done))
    (try simp only [Act.put, Zs, Zz, Zc])
    refine wpAnyD_takeSL (i := 3) rfl (by kernel_rfl) (fun _ _ _ _ h => h) hS ?_
    apply Exists.intro
    refine ⟨Or.inl ⟨by rfl, ?_⟩, ?_⟩
    (focus (intro wz hz; (first | exact exec_ld 28 _ rfl rfl (GrownX.range hz (ya1) (yg1) (by first | decide | (simp; done) | (simp; omega) | omega)) Try.underlying28 rfl (by exact Try.infoT) | exact exec_ld 28 _ rfl rfl (GrownX.range hz (yb1) (yg1) (by first | decide | (simp; done) | (simp; omega) | omega)) Try.underlying28 rfl (by exact Try.infoT))))
    (try simp only [Act.put, Zs, Zz, Zc])
    refine wpAnyD_takeSL (i := 4) rfl (by kernel_rfl) (fun _ _ _ _ h => h) hS ?_
    apply Exists.intro
    refine ⟨Or.inl ⟨by rfl, ?_⟩, ?_⟩
    (focus (intro wz hz; go_simp; (try with_reducible rfl); done))
    (try simp only [Act.put, Zs, Zz, Zc])
    refine wpAnyD_takeSL (i := 5) rfl (by kernel_rfl) (fun _ _ _ _ h => h) hS ?_
    apply Exists.intro
    refine ⟨Or.inl ⟨by rfl, ?_⟩, ?_⟩
    (focus (intro wz hz; have zc := (GrownX.blk hz x0 (by first | decide | (simp; done) | (simp; omega) | omega)).cell 10; go_simp; (try with_reducible rfl); done))
    (try simp only [Act.put, Zs, Zz, Zc])
    refine wpAnyD_takeSL (i := 6) rfl (by kernel_rfl) (fun _ _ _ _ h => h) hS ?_
    apply Exists.intro
    refine ⟨Or.inl ⟨by rfl, ?_⟩, ?_⟩
    (focus (intro wz hz; go_simp; (try with_reducible rfl); done))
    (try simp only [Act.put, Zs, Zz, Zc])
    refine wpAnyD_takeSL (i := 7) rfl (by kernel_rfl) (fun _ _ _ _ h => h) hS ?_
    apply Exists.intro
    refine ⟨Or.inl ⟨by rfl, ?_⟩, ?_⟩
    (focus (intro wz hz; (first | exact exec_ld 28 _ rfl rfl (GrownX.range hz (ya1) (yg1) (by first | decide | (simp; done) | (simp; omega) | omega)) Try.underlying28 rfl (by exact Try.infoT) | exact exec_ld 28 _ rfl rfl (GrownX.range hz (yb1) (yg1) (by first | decide | (simp; done) | (simp; omega) | omega)) Try.underlying28 rfl (by exact Try.infoT))))
    (try simp only [Act.put, Zs, Zz, Zc])
    refine wpAnyD_many [8, 9] (by kernel_rfl) (by simp) (AllD_consL rfl (fun K hK => ?_) (AllD_consL rfl (fun K hK => ?_) AllD_nil))
    · rw [if_pos (by rfl)]
      have qb : mX ≤ W2.heap.size := (by rw [hmX]; exact hS.size)
      go_simp
      (try dsimp only); refine hK.out _ _ (fun _ => hS.ext (ext_alloc _ _)) ?_; clear hK K; (try simp only [Act.put, Zs, Zz, Zc])
      refine name_wd (fun W33 hW => ?_)
      have hx : Ext W2 W33 := by rw [hW]; exact ext_alloc _ _
      have b1 : Blk W33 W2.heap.size 28 TV.z.cs := by rw [hW]; exact Blk.newAt rfl
      clear hW
      replace hS := hS.ext hx
      replace b0 := b0.ext hx
      replace ta := isT.ext hx ta
      replace tb := isT.ext hx tb
      replace hra1 := rangeAt.ext hra1 hg1 hx
      replace hrb1 := rangeAt.ext hrb1 hg1 hx
      replace hg1 := Nat.lt_of_lt_of_le hg1 hx.below.size
      replace hEz := hEz.trans hx
      replace hE := hE.trans hx
      clear hx
      obtain ⟨r1, hr⟩ : ∃ r, r = W2.heap.size := ⟨_, rfl⟩
      rw [← hr] at b1
      try rw [← hr]
      have q1 : r0 < r1 := by omega
      have qb1 : mX ≤ r1 := by omega
      clear hr
      replace qz : r1 < W33.heap.size := b1.lt
      refine wpAnyD_oneL (i := 9) rfl (by kernel_rfl) (fun K hK => ?_)
      rw [if_pos (by rfl)]
      have qb : mX ≤ W33.heap.size := (by rw [hmX]; exact hS.size)
      go_simp
      (try dsimp only); refine hK.out _ _ (fun _ => hS.ext (ext_alloc _ _)) ?_; clear hK K; (try simp only [Act.put, Zs, Zz, Zc])
      refine name_wd (fun W34 hW => ?_)
      have hx : Ext W33 W34 := by rw [hW]; exact ext_alloc _ _
      have b2 : Blk W34 W33.heap.size 28 TV.z.cs := by rw [hW]; exact Blk.newAt rfl
      clear hW
      replace hS := hS.ext hx
      replace b0 := b0.ext hx
      replace b1 := b1.ext hx
      replace ta := isT.ext hx ta
      replace tb := isT.ext hx tb
      replace hra1 := rangeAt.ext hra1 hg1 hx
      replace hrb1 := rangeAt.ext hrb1 hg1 hx
      replace hg1 := Nat.lt_of_lt_of_le hg1 hx.below.size
      replace hEz := hEz.trans hx
      replace hE := hE.trans hx
      clear hx
      obtain ⟨r2, hr⟩ : ∃ r, r = W33.heap.size := ⟨_, rfl⟩
      rw [← hr] at b2
      try rw [← hr]
      have q2 : r1 < r2 := by omega
      have qb2 : mX ≤ r2 := by omega
      clear hr
      replace qz : r2 < W34.heap.size := b2.lt
      refine wpAnyD_oneL (i := 10) rfl (by kernel_rfl) (fun K hK => ?_)
      rw [if_pos (by rfl)]
      refine wp_store_box 28 _ _ (by rfl) b1 (by rfl) (by rfl) (by exact Try.infoT) (by first | exact RV.one _ | exact TV.one _ rfl | exact TV.one _ (isT.one ta) | exact TV.one _ (isT.one tb)) (by rfl) (fun W35 hg bn => ?_)
      replace b0 := b0.kept hg (Zn (by omega))
      replace b2 := b2.kept hg (Zn (by omega))
      replace ta := isT.kept hg (Lw.not (by omega)) ta
      replace tb := isT.kept hg (Lw.not (by omega)) tb
      replace hra1 := rangeAt.kept hra1 hg1 hg (Zn (by omega))
      replace hrb1 := rangeAt.kept hrb1 hg1 hg (Zn (by omega))
      replace hg1 := Nat.lt_of_lt_of_le hg1 hg.size
      replace hEz := ext_grow hEz hg (fun q hq => by cases hq; omega)
      replace hE := ext_grow hE hg (fun q hq => by cases hq; omega)
      replace hS := hS.stepNew hg (by omega)
      clear b1 hg
      have b1 := bn
      clear bn
      (try dsimp only); refine hK.out _ _ (fun _ => hS) ?_; clear hK K; (try simp only [Act.put, Zs, Zz, Zc])
      replace qz : r2 < W35.heap.size := b2.lt
      refine wpAnyD_oneL (i := 11) rfl (by kernel_rfl) (fun K hK => ?_)
      rw [if_pos (by rfl)]
      refine wp_store_box 28 _ _ (by rfl) b2 (by rfl) (by rfl) (by exact Try.infoT) (by first | exact RV.one _ | exact TV.one _ rfl | exact TV.one _ (isT.one ta) | exact TV.one _ (isT.one tb)) (by rfl) (fun W36 hg bn => ?_)
      replace b0 := b0.kept hg (Zn (by omega))
      replace b1 := b1.kept hg (Zn (by omega))
      replace ta := isT.kept hg (Lw.not (by omega)) ta
      replace tb := isT.kept hg (Lw.not (by omega)) tb
      replace hra1 := rangeAt.kept hra1 hg1 hg (Zn (by omega))
      replace hrb1 := rangeAt.kept hrb1 hg1 hg (Zn (by omega))
      replace hg1 := Nat.lt_of_lt_of_le hg1 hg.size
      replace hEz := ext_grow hEz hg (fun q hq => by cases hq; omega)
      replace hE := ext_grow hE hg (fun q hq => by cases hq; omega)
      replace hS := hS.stepNew hg (by omega)
      clear b2 hg
      have b2 := bn
      clear bn
      (try dsimp only); refine hK.out _ _ (fun _ => hS) ?_; clear hK K; (try simp only [Act.put, Zs, Zz, Zc])
      replace qz : r2 < W36.heap.size := b2.lt
      refine wpAnyD_done (by kernel_rfl) ?_ _
      clear hS hmX x0
      simp only [Exit.then]; go_step; go_meet
      exact ⟨r1, r2, rfl, rfl, by omega, by omega, by omega, b1, b2, hEz⟩
    · rw [if_pos (by rfl)]
      have qb : mX ≤ W2.heap.size := (by rw [hmX]; exact hS.size)
      go_simp
      (try dsimp only); refine hK.out _ _ (fun _ => hS.ext (ext_alloc _ _)) ?_; clear hK K; (try simp only [Act.put, Zs, Zz, Zc])
      refine name_wd (fun W63 hW => ?_)
      have hx : Ext W2 W63 := by rw [hW]; exact ext_alloc _ _
      have b1 : Blk W63 W2.heap.size 28 TV.z.cs := by rw [hW]; exact Blk.newAt rfl
      clear hW
      replace hS := hS.ext hx
      replace b0 := b0.ext hx
      replace ta := isT.ext hx ta
      replace tb := isT.ext hx tb
      replace hra1 := rangeAt.ext hra1 hg1 hx
      replace hrb1 := rangeAt.ext hrb1 hg1 hx
      replace hg1 := Nat.lt_of_lt_of_le hg1 hx.below.size
      replace hEz := hEz.trans hx
      replace hE := hE.trans hx
      clear hx
      obtain ⟨r1, hr⟩ : ∃ r, r = W2.heap.size := ⟨_, rfl⟩
      rw [← hr] at b1
      try rw [← hr]
      have q1 : r0 < r1 := by omega
      have qb1 : mX ≤ r1 := by omega
      clear hr
      replace qz : r1 < W63.heap.size := b1.lt
      refine wpAnyD_oneL (i := 8) rfl (by kernel_rfl) (fun K hK => ?_)
      rw [if_pos (by rfl)]
      have qb : mX ≤ W63.heap.size := (by rw [hmX]; exact hS.size)
      go_simp
      (try dsimp only); refine hK.out _ _ (fun _ => hS.ext (ext_alloc _ _)) ?_; clear hK K; (try simp only [Act.put, Zs, Zz, Zc])
      refine name_wd (fun W64 hW => ?_)
      have hx : Ext W63 W64 := by rw [hW]; exact ext_alloc _ _
      have b2 : Blk W64 W63.heap.size 28 TV.z.cs := by rw [hW]; exact Blk.newAt rfl
      clear hW
      replace hS := hS.ext hx
      replace b0 := b0.ext hx
      replace b1 := b1.ext hx
      replace ta := isT.ext hx ta
      replace tb := isT.ext hx tb
      replace hra1 := rangeAt.ext hra1 hg1 hx
      replace hrb1 := rangeAt.ext hrb1 hg1 hx
      replace hg1 := Nat.lt_of_lt_of_le hg1 hx.below.size
      replace hEz := hEz.trans hx
      replace hE := hE.trans hx
      clear hx
      obtain ⟨r2, hr⟩ : ∃ r, r = W63.heap.size := ⟨_, rfl⟩
      rw [← hr] at b2
      try rw [← hr]
      have q2 : r1 < r2 := by omega
      have qb2 : mX ≤ r2 := by omega
      clear hr
      replace qz : r2 < W64.heap.size := b2.lt
      refine wpAnyD_oneL (i := 10) rfl (by kernel_rfl) (fun K hK => ?_)
      rw [if_pos (by rfl)]
      refine wp_store_box 28 _ _ (by rfl) b2 (by rfl) (by rfl) (by exact Try.infoT) (by first | exact RV.one _ | exact TV.one _ rfl | exact TV.one _ (isT.one ta) | exact TV.one _ (isT.one tb)) (by rfl) (fun W65 hg bn => ?_)
      replace b0 := b0.kept hg (Zn (by omega))
      replace b1 := b1.kept hg (Zn (by omega))
      replace ta := isT.kept hg (Lw.not (by omega)) ta
      replace tb := isT.kept hg (Lw.not (by omega)) tb
      replace hra1 := rangeAt.kept hra1 hg1 hg (Zn (by omega))
      replace hrb1 := rangeAt.kept hrb1 hg1 hg (Zn (by omega))
      replace hg1 := Nat.lt_of_lt_of_le hg1 hg.size
      replace hEz := ext_grow hEz hg (fun q hq => by cases hq; omega)
      replace hE := ext_grow hE hg (fun q hq => by cases hq; omega)
      replace hS := hS.stepNew hg (by omega)
      clear b2 hg
      have b2 := bn
      clear bn
      (try dsimp only); refine hK.out _ _ (fun _ => hS) ?_; clear hK K; (try simp only [Act.put, Zs, Zz, Zc])
      replace qz : r2 < W65.heap.size := b2.lt
      refine wpAnyD_oneL (i := 11) rfl (by kernel_rfl) (fun K hK => ?_)
      rw [if_pos (by rfl)]
      refine wp_store_box 28 _ _ (by rfl) b1 (by rfl) (by rfl) (by exact Try.infoT) (by first | exact RV.one _ | exact TV.one _ rfl | exact TV.one _ (isT.one ta) | exact TV.one _ (isT.one tb)) (by rfl) (fun W66 hg bn => ?_)
      replace b0 := b0.kept hg (Zn (by omega))
      replace b2 := b2.kept hg (Zn (by omega))
      replace ta := isT.kept hg (Lw.not (by omega)) ta
      replace tb := isT.kept hg (Lw.not (by omega)) tb
      replace hra1 := rangeAt.kept hra1 hg1 hg (Zn (by omega))
      replace hrb1 := rangeAt.kept hrb1 hg1 hg (Zn (by omega))
      replace hg1 := Nat.lt_of_lt_of_le hg1 hg.size
      replace hEz := ext_grow hEz hg (fun q hq => by cases hq; omega)
      replace hE := ext_grow hE hg (fun q hq => by cases hq; omega)
      replace hS := hS.stepNew hg (by omega)
      clear b1 hg
      have b1 := bn
      clear bn
      (try dsimp only); refine hK.out _ _ (fun _ => hS) ?_; clear hK K; (try simp only [Act.put, Zs, Zz, Zc])
      replace qz : r2 < W66.heap.size := b2.lt
      refine wpAnyD_done (by kernel_rfl) ?_ _
      clear hS hmX x0
      simp only [Exit.then]; go_step; go_meet
      exact ⟨r2, r1, rfl, rfl, by omega, by omega, by omega, b2, b1, hEz⟩
  obtain ⟨r1, r2, rfl, rfl, q1x, q2x, qne1, b1, b2, hx⟩ := hcut
  obtain ⟨W2, rfl⟩ : ∃ W, W = wc := ⟨_, rfl⟩
  replace b0 := b0.ext hx
  replace ta := isT.ext hx ta
  replace tb := isT.ext hx tb
  replace hra1 := rangeAt.ext hra1 hg1 hx
  replace hrb1 := rangeAt.ext hrb1 hg1 hx
  replace hg1 := Nat.lt_of_lt_of_le hg1 hx.below.size
  replace hE := hE.trans hx
  clear hx
  replace qz : r0 < W2.heap.size := b0.lt
  replace qz : r2 < W2.heap.size := b2.lt
  have qz1 : r1 < W2.heap.size := b1.lt
  clear ya1 yb1 yg1 hra1 hrb1 hg1
  go_upto_region 4 with fail
  refine wp_region_lit ?_
  refine wpList_plain rfl (fun K hK => ?_); (first | (refine wp_ld 28 _ (b1.range) (by rfl) (by rfl) Try.underlying28 rfl (by exact Try.infoT) ?_)); (try dsimp only); refine hK _ _ ?_; clear hK K; (try simp only [Act.put, Zs, Zz, Zc])
  refine wpList_plain rfl (fun K hK => ?_); go_simp; (go_at_call 49; refine (rnum_is iha ta.low hva (by omega) h1.out).mono ?_; intro e W3 hpp; obtain ⟨rfl, hx⟩ := hpp); (try dsimp only); refine hK _ _ ?_; clear hK K; (try simp only [Act.put, Zs, Zz, Zc])
  replace b0 := b0.ext hx
  replace b1 := b1.ext hx
  replace b2 := b2.ext hx
  replace ta := isT.ext hx ta
  replace tb := isT.ext hx tb
  replace hE := hE.trans hx
  clear hx
  replace qz : r2 < W3.heap.size := b2.lt
  replace qz1 : r1 < W3.heap.size := b1.lt
  iterate 2 (refine wpList_plain rfl (fun K hK => ?_); go_simp; (try dsimp only); refine hK _ _ ?_; clear hK K; (try simp only [Act.put, Zs, Zz, Zc]))
  iterate 3 (refine wpList_step (fun K hK => ?_); rw [if_neg (by exact Bool.false_ne_true)]; (try dsimp only); refine hK _ _ ?_; clear hK K; (try simp only [Act.put, Zs, Zz, Zc]))
  refine wpList_plain rfl (fun K hK => ?_); go_simp; (try dsimp only); refine hK _ _ ?_; clear hK K; (try simp only [Act.put, Zs, Zz, Zc])
  refine wpList_nil ?_
  go_upto_region 5 with fail
  refine wp_region_lit ?_
  refine wpList_plain rfl (fun K hK => ?_); go_simp; (try dsimp only); refine hK _ _ ?_; clear hK K; (try simp only [Act.put, Zs, Zz, Zc])
  refine wpList_nil ?_
  go_wp2_with fail
  go_ret
  exact ⟨ret_b HR.out.symm, hE⟩

set_option maxRecDepth 100000 in
set_option maxHeartbeats 4000000 in
theorem rnum_tf {h f l gg : Int} {a b : BT} {y : RV} (iha : NumROK a) (ihb : NumROK b) (h1 : numR a = true) (h2 : numR b = false) (A : Nat → Prop) (v : TV) (w : World) (ht : isT A w (.N h f l gg a y b) v) (hv : ∀ x ∈ (BT.N h f l gg a y b).regs, vld x) (hd : (BT.N h f l gg a y b).dp ≤ 1000) :
    Calls Try.prog 49 #[.agg v.cs.toArray] w fun e w' => e = .returned (.bool (numR (.N h f l gg a y b))) ∧ Ext w w' := by
  have hva : ∀ x ∈ a.regs, vld x := fun x hx => hv x (by simp [BT.regs, hx])
  have hvb : ∀ x ∈ b.regs, vld x := fun x hx => hv x (by simp [BT.regs, hx])
  have hvy : vld y := hv y (by simp [BT.regs])
  have hda : a.dp ≤ 999 ∧ b.dp ≤ 999 := by have := BT.dp_nn a; have := BT.dp_nn b; simp only [BT.dp] at hd; omega
  clear hv hd
  replace ht := ht.lw
  obtain ⟨e1, e2, e3, e4, e5, e6, g, o, c, va, vb, hk, hc, hg1, hAg, hra1, hrb1, ta, tb⟩ := ht
  have HN := okN_eq (h := h) (f := f) (l := l) (g := gg) (y := y) (.int .i64 0) ta tb
  have na : va.h = a.h := by rw [isT_tv ta, tv_h]
  have nb : vb.h = b.h := by rw [isT_tv tb, tv_h]
  obtain ⟨vh, vf, vl, vg, vx, vk⟩ := v
  dsimp only at e1 e2 e3 e4 e5 hk
  subst vh vf vl vg vx vk
  have hcI : (2 : Int) ≤ (c : Int) := by omega
  have hgw1 := hg1
  have hh0 : (h == 0) = false := by simpa using e6
  clear e6
  have HR : numR (.N h f l gg a y b) = false := by simp [numR, h1, h2]
  replace h1 : Hid _ := h1
  replace h2 : Hid _ := h2
  replace HR : Hid _ := HR
  replace HN : Hid _ := HN
  clear na nb
  go_enter Try.func49, Try.ntmps49
  go_upto_region 1 with fail
  refine name_wX (fun W1 hW => ?_)
  have hE : Ext w W1 := by rw [hW]; repeat' (first | exact Ext.refl _ | apply Ext.al)
  have b0 : Blk W1 (w.heap.size) 28 (TV.cs ⟨h, f, l, gg, y, .slice (some ⟨g, o, none⟩) 2 c⟩) := by rw [hW]; exact Blk.newAt rfl
  clear hW
  obtain ⟨r0, hr0⟩ : ∃ r, r = w.heap.size := ⟨_, rfl⟩
  rw [← hr0] at b0
  try rw [← hr0]
  have q0 : w.heap.size ≤ r0 := by omega
  clear hr0
  have qz : r0 < W1.heap.size := b0.lt
  replace ta := isT.ext hE ta
  replace tb := isT.ext hE tb
  replace hra1 := rangeAt.ext hra1 hg1 hE
  replace hrb1 := rangeAt.ext hrb1 hg1 hE
  replace hg1 := Nat.lt_of_lt_of_le hg1 hE.below.size
  go_upto_region 1 with fail
  refine wp_region_lit ?_
  have zc0 := b0.cell 0
  iterate 3 (refine wpList_plain rfl (fun K hK => ?_); go_simp; (try simp only [hh0]); (try dsimp only); refine hK _ _ ?_; clear hK K; (try simp only [Act.put, Zs, Zz, Zc]))
  clear zc0
  refine wpList_nil ?_
  go_upto_region 3 with fail
  have ya1 := hra1
  have yb1 := hrb1
  have yg1 := hg1
  go_cut [3, 4] (fun sva svb wc => ∃ sra srb : Nat, sva = .pointer (some ⟨sra, 0, none⟩) ∧ svb = .pointer (some ⟨srb, 0, none⟩) ∧ r0 < sra ∧ r0 < srb ∧ sra ≠ srb ∧ Blk wc sra 28 va.cs ∧ Blk wc srb 28 vb.cs ∧ Ext W1 wc)
  case first =>
    have hEz : Ext W1 W1 := Ext.refl _
    have x0 := b0
    obtain ⟨mX, hmX⟩ : ∃ m, m = W1.heap.size := ⟨_, rfl⟩
    have hS : GrownX W1 [] W1 := GrownX.refl _ _
    refine wp_region_S (GrownX W1 []) (by kernel_rfl) ?_
    refine name_wd (fun W2 hW => ?_)
    have hx : Ext W1 W2 := by rw [hW]; exact ext_drew _
    clear hW
    replace hS := hS.ext hx
    replace b0 := b0.ext hx
    replace ta := isT.ext hx ta
    replace tb := isT.ext hx tb
    replace hra1 := rangeAt.ext hra1 hg1 hx
    replace hrb1 := rangeAt.ext hrb1 hg1 hx
    replace hg1 := Nat.lt_of_lt_of_le hg1 hx.below.size
    replace hEz := hEz.trans hx
    replace hE := hE.trans hx
    clear hx
    replace qz : r0 < W2.heap.size := b0.lt
    refine wpAnyD_takeSL (i := 0) rfl (by kernel_rfl) (fun _ _ _ _ h => h) hS ?_
    apply Exists.intro
    refine ⟨Or.inl ⟨by rfl, ?_⟩, ?_⟩
    (focus (intro wz hz; go_simp; (try with_reducible rfl); done))
    (try simp only [Act.put, Zs, Zz, Zc])
    refine wpAnyD_takeSL (i := 1) rfl (by kernel_rfl) (fun _ _ _ _ h => h) hS ?_
    apply Exists.intro
    refine ⟨Or.inl ⟨by rfl, ?_⟩, ?_⟩
    (focus (intro wz hz; have zc := (GrownX.blk hz x0 (by first | decide | (simp; done) | (simp; omega) | omega)).cell 10; go_simp; (try with_reducible rfl); done))
    (try simp only [Act.put, Zs, Zz, Zc])
    refine wpAnyD_takeSL (i := 2) rfl (by kernel_rfl) (fun _ _ _ _ h => h) hS ?_
    apply Exists.intro
    refine ⟨Or.inl ⟨by rfl, ?_⟩, ?_⟩
    (focus (intro wz hz; go_simp; (try with_reducible rfl); done))
    (try simp only [Act.put, Zs, Zz, Zc])
    refine wpAnyD_takeSL (i := 3) rfl (by kernel_rfl) (fun _ _ _ _ h => h) hS ?_
    apply Exists.intro
    refine ⟨Or.inl ⟨by rfl, ?_⟩, ?_⟩
    (focus (intro wz hz; (first | exact exec_ld 28 _ rfl rfl (GrownX.range hz (ya1) (yg1) (by first | decide | (simp; done) | (simp; omega) | omega)) Try.underlying28 rfl (by exact Try.infoT) | exact exec_ld 28 _ rfl rfl (GrownX.range hz (yb1) (yg1) (by first | decide | (simp; done) | (simp; omega) | omega)) Try.underlying28 rfl (by exact Try.infoT))))
    (try simp only [Act.put, Zs, Zz, Zc])
    refine wpAnyD_takeSL (i := 4) rfl (by kernel_rfl) (fun _ _ _ _ h => h) hS ?_
    apply Exists.intro
    refine ⟨Or.inl ⟨by rfl, ?_⟩, ?_⟩
    (focus (intro wz hz; go_simp; (try with_reducible rfl); done))
    (try simp only [Act.put, Zs, Zz, Zc])
    refine wpAnyD_takeSL (i := 5) rfl (by kernel_rfl) (fun _ _ _ _ h => h) hS ?_
    apply Exists.intro
    refine ⟨Or.inl ⟨by rfl, ?_⟩, ?_⟩
    (focus (intro wz hz; have zc := (GrownX.blk hz x0 (by first | decide | (simp; done) | (simp; omega) | omega)).cell 10; go_simp; (try with_reducible rfl); done))
    (try simp only [Act.put, Zs, Zz, Zc])
    refine wpAnyD_takeSL (i := 6) rfl (by kernel_rfl) (fun _ _ _ _ h => h) hS ?_
    apply Exists.intro
    refine ⟨Or.inl ⟨by rfl, ?_⟩, ?_⟩
    (focus (intro wz hz; go_simp; (try with_reducible rfl); done))
    (try simp only [Act.put, Zs, Zz, Zc])
    refine wpAnyD_takeSL (i := 7) rfl (by kernel_rfl) (fun _ _ _ _ h => h) hS ?_
    apply Exists.intro
    refine ⟨Or.inl ⟨by rfl, ?_⟩, ?_⟩
    (focus (intro wz hz; (first | exact exec_ld 28 _ rfl rfl (GrownX.range hz (ya1) (yg1) (by first | decide | (simp; done) | (simp; omega) | omega)) Try.underlying28 rfl (by exact Try.infoT) | exact exec_ld 28 _ rfl rfl (GrownX.range hz (yb1) (yg1) (by first | decide | (simp; done) | (simp; omega) | omega)) Try.underlying28 rfl (by exact Try.infoT))))
    (try simp only [Act.put, Zs, Zz, Zc])
    refine wpAnyD_many [8, 9] (by kernel_rfl) (by simp) (AllD_consL rfl (fun K hK => ?_) (AllD_consL rfl (fun K hK => ?_) AllD_nil))
    · rw [if_pos (by rfl)]
      have qb : mX ≤ W2.heap.size := (by rw [hmX]; exact hS.size)
      go_simp
      (try dsimp only); refine hK.out _ _ (fun _ => hS.ext (ext_alloc _ _)) ?_; clear hK K; (try simp only [Act.put, Zs, Zz, Zc])
      refine name_wd (fun W33 hW => ?_)
      have hx : Ext W2 W33 := by rw [hW]; exact ext_alloc _ _
      have b1 : Blk W33 W2.heap.size 28 TV.z.cs := by rw [hW]; exact Blk.newAt rfl
      clear hW
      replace hS := hS.ext hx
      replace b0 := b0.ext hx
      replace ta := isT.ext hx ta
      replace tb := isT.ext hx tb
      replace hra1 := rangeAt.ext hra1 hg1 hx
      replace hrb1 := rangeAt.ext hrb1 hg1 hx
      replace hg1 := Nat.lt_of_lt_of_le hg1 hx.below.size
      replace hEz := hEz.trans hx
      replace hE := hE.trans hx
      clear hx
      obtain ⟨r1, hr⟩ : ∃ r, r = W2.heap.size := ⟨_, rfl⟩
      rw [← hr] at b1
      try rw [← hr]
      have q1 : r0 < r1 := by omega
      have qb1 : mX ≤ r1 := by omega
      clear hr
      replace qz : r1 < W33.heap.size := b1.lt
      refine wpAnyD_oneL (i := 9) rfl (by kernel_rfl) (fun K hK => ?_)
      rw [if_pos (by rfl)]
      have qb : mX ≤ W33.heap.size := (by rw [hmX]; exact hS.size)
      go_simp
      (try dsimp only); refine hK.out _ _ (fun _ => hS.ext (ext_alloc _ _)) ?_; clear hK K; (try simp only [Act.put, Zs, Zz, Zc])
      refine name_wd (fun W34 hW => ?_)
      have hx : Ext W33 W34 := by rw [hW]; exact ext_alloc _ _
      have b2 : Blk W34 W33.heap.size 28 TV.z.cs := by rw [hW]; exact Blk.newAt rfl
      clear hW
      replace hS := hS.ext hx
      replace b0 := b0.ext hx
      replace b1 := b1.ext hx
      replace ta := isT.ext hx ta
      replace tb := isT.ext hx tb
      replace hra1 := rangeAt.ext hra1 hg1 hx
      replace hrb1 := rangeAt.ext hrb1 hg1 hx
      replace hg1 := Nat.lt_of_lt_of_le hg1 hx.below.size
      replace hEz := hEz.trans hx
      replace hE := hE.trans hx
      clear hx
      obtain ⟨r2, hr⟩ : ∃ r, r = W33.heap.size := ⟨_, rfl⟩
      rw [← hr] at b2
      try rw [← hr]
      have q2 : r1 < r2 := by omega
      have qb2 : mX ≤ r2 := by omega
      clear hr
      replace qz : r2 < W34.heap.size := b2.lt
      refine wpAnyD_oneL (i := 10) rfl (by kernel_rfl) (fun K hK => ?_)
      rw [if_pos (by rfl)]
      refine wp_store_box 28 _ _ (by rfl) b1 (by rfl) (by rfl) (by exact Try.infoT) (by first | exact RV.one _ | exact TV.one _ rfl | exact TV.one _ (isT.one ta) | exact TV.one _ (isT.one tb)) (by rfl) (fun W35 hg bn => ?_)
      replace b0 := b0.kept hg (Zn (by omega))
      replace b2 := b2.kept hg (Zn (by omega))
      replace ta := isT.kept hg (Lw.not (by omega)) ta
      replace tb := isT.kept hg (Lw.not (by omega)) tb
      replace hra1 := rangeAt.kept hra1 hg1 hg (Zn (by omega))
      replace hrb1 := rangeAt.kept hrb1 hg1 hg (Zn (by omega))
      replace hg1 := Nat.lt_of_lt_of_le hg1 hg.size
      replace hEz := ext_grow hEz hg (fun q hq => by cases hq; omega)
      replace hE := ext_grow hE hg (fun q hq => by cases hq; omega)
      replace hS := hS.stepNew hg (by omega)
      clear b1 hg
      have b1 := bn
      clear bn
      (try dsimp only); refine hK.out _ _ (fun _ => hS) ?_; clear hK K; (try simp only [Act.put, Zs, Zz, Zc])
      replace qz : r2 < W35.heap.size := b2.lt
      refine wpAnyD_oneL (i := 11) rfl (by kernel_rfl) (fun K hK => ?_)
      rw [if_pos (by rfl)]
      refine wp_store_box 28 _ _ (by rfl) b2 (by rfl) (by rfl) (by exact Try.infoT) (by first | exact RV.one _ | exact TV.one _ rfl | exact TV.one _ (isT.one ta) | exact TV.one _ (isT.one tb)) (by rfl) (fun W36 hg bn => ?_)
      replace b0 := b0.kept hg (Zn (by omega))
      replace b1 := b1.kept hg (Zn (by omega))
      replace ta := isT.kept hg (Lw.not (by omega)) ta
      replace tb := isT.kept hg (Lw.not (by omega)) tb
      replace hra1 := rangeAt.kept hra1 hg1 hg (Zn (by omega))
      replace hrb1 := rangeAt.kept hrb1 hg1 hg (Zn (by omega))
      replace hg1 := Nat.lt_of_lt_of_le hg1 hg.size
      replace hEz := ext_grow hEz hg (fun q hq => by cases hq; omega)
      replace hE := ext_grow hE hg (fun q hq => by cases hq; omega)
      replace hS := hS.stepNew hg (by omega)
      clear b2 hg
      have b2 := bn
      clear bn
      (try dsimp only); refine hK.out _ _ (fun _ => hS) ?_; clear hK K; (try simp only [Act.put, Zs, Zz, Zc])
      replace qz : r2 < W36.heap.size := b2.lt
      refine wpAnyD_done (by kernel_rfl) ?_ _
      clear hS hmX x0
      simp only [Exit.then]; go_step; go_meet
      exact ⟨r1, r2, rfl, rfl, by omega, by omega, by omega, b1, b2, hEz⟩
    · rw [if_pos (by rfl)]
      have qb : mX ≤ W2.heap.size := (by rw [hmX]; exact hS.size)
      go_simp
      (try dsimp only); refine hK.out _ _ (fun _ => hS.ext (ext_alloc _ _)) ?_; clear hK K; (try simp only [Act.put, Zs, Zz, Zc])
      refine name_wd (fun W63 hW => ?_)
      have hx : Ext W2 W63 := by rw [hW]; exact ext_alloc _ _
      have b1 : Blk W63 W2.heap.size 28 TV.z.cs := by rw [hW]; exact Blk.newAt rfl
      clear hW
      replace hS := hS.ext hx
      replace b0 := b0.ext hx
      replace ta := isT.ext hx ta
      replace tb := isT.ext hx tb
      replace hra1 := rangeAt.ext hra1 hg1 hx
      replace hrb1 := rangeAt.ext hrb1 hg1 hx
      replace hg1 := Nat.lt_of_lt_of_le hg1 hx.below.size
      replace hEz := hEz.trans hx
      replace hE := hE.trans hx
      clear hx
      obtain ⟨r1, hr⟩ : ∃ r, r = W2.heap.size := ⟨_, rfl⟩
      rw [← hr] at b1
      try rw [← hr]
      have q1 : r0 < r1 := by omega
      have qb1 : mX ≤ r1 := by omega
      clear hr
      replace qz : r1 < W63.heap.size := b1.lt
      refine wpAnyD_oneL (i := 8) rfl (by kernel_rfl) (fun K hK => ?_)
      rw [if_pos (by rfl)]
      have qb : mX ≤ W63.heap.size := (by rw [hmX]; exact hS.size)
      go_simp
      (try dsimp only); refine hK.out _ _ (fun _ => hS.ext (ext_alloc _ _)) ?_; clear hK K; (try simp only [Act.put, Zs, Zz, Zc])
      refine name_wd (fun W64 hW => ?_)
      have hx : Ext W63 W64 := by rw [hW]; exact ext_alloc _ _
      have b2 : Blk W64 W63.heap.size 28 TV.z.cs := by rw [hW]; exact Blk.newAt rfl
      clear hW
      replace hS := hS.ext hx
      replace b0 := b0.ext hx
      replace b1 := b1.ext hx
      replace ta := isT.ext hx ta
      replace tb := isT.ext hx tb
      replace hra1 := rangeAt.ext hra1 hg1 hx
      replace hrb1 := rangeAt.ext hrb1 hg1 hx
      replace hg1 := Nat.lt_of_lt_of_le hg1 hx.below.size
      replace hEz := hEz.trans hx
      replace hE := hE.trans hx
      clear hx
      obtain ⟨r2, hr⟩ : ∃ r, r = W63.heap.size := ⟨_, rfl⟩
      rw [← hr] at b2
      try rw [← hr]
      have q2 : r1 < r2 := by omega
      have qb2 : mX ≤ r2 := by omega
      clear hr
      replace qz : r2 < W64.heap.size := b2.lt
      refine wpAnyD_oneL (i := 10) rfl (by kernel_rfl) (fun K hK => ?_)
      rw [if_pos (by rfl)]
      refine wp_store_box 28 _ _ (by rfl) b2 (by rfl) (by rfl) (by exact Try.infoT) (by first | exact RV.one _ | exact TV.one _ rfl | exact TV.one _ (isT.one ta) | exact TV.one _ (isT.one tb)) (by rfl) (fun W65 hg bn => ?_)
      replace b0 := b0.kept hg (Zn (by omega))
      replace b1 := b1.kept hg (Zn (by omega))
      replace ta := isT.kept hg (Lw.not (by omega)) ta
      replace tb := isT.kept hg (Lw.not (by omega)) tb
      replace hra1 := rangeAt.kept hra1 hg1 hg (Zn (by omega))
      replace hrb1 := rangeAt.kept hrb1 hg1 hg (Zn (by omega))
      replace hg1 := Nat.lt_of_lt_of_le hg1 hg.size
      replace hEz := ext_grow hEz hg (fun q hq => by cases hq; omega)
      replace hE := ext_grow hE hg (fun q hq => by cases hq; omega)
      replace hS := hS.stepNew hg (by omega)
      clear b2 hg
      have b2 := bn
      clear bn
      (try dsimp only); refine hK.out _ _ (fun _ => hS) ?_; clear hK K; (try simp only [Act.put, Zs, Zz, Zc])
      replace qz : r2 < W65.heap.size := b2.lt
      refine wpAnyD_oneL (i := 11) rfl (by kernel_rfl) (fun K hK => ?_)
      rw [if_pos (by rfl)]
      refine wp_store_box 28 _ _ (by rfl) b1 (by rfl) (by rfl) (by exact Try.infoT) (by first | exact RV.one _ | exact TV.one _ rfl | exact TV.one _ (isT.one ta) | exact TV.one _ (isT.one tb)) (by rfl) (fun W66 hg bn => ?_)
      replace b0 := b0.kept hg (Zn (by omega))
      replace b2 := b2.kept hg (Zn (by omega))
      replace ta := isT.kept hg (Lw.not (by omega)) ta
      replace tb := isT.kept hg (Lw.not (by omega)) tb
      replace hra1 := rangeAt.kept hra1 hg1 hg (Zn (by omega))
      replace hrb1 := rangeAt.kept hrb1 hg1 hg (Zn (by omega))
      replace hg1 := Nat.lt_of_lt_of_le hg1 hg.size
      replace hEz := ext_grow hEz hg (fun q hq => by cases hq; omega)
      replace hE := ext_grow hE hg (fun q hq => by cases hq; omega)
      replace hS := hS.stepNew hg (by omega)
      clear b1 hg
      have b1 := bn
      clear bn
      (try dsimp only); refine hK.out _ _ (fun _ => hS) ?_; clear hK K; (try simp only [Act.put, Zs, Zz, Zc])
      replace qz : r2 < W66.heap.size := b2.lt
      refine wpAnyD_done (by kernel_rfl) ?_ _
      clear hS hmX x0
      simp only [Exit.then]; go_step; go_meet
      exact ⟨r2, r1, rfl, rfl, by omega, by omega, by omega, b2, b1, hEz⟩
  obtain ⟨r1, r2, rfl, rfl, q1x, q2x, qne1, b1, b2, hx⟩ := hcut
  obtain ⟨W2, rfl⟩ : ∃ W, W = wc := ⟨_, rfl⟩
  replace b0 := b0.ext hx
  replace ta := isT.ext hx ta
  replace tb := isT.ext hx tb
  replace hra1 := rangeAt.ext hra1 hg1 hx
  replace hrb1 := rangeAt.ext hrb1 hg1 hx
  replace hg1 := Nat.lt_of_lt_of_le hg1 hx.below.size
  replace hE := hE.trans hx
  clear hx
  replace qz : r0 < W2.heap.size := b0.lt
  replace qz : r2 < W2.heap.size := b2.lt
  have qz1 : r1 < W2.heap.size := b1.lt
  clear ya1 yb1 yg1 hra1 hrb1 hg1
  go_upto_region 4 with fail
  refine wp_region_lit ?_
  refine wpList_plain rfl (fun K hK => ?_); (first | (refine wp_ld 28 _ (b1.range) (by rfl) (by rfl) Try.underlying28 rfl (by exact Try.infoT) ?_)); (try dsimp only); refine hK _ _ ?_; clear hK K; (try simp only [Act.put, Zs, Zz, Zc])
  refine wpList_plain rfl (fun K hK => ?_); go_simp; (go_at_call 49; refine (rnum_is iha ta.low hva (by omega) h1.out).mono ?_; intro e W3 hpp; obtain ⟨rfl, hx⟩ := hpp); (try dsimp only); refine hK _ _ ?_; clear hK K; (try simp only [Act.put, Zs, Zz, Zc])
  replace b0 := b0.ext hx
  replace b1 := b1.ext hx
  replace b2 := b2.ext hx
  replace ta := isT.ext hx ta
  replace tb := isT.ext hx tb
  replace hE := hE.trans hx
  clear hx
  replace qz : r2 < W3.heap.size := b2.lt
  replace qz1 : r1 < W3.heap.size := b1.lt
  iterate 2 (refine wpList_plain rfl (fun K hK => ?_); go_simp; (try dsimp only); refine hK _ _ ?_; clear hK K; (try simp only [Act.put, Zs, Zz, Zc]))
  refine wpList_step (fun K hK => ?_); rw [if_pos (by rfl)]; (first | (refine wp_ld 28 _ (b2.range) (by rfl) (by rfl) Try.underlying28 rfl (by exact Try.infoT) ?_)); (try dsimp only); refine hK _ _ ?_; clear hK K; (try simp only [Act.put, Zs, Zz, Zc])
  refine wpList_step (fun K hK => ?_); rw [if_pos (by rfl)]; go_simp; (go_at_call 49; refine (rnum_is ihb tb.low hvb (by omega) h2.out).mono ?_; intro e W4 hpp; obtain ⟨rfl, hx⟩ := hpp); (try dsimp only); refine hK _ _ ?_; clear hK K; (try simp only [Act.put, Zs, Zz, Zc])
  replace b0 := b0.ext hx
  replace b1 := b1.ext hx
  replace b2 := b2.ext hx
  replace ta := isT.ext hx ta
  replace tb := isT.ext hx tb
  replace hE := hE.trans hx
  clear hx
  replace qz : r2 < W4.heap.size := b2.lt
  replace qz1 : r1 < W4.heap.size := b1.lt
  refine wpList_step (fun K hK => ?_); rw [if_pos (by rfl)]; go_simp; (try dsimp only); refine hK _ _ ?_; clear hK K; (try simp only [Act.put, Zs, Zz, Zc])
  refine wpList_plain rfl (fun K hK => ?_); go_simp; (try dsimp only); refine hK _ _ ?_; clear hK K; (try simp only [Act.put, Zs, Zz, Zc])
  refine wpList_nil ?_
  go_upto_region 5 with fail
  refine wp_region_lit ?_
  refine wpList_plain rfl (fun K hK => ?_); go_simp; (try dsimp only); refine hK _ _ ?_; clear hK K; (try simp only [Act.put, Zs, Zz, Zc])
  refine wpList_nil ?_
  go_wp2_with fail
  go_ret
  exact ⟨ret_b HR.out.symm, hE⟩

set_option maxRecDepth 100000 in
set_option maxHeartbeats 4000000 in
theorem rnum_tt {h f l gg : Int} {a b : BT} {y : RV} (iha : NumROK a) (ihb : NumROK b) (h1 : numR a = true) (h2 : numR b = true) (A : Nat → Prop) (v : TV) (w : World) (ht : isT A w (.N h f l gg a y b) v) (hv : ∀ x ∈ (BT.N h f l gg a y b).regs, vld x) (hd : (BT.N h f l gg a y b).dp ≤ 1000) :
    Calls Try.prog 49 #[.agg v.cs.toArray] w fun e w' => e = .returned (.bool (numR (.N h f l gg a y b))) ∧ Ext w w' := by
  have hva : ∀ x ∈ a.regs, vld x := fun x hx => hv x (by simp [BT.regs, hx])
  have hvb : ∀ x ∈ b.regs, vld x := fun x hx => hv x (by simp [BT.regs, hx])
  have hvy : vld y := hv y (by simp [BT.regs])
  have hda : a.dp ≤ 999 ∧ b.dp ≤ 999 := by have := BT.dp_nn a; have := BT.dp_nn b; simp only [BT.dp] at hd; omega
  clear hv hd
  replace ht := ht.lw
  obtain ⟨e1, e2, e3, e4, e5, e6, g, o, c, va, vb, hk, hc, hg1, hAg, hra1, hrb1, ta, tb⟩ := ht
  have HN := okN_eq (h := h) (f := f) (l := l) (g := gg) (y := y) (.int .i64 0) ta tb
  have na : va.h = a.h := by rw [isT_tv ta, tv_h]
  have nb : vb.h = b.h := by rw [isT_tv tb, tv_h]
  obtain ⟨vh, vf, vl, vg, vx, vk⟩ := v
  dsimp only at e1 e2 e3 e4 e5 hk
  subst vh vf vl vg vx vk
  have hcI : (2 : Int) ≤ (c : Int) := by omega
  have hgw1 := hg1
  have hh0 : (h == 0) = false := by simpa using e6
  clear e6
  have n1 := numR_h a h1 (by omega)
  have n2 := numR_h b h2 (by omega)
  have m1 : 0 ≤ va.h ∧ va.h ≤ 999 := by have := BT.dp_nn a; omega
  have m2 : 0 ≤ vb.h ∧ vb.h ≤ 999 := by have := BT.dp_nn b; omega
  clear n1 n2
  have HR : numR (.N h f l gg a y b) = okN (.N h f l gg a y b) := by simp [numR, h1, h2]
  replace h1 : Hid _ := h1
  replace h2 : Hid _ := h2
  replace HR : Hid _ := HR
  replace HN : Hid _ := HN
  clear na nb
  go_enter Try.func49, Try.ntmps49
  go_upto_region 1 with fail
  refine name_wX (fun W1 hW => ?_)
  have hE : Ext w W1 := by rw [hW]; repeat' (first | exact Ext.refl _ | apply Ext.al)
  have b0 : Blk W1 (w.heap.size) 28 (TV.cs ⟨h, f, l, gg, y, .slice (some ⟨g, o, none⟩) 2 c⟩) := by rw [hW]; exact Blk.newAt rfl
  clear hW
  obtain ⟨r0, hr0⟩ : ∃ r, r = w.heap.size := ⟨_, rfl⟩
  rw [← hr0] at b0
  try rw [← hr0]
  have q0 : w.heap.size ≤ r0 := by omega
  clear hr0
  have qz : r0 < W1.heap.size := b0.lt
  replace ta := isT.ext hE ta
  replace tb := isT.ext hE tb
  replace hra1 := rangeAt.ext hra1 hg1 hE
  replace hrb1 := rangeAt.ext hrb1 hg1 hE
  replace hg1 := Nat.lt_of_lt_of_le hg1 hE.below.size
  go_upto_region 1 with fail
  refine wp_region_lit ?_
  have zc0 := b0.cell 0
  iterate 3 (refine wpList_plain rfl (fun K hK => ?_); go_simp; (try simp only [hh0]); (try dsimp only); refine hK _ _ ?_; clear hK K; (try simp only [Act.put, Zs, Zz, Zc]))
  clear zc0
  refine wpList_nil ?_
  go_upto_region 3 with fail
  have ya1 := hra1
  have yb1 := hrb1
  have yg1 := hg1
  go_cut [3, 4] (fun sva svb wc => ∃ sra srb : Nat, sva = .pointer (some ⟨sra, 0, none⟩) ∧ svb = .pointer (some ⟨srb, 0, none⟩) ∧ r0 < sra ∧ r0 < srb ∧ sra ≠ srb ∧ Blk wc sra 28 va.cs ∧ Blk wc srb 28 vb.cs ∧ Ext W1 wc)
  case first =>
    have hEz : Ext W1 W1 := Ext.refl _
    have x0 := b0
    obtain ⟨mX, hmX⟩ : ∃ m, m = W1.heap.size := ⟨_, rfl⟩
    have hS : GrownX W1 [] W1 := GrownX.refl _ _
    refine wp_region_S (GrownX W1 []) (by kernel_rfl) ?_
    refine name_wd (fun W2 hW => ?_)
    have hx : Ext W1 W2 := by rw [hW]; exact ext_drew _
    clear hW
    replace hS := hS.ext hx
    replace b0 := b0.ext hx
    replace ta := isT.ext hx ta
    replace tb := isT.ext hx tb
    replace hra1 := rangeAt.ext hra1 hg1 hx
    replace hrb1 := rangeAt.ext hrb1 hg1 hx
    replace hg1 := Nat.lt_of_lt_of_le hg1 hx.below.size
    replace hEz := hEz.trans hx
    replace hE := hE.trans hx
    clear hx
    replace qz : r0 < W2.heap.size := b0.lt
    refine wpAnyD_takeSL (i := 0) rfl (by kernel_rfl) (fun _ _ _ _ h => h) hS ?_
    apply Exists.intro
    refine ⟨Or.inl ⟨by rfl, ?_⟩, ?_⟩
    (focus (intro wz hz; go_simp; (try with_reducible rfl); done))
    (try simp only [Act.put, Zs, Zz, Zc])
    refine wpAnyD_takeSL (i := 1) rfl (by kernel_rfl) (fun _ _ _ _ h => h) hS ?_
    apply Exists.intro
    refine ⟨Or.inl ⟨by rfl, ?_⟩, ?_⟩
    (focus (intro wz hz; have zc := (GrownX.blk hz x0 (by first | decide | (simp; done) | (simp; omega) | omega)).cell 10; go_simp; (try with_reducible rfl); done))
    (try simp only [Act.put, Zs, Zz, Zc])
    refine wpAnyD_takeSL (i := 2) rfl (by kernel_rfl) (fun _ _ _ _ h => h) hS ?_
    apply Exists.intro
    refine ⟨Or.inl ⟨by rfl, ?_⟩, ?_⟩
    (focus (intro wz hz; go_simp; (try with_reducible rfl); done))
    (try simp only [Act.put, Zs, Zz, Zc])
    refine wpAnyD_takeSL (i := 3) rfl (by kernel_rfl) (fun _ _ _ _ h => h) hS ?_
    apply Exists.intro
    refine ⟨Or.inl ⟨by rfl, ?_⟩, ?_⟩
    (focus (intro wz hz; (first | exact exec_ld 28 _ rfl rfl (GrownX.range hz (ya1) (yg1) (by first | decide | (simp; done) | (simp; omega) | omega)) Try.underlying28 rfl (by exact Try.infoT) | exact exec_ld 28 _ rfl rfl (GrownX.range hz (yb1) (yg1) (by first | decide | (simp; done) | (simp; omega) | omega)) Try.underlying28 rfl (by exact Try.infoT))))
    (try simp only [Act.put, Zs, Zz, Zc])
    refine wpAnyD_takeSL (i := 4) rfl (by kernel_rfl) (fun _ _ _ _ h => h) hS ?_
    apply Exists.intro
    refine ⟨Or.inl ⟨by rfl, ?_⟩, ?_⟩
    (focus (intro wz hz; go_simp; (try with_reducible rfl); done))
    (try simp only [Act.put, Zs, Zz, Zc])
    refine wpAnyD_takeSL (i := 5) rfl (by kernel_rfl) (fun _ _ _ _ h => h) hS ?_
    apply Exists.intro
    refine ⟨Or.inl ⟨by rfl, ?_⟩, ?_⟩
    (focus (intro wz hz; have zc := (GrownX.blk hz x0 (by first | decide | (simp; done) | (simp; omega) | omega)).cell 10; go_simp; (try with_reducible rfl); done))
    (try simp only [Act.put, Zs, Zz, Zc])
    refine wpAnyD_takeSL (i := 6) rfl (by kernel_rfl) (fun _ _ _ _ h => h) hS ?_
    apply Exists.intro
    refine ⟨Or.inl ⟨by rfl, ?_⟩, ?_⟩
    (focus (intro wz hz; go_simp; (try with_reducible rfl); done))
    (try simp only [Act.put, Zs, Zz, Zc])
    refine wpAnyD_takeSL (i := 7) rfl (by kernel_rfl) (fun _ _ _ _ h => h) hS ?_
    apply Exists.intro
    refine ⟨Or.inl ⟨by rfl, ?_⟩, ?_⟩
    (focus (intro wz hz; (first | exact exec_ld 28 _ rfl rfl (GrownX.range hz (ya1) (yg1) (by first | decide | (simp; done) | (simp; omega) | omega)) Try.underlying28 rfl (by exact Try.infoT) | exact exec_ld 28 _ rfl rfl (GrownX.range hz (yb1) (yg1) (by first | decide | (simp; done) | (simp; omega) | omega)) Try.underlying28 rfl (by exact Try.infoT))))
    (try simp only [Act.put, Zs, Zz, Zc])
    refine wpAnyD_many [8, 9] (by kernel_rfl) (by simp) (AllD_consL rfl (fun K hK => ?_) (AllD_consL rfl (fun K hK => ?_) AllD_nil))
    · rw [if_pos (by rfl)]
      have qb : mX ≤ W2.heap.size := (by rw [hmX]; exact hS.size)
      go_simp
      (try dsimp only); refine hK.out _ _ (fun _ => hS.ext (ext_alloc _ _)) ?_; clear hK K; (try simp only [Act.put, Zs, Zz, Zc])
      refine name_wd (fun W33 hW => ?_)
      have hx : Ext W2 W33 := by rw [hW]; exact ext_alloc _ _
      have b1 : Blk W33 W2.heap.size 28 TV.z.cs := by rw [hW]; exact Blk.newAt rfl
      clear hW
      replace hS := hS.ext hx
      replace b0 := b0.ext hx
      replace ta := isT.ext hx ta
      replace tb := isT.ext hx tb
      replace hra1 := rangeAt.ext hra1 hg1 hx
      replace hrb1 := rangeAt.ext hrb1 hg1 hx
      replace hg1 := Nat.lt_of_lt_of_le hg1 hx.below.size
      replace hEz := hEz.trans hx
      replace hE := hE.trans hx
      clear hx
      obtain ⟨r1, hr⟩ : ∃ r, r = W2.heap.size := ⟨_, rfl⟩
      rw [← hr] at b1
      try rw [← hr]
      have q1 : r0 < r1 := by omega
      have qb1 : mX ≤ r1 := by omega
      clear hr
      replace qz : r1 < W33.heap.size := b1.lt
      refine wpAnyD_oneL (i := 9) rfl (by kernel_rfl) (fun K hK => ?_)
      rw [if_pos (by rfl)]
      have qb : mX ≤ W33.heap.size := (by rw [hmX]; exact hS.size)
      go_simp
      (try dsimp only); refine hK.out _ _ (fun _ => hS.ext (ext_alloc _ _)) ?_; clear hK K; (try simp only [Act.put, Zs, Zz, Zc])
      refine name_wd (fun W34 hW => ?_)
      have hx : Ext W33 W34 := by rw [hW]; exact ext_alloc _ _
      have b2 : Blk W34 W33.heap.size 28 TV.z.cs := by rw [hW]; exact Blk.newAt rfl
      clear hW
      replace hS := hS.ext hx
      replace b0 := b0.ext hx
      replace b1 := b1.ext hx
      replace ta := isT.ext hx ta
      replace tb := isT.ext hx tb
      replace hra1 := rangeAt.ext hra1 hg1 hx
      replace hrb1 := rangeAt.ext hrb1 hg1 hx
      replace hg1 := Nat.lt_of_lt_of_le hg1 hx.below.size
      replace hEz := hEz.trans hx
      replace hE := hE.trans hx
      clear hx
      obtain ⟨r2, hr⟩ : ∃ r, r = W33.heap.size := ⟨_, rfl⟩
      rw [← hr] at b2
      try rw [← hr]
      have q2 : r1 < r2 := by omega
      have qb2 : mX ≤ r2 := by omega
      clear hr
      replace qz : r2 < W34.heap.size := b2.lt
      refine wpAnyD_oneL (i := 10) rfl (by kernel_rfl) (fun K hK => ?_)
      rw [if_pos (by rfl)]
      refine wp_store_box 28 _ _ (by rfl) b1 (by rfl) (by rfl) (by exact Try.infoT) (by first | exact RV.one _ | exact TV.one _ rfl | exact TV.one _ (isT.one ta) | exact TV.one _ (isT.one tb)) (by rfl) (fun W35 hg bn => ?_)
      replace b0 := b0.kept hg (Zn (by omega))
      replace b2 := b2.kept hg (Zn (by omega))
      replace ta := isT.kept hg (Lw.not (by omega)) ta
      replace tb := isT.kept hg (Lw.not (by omega)) tb
      replace hra1 := rangeAt.kept hra1 hg1 hg (Zn (by omega))
      replace hrb1 := rangeAt.kept hrb1 hg1 hg (Zn (by omega))
      replace hg1 := Nat.lt_of_lt_of_le hg1 hg.size
      replace hEz := ext_grow hEz hg (fun q hq => by cases hq; omega)
      replace hE := ext_grow hE hg (fun q hq => by cases hq; omega)
      replace hS := hS.stepNew hg (by omega)
      clear b1 hg
      have b1 := bn
      clear bn
      (try dsimp only); refine hK.out _ _ (fun _ => hS) ?_; clear hK K; (try simp only [Act.put, Zs, Zz, Zc])
      replace qz : r2 < W35.heap.size := b2.lt
      refine wpAnyD_oneL (i := 11) rfl (by kernel_rfl) (fun K hK => ?_)
      rw [if_pos (by rfl)]
      refine wp_store_box 28 _ _ (by rfl) b2 (by rfl) (by rfl) (by exact Try.infoT) (by first | exact RV.one _ | exact TV.one _ rfl | exact TV.one _ (isT.one ta) | exact TV.one _ (isT.one tb)) (by rfl) (fun W36 hg bn => ?_)
      replace b0 := b0.kept hg (Zn (by omega))
      replace b1 := b1.kept hg (Zn (by omega))
      replace ta := isT.kept hg (Lw.not (by omega)) ta
      replace tb := isT.kept hg (Lw.not (by omega)) tb
      replace hra1 := rangeAt.kept hra1 hg1 hg (Zn (by omega))
      replace hrb1 := rangeAt.kept hrb1 hg1 hg (Zn (by omega))
      replace hg1 := Nat.lt_of_lt_of_le hg1 hg.size
      replace hEz := ext_grow hEz hg (fun q hq => by cases hq; omega)
      replace hE := ext_grow hE hg (fun q hq => by cases hq; omega)
      replace hS := hS.stepNew hg (by omega)
      clear b2 hg
      have b2 := bn
      clear bn
      (try dsimp only); refine hK.out _ _ (fun _ => hS) ?_; clear hK K; (try simp only [Act.put, Zs, Zz, Zc])
      replace qz : r2 < W36.heap.size := b2.lt
      refine wpAnyD_done (by kernel_rfl) ?_ _
      clear hS hmX x0
      simp only [Exit.then]; go_step; go_meet
      exact ⟨r1, r2, rfl, rfl, by omega, by omega, by omega, b1, b2, hEz⟩
    · rw [if_pos (by rfl)]
      have qb : mX ≤ W2.heap.size := (by rw [hmX]; exact hS.size)
      go_simp
      (try dsimp only); refine hK.out _ _ (fun _ => hS.ext (ext_alloc _ _)) ?_; clear hK K; (try simp only [Act.put, Zs, Zz, Zc])
      refine name_wd (fun W63 hW => ?_)
      have hx : Ext W2 W63 := by rw [hW]; exact ext_alloc _ _
      have b1 : Blk W63 W2.heap.size 28 TV.z.cs := by rw [hW]; exact Blk.newAt rfl
      clear hW
      replace hS := hS.ext hx
      replace b0 := b0.ext hx
      replace ta := isT.ext hx ta
      replace tb := isT.ext hx tb
      replace hra1 := rangeAt.ext hra1 hg1 hx
      replace hrb1 := rangeAt.ext hrb1 hg1 hx
      replace hg1 := Nat.lt_of_lt_of_le hg1 hx.below.size
      replace hEz := hEz.trans hx
      replace hE := hE.trans hx
      clear hx
      obtain ⟨r1, hr⟩ : ∃ r, r = W2.heap.size := ⟨_, rfl⟩
      rw [← hr] at b1
      try rw [← hr]
      have q1 : r0 < r1 := by omega
      have qb1 : mX ≤ r1 := by omega
      clear hr
      replace qz : r1 < W63.heap.size := b1.lt
      refine wpAnyD_oneL (i := 8) rfl (by kernel_rfl) (fun K hK => ?_)
      rw [if_pos (by rfl)]
      have qb : mX ≤ W63.heap.size := (by rw [hmX]; exact hS.size)
      go_simp
      (try dsimp only); refine hK.out _ _ (fun _ => hS.ext (ext_alloc _ _)) ?_; clear hK K; (try simp only [Act.put, Zs, Zz, Zc])
      refine name_wd (fun W64 hW => ?_)
      have hx : Ext W63 W64 := by rw [hW]; exact ext_alloc _ _
      have b2 : Blk W64 W63.heap.size 28 TV.z.cs := by rw [hW]; exact Blk.newAt rfl
      clear hW
      replace hS := hS.ext hx
      replace b0 := b0.ext hx
      replace b1 := b1.ext hx
      replace ta := isT.ext hx ta
      replace tb := isT.ext hx tb
      replace hra1 := rangeAt.ext hra1 hg1 hx
      replace hrb1 := rangeAt.ext hrb1 hg1 hx
      replace hg1 := Nat.lt_of_lt_of_le hg1 hx.below.size
      replace hEz := hEz.trans hx
      replace hE := hE.trans hx
      clear hx
      obtain ⟨r2, hr⟩ : ∃ r, r = W63.heap.size := ⟨_, rfl⟩
      rw [← hr] at b2
      try rw [← hr]
      have q2 : r1 < r2 := by omega
      have qb2 : mX ≤ r2 := by omega
      clear hr
      replace qz : r2 < W64.heap.size := b2.lt
      refine wpAnyD_oneL (i := 10) rfl (by kernel_rfl) (fun K hK => ?_)
      rw [if_pos (by rfl)]
      refine wp_store_box 28 _ _ (by rfl) b2 (by rfl) (by rfl) (by exact Try.infoT) (by first | exact RV.one _ | exact TV.one _ rfl | exact TV.one _ (isT.one ta) | exact TV.one _ (isT.one tb)) (by rfl) (fun W65 hg bn => ?_)
      replace b0 := b0.kept hg (Zn (by omega))
      replace b1 := b1.kept hg (Zn (by omega))
      replace ta := isT.kept hg (Lw.not (by omega)) ta
      replace tb := isT.kept hg (Lw.not (by omega)) tb
      replace hra1 := rangeAt.kept hra1 hg1 hg (Zn (by omega))
      replace hrb1 := rangeAt.kept hrb1 hg1 hg (Zn (by omega))
      replace hg1 := Nat.lt_of_lt_of_le hg1 hg.size
      replace hEz := ext_grow hEz hg (fun q hq => by cases hq; omega)
      replace hE := ext_grow hE hg (fun q hq => by cases hq; omega)
      replace hS := hS.stepNew hg (by omega)
      clear b2 hg
      have b2 := bn
      clear bn
      (try dsimp only); refine hK.out _ _ (fun _ => hS) ?_; clear hK K; (try simp only [Act.put, Zs, Zz, Zc])
      replace qz : r2 < W65.heap.size := b2.lt
      refine wpAnyD_oneL (i := 11) rfl (by kernel_rfl) (fun K hK => ?_)
      rw [if_pos (by rfl)]
      refine wp_store_box 28 _ _ (by rfl) b1 (by rfl) (by rfl) (by exact Try.infoT) (by first | exact RV.one _ | exact TV.one _ rfl | exact TV.one _ (isT.one ta) | exact TV.one _ (isT.one tb)) (by rfl) (fun W66 hg bn => ?_)
      replace b0 := b0.kept hg (Zn (by omega))
      replace b2 := b2.kept hg (Zn (by omega))
      replace ta := isT.kept hg (Lw.not (by omega)) ta
      replace tb := isT.kept hg (Lw.not (by omega)) tb
      replace hra1 := rangeAt.kept hra1 hg1 hg (Zn (by omega))
      replace hrb1 := rangeAt.kept hrb1 hg1 hg (Zn (by omega))
      replace hg1 := Nat.lt_of_lt_of_le hg1 hg.size
      replace hEz := ext_grow hEz hg (fun q hq => by cases hq; omega)
      replace hE := ext_grow hE hg (fun q hq => by cases hq; omega)
      replace hS := hS.stepNew hg (by omega)
      clear b1 hg
      have b1 := bn
      clear bn
      (try dsimp only); refine hK.out _ _ (fun _ => hS) ?_; clear hK K; (try simp only [Act.put, Zs, Zz, Zc])
      replace qz : r2 < W66.heap.size := b2.lt
      refine wpAnyD_done (by kernel_rfl) ?_ _
      clear hS hmX x0
      simp only [Exit.then]; go_step; go_meet
      exact ⟨r2, r1, rfl, rfl, by omega, by omega, by omega, b2, b1, hEz⟩
  obtain ⟨r1, r2, rfl, rfl, q1x, q2x, qne1, b1, b2, hx⟩ := hcut
  obtain ⟨W2, rfl⟩ : ∃ W, W = wc := ⟨_, rfl⟩
  replace b0 := b0.ext hx
  replace ta := isT.ext hx ta
  replace tb := isT.ext hx tb
  replace hra1 := rangeAt.ext hra1 hg1 hx
  replace hrb1 := rangeAt.ext hrb1 hg1 hx
  replace hg1 := Nat.lt_of_lt_of_le hg1 hx.below.size
  replace hE := hE.trans hx
  clear hx
  replace qz : r0 < W2.heap.size := b0.lt
  replace qz : r2 < W2.heap.size := b2.lt
  have qz1 : r1 < W2.heap.size := b1.lt
  clear ya1 yb1 yg1 hra1 hrb1 hg1
  go_upto_region 4 with fail
  refine wp_region_lit ?_
  refine wpList_plain rfl (fun K hK => ?_); (first | (refine wp_ld 28 _ (b1.range) (by rfl) (by rfl) Try.underlying28 rfl (by exact Try.infoT) ?_)); (try dsimp only); refine hK _ _ ?_; clear hK K; (try simp only [Act.put, Zs, Zz, Zc])
  refine wpList_plain rfl (fun K hK => ?_); go_simp; (go_at_call 49; refine (rnum_is iha ta.low hva (by omega) h1.out).mono ?_; intro e W3 hpp; obtain ⟨rfl, hx⟩ := hpp); (try dsimp only); refine hK _ _ ?_; clear hK K; (try simp only [Act.put, Zs, Zz, Zc])
  replace b0 := b0.ext hx
  replace b1 := b1.ext hx
  replace b2 := b2.ext hx
  replace ta := isT.ext hx ta
  replace tb := isT.ext hx tb
  replace hE := hE.trans hx
  clear hx
  replace qz : r2 < W3.heap.size := b2.lt
  replace qz1 : r1 < W3.heap.size := b1.lt
  iterate 2 (refine wpList_plain rfl (fun K hK => ?_); go_simp; (try dsimp only); refine hK _ _ ?_; clear hK K; (try simp only [Act.put, Zs, Zz, Zc]))
  refine wpList_step (fun K hK => ?_); rw [if_pos (by rfl)]; (first | (refine wp_ld 28 _ (b2.range) (by rfl) (by rfl) Try.underlying28 rfl (by exact Try.infoT) ?_)); (try dsimp only); refine hK _ _ ?_; clear hK K; (try simp only [Act.put, Zs, Zz, Zc])
  refine wpList_step (fun K hK => ?_); rw [if_pos (by rfl)]; go_simp; (go_at_call 49; refine (rnum_is ihb tb.low hvb (by omega) h2.out).mono ?_; intro e W4 hpp; obtain ⟨rfl, hx⟩ := hpp); (try dsimp only); refine hK _ _ ?_; clear hK K; (try simp only [Act.put, Zs, Zz, Zc])
  replace b0 := b0.ext hx
  replace b1 := b1.ext hx
  replace b2 := b2.ext hx
  replace ta := isT.ext hx ta
  replace tb := isT.ext hx tb
  replace hE := hE.trans hx
  clear hx
  replace qz : r2 < W4.heap.size := b2.lt
  replace qz1 : r1 < W4.heap.size := b1.lt
  refine wpList_step (fun K hK => ?_); rw [if_pos (by rfl)]; go_simp; (try dsimp only); refine hK _ _ ?_; clear hK K; (try simp only [Act.put, Zs, Zz, Zc])
  refine wpList_plain rfl (fun K hK => ?_); go_simp; (try dsimp only); refine hK _ _ ?_; clear hK K; (try simp only [Act.put, Zs, Zz, Zc])
  refine wpList_nil ?_
  go_upto_region 6 with fail
  refine wp_region_lit ?_
  iterate 4 (refine wpList_plain rfl (fun K hK => ?_); (first | (refine wp_ld 28 _ (b1.range) (by rfl) (by rfl) Try.underlying28 rfl (by exact Try.infoT) ?_) | (refine wp_ld 25 _ (Blk.rgn b0) (by rfl) (by rfl) Try.underlying25 rfl (by exact Try.infoR) ?_) | (refine wp_ld 28 _ (b2.range) (by rfl) (by rfl) Try.underlying28 rfl (by exact Try.infoT) ?_) | go_simp); (try dsimp only); refine hK _ _ ?_; clear hK K; (try simp only [Act.put, Zs, Zz, Zc]))
  refine wpList_plain rfl (fun K hK => ?_); go_simp; (go_at_call 55; refine (rnode_any va y vb _ hvy m1.1 m2.1).mono ?_; intro e W5 hpp; obtain ⟨gk, rfl, hbk, hgk, hx⟩ := hpp); (try dsimp only); refine hK _ _ ?_; clear hK K; (try simp only [Act.put, Zs, Zz, Zc])
  replace b0 := b0.ext hx
  replace b1 := b1.ext hx
  replace b2 := b2.ext hx
  replace ta := isT.ext hx ta
  replace tb := isT.ext hx tb
  replace hE := hE.trans hx
  clear hx
  replace qz : r2 < W5.heap.size := b2.lt
  replace qz1 : r1 < W5.heap.size := b1.lt
  clear hbk hgk
  refine wpList_plain rfl (fun K hK => ?_); go_simp; (try dsimp only); refine hK _ _ ?_; clear hK K; (try simp only [Act.put, Zs, Zz, Zc])
  refine name_wl (fun W6 hW => ?_)
  have hx : Ext W5 W6 := by rw [hW]; exact ext_alloc _ _
  have b3 : Blk W6 W5.heap.size 28 TV.z.cs := by rw [hW]; exact Blk.newAt rfl
  clear hW
  replace b0 := b0.ext hx
  replace b1 := b1.ext hx
  replace b2 := b2.ext hx
  replace ta := isT.ext hx ta
  replace tb := isT.ext hx tb
  replace hE := hE.trans hx
  clear hx
  obtain ⟨r3, hr⟩ : ∃ r, r = W5.heap.size := ⟨_, rfl⟩
  rw [← hr] at b3
  try rw [← hr]
  have q3 : r2 < r3 := by omega
  have q3_1 : r1 < r3 := by omega
  replace qz1 : r1 < W6.heap.size := b1.lt
  clear hr
  replace qz : r3 < W6.heap.size := b3.lt
  refine wpList_plain rfl (fun K hK => ?_)
  refine wp_store_box 28 _ _ (by rfl) b3 (by rfl) (by rfl) (by exact Try.infoT) (by first | exact RV.one _ | exact TV.one _ rfl | exact TV.one _ (isT.one ta) | exact TV.one _ (isT.one tb)) (by rfl) (fun W7 hg bn => ?_)
  replace b0 := b0.kept hg (Zn (by omega))
  replace b1 := b1.kept hg (Zn (by omega))
  replace b2 := b2.kept hg (Zn (by omega))
  replace ta := isT.kept hg (Lw.not (by omega)) ta
  replace tb := isT.kept hg (Lw.not (by omega)) tb
  replace hE := ext_grow hE hg (fun q hq => by cases hq; omega)
  clear b3 hg
  have b3 := bn
  clear bn
  (try dsimp only); refine hK _ _ ?_; clear hK K; (try simp only [Act.put, Zs, Zz, Zc])
  replace qz : r3 < W7.heap.size := b3.lt
  replace qz1 : r1 < W7.heap.size := b1.lt
  refine wpList_nil ?_
  go_upto_region 7 with fail
  have c0 : W7.cell? ⟨r3, 0, none⟩ = some (.int .i64 (nodeV va y vb (.slice (some ⟨gk, 0, none⟩) 2 2)).h) := b3.cell 0
  have d0 : W7.cell? ⟨r0, 0, none⟩ = some (.int .i64 h) := b0.cell 0
  have c1 : W7.cell? ⟨r3, 1, none⟩ = some (.int .i64 (nodeV va y vb (.slice (some ⟨gk, 0, none⟩) 2 2)).f) := b3.cell 1
  have d1 : W7.cell? ⟨r0, 1, none⟩ = some (.int .i64 f) := b0.cell 1
  have c2 : W7.cell? ⟨r3, 2, none⟩ = some (.int .i64 (nodeV va y vb (.slice (some ⟨gk, 0, none⟩) 2 2)).l) := b3.cell 2
  have d2 : W7.cell? ⟨r0, 2, none⟩ = some (.int .i64 l) := b0.cell 2
  have c3 : W7.cell? ⟨r3, 3, none⟩ = some (.int .i64 (nodeV va y vb (.slice (some ⟨gk, 0, none⟩) 2 2)).g) := b3.cell 3
  have d3 : W7.cell? ⟨r0, 3, none⟩ = some (.int .i64 gg) := b0.cell 3
  have fva : W7.cell? ⟨r1, 0, none⟩ = some (.int .i64 va.h) := b1.cell 0
  have fvb : W7.cell? ⟨r2, 0, none⟩ = some (.int .i64 vb.h) := b2.cell 0
  have z0 : LtD r0 W7.heap.size := b0.lt
  have z1 : LtD r1 W7.heap.size := b1.lt
  have z2 : LtD r2 W7.heap.size := b2.lt
  have z3 : LtD r3 W7.heap.size := b3.lt
  go_upto_region 9999 with (first | ((with_reducible (apply wp_cond_split)); rfl; (all_goals intro hcd); (all_goals (first | (exfalso; exact Bool.noConfusion hcd) | ((try simp only [hcd]); go_prune)))) | ((fail_if_success go_not_at_region 3); go_region) | ((fail_if_success go_not_at_region 7); ((with_reducible refine wp_region_same ?_); (first | go_big_quiet_step (fail) | quiet_step (fail)); (first | go_big_quiet_step (fail) | quiet_step (fail)); (first | go_big_quiet_step (fail) | quiet_step (fail)); (first | go_big_quiet_step (fail) | quiet_step (fail)); (first | go_big_quiet_step (fail) | quiet_step (fail)); (first | go_big_quiet_step (fail) | quiet_step (fail)); (first | go_big_quiet_step (fail) | (refine wpQuiet_liftE (wanted_T rfl rfl rfl) ?_; refine lift_fieldAddr rfl rfl ?_; apply Exists.intro; refine ⟨fun hgd => ?_, ?_⟩; (focus ((try simp only [Ya, Ye, Yb, Yd, Yc, Yg, Ys, Yt, Yh, Yi, Yj, Yk, Yl, Ym, Yn, int_eq_le, Yo, Yp] at hgd); (try simp only [Act.put, Zs, Zz, Zc]); go_simp; (try simp (disch := omega) only [Yq, Yr]); (first | done | exact rfl | (intro _; exact rfl)))); simp only [Act.put, Zs, Zz, Zc])); (first | go_big_quiet_step (fail) | (refine wpQuiet_liftE (wanted_T rfl rfl rfl) ?_; refine lift_put (n := 36) rfl (fun h => h) ?_; refine lift_load rfl rfl ?_; apply Exists.intro; refine ⟨fun hgd => ?_, ?_⟩; (focus ((try simp only [Ya, Ye, Yb, Yd, Yc, Yg, Ys, Yt, Yh, Yi, Yj, Yk, Yl, Ym, Yn, int_eq_le, Yo, Yp] at hgd); (try simp only [Act.put, Zs, Zz, Zc]); go_simp; (try simp (disch := omega) only [Yq, Yr]); (first | done | exact rfl | (intro _; exact rfl)))); simp only [Act.put, Zs, Zz, Zc])); (first | go_big_quiet_step (fail) | (refine wpQuiet_liftE (wanted_T rfl rfl rfl) ?_; refine lift_fieldAddr rfl rfl ?_; apply Exists.intro; refine ⟨fun hgd => ?_, ?_⟩; (focus ((try simp only [Ya, Ye, Yb, Yd, Yc, Yg, Ys, Yt, Yh, Yi, Yj, Yk, Yl, Ym, Yn, int_eq_le, Yo, Yp] at hgd); (try simp only [Act.put, Zs, Zz, Zc]); go_simp; (try simp (disch := omega) only [Yq, Yr]); (first | done | exact rfl | (intro _; exact rfl)))); simp only [Act.put, Zs, Zz, Zc])); (first | go_big_quiet_step (fail) | (refine wpQuiet_liftE (wanted_T rfl rfl rfl) ?_; refine lift_put (n := 38) rfl (fun h => h) ?_; refine lift_load rfl rfl ?_; apply Exists.intro; refine ⟨fun hgd => ?_, ?_⟩; (focus ((try simp only [Ya, Ye, Yb, Yd, Yc, Yg, Ys, Yt, Yh, Yi, Yj, Yk, Yl, Ym, Yn, int_eq_le, Yo, Yp] at hgd); (try simp only [Act.put, Zs, Zz, Zc]); go_simp; (try simp (disch := omega) only [Yq, Yr]); (first | done | exact rfl | (intro _; exact rfl)))); simp only [Act.put, Zs, Zz, Zc])); (first | go_big_quiet_step (fail) | (refine wpQuiet_liftE (wanted_T rfl rfl rfl) ?_; refine lift_put (n := 37) rfl (fun h => h) ?_; refine lift_put (n := 39) rfl (fun h => h) ?_; refine lift_binOp_tt rfl rfl rfl ?_; apply Exists.intro; refine ⟨fun hgd => ?_, ?_⟩; (focus ((try simp only [Ya, Ye, Yb, Yd, Yc, Yg, Ys, Yt, Yh, Yi, Yj, Yk, Yl, Ym, Yn, int_eq_le, Yo, Yp] at hgd); (try simp only [Act.put, Zs, Zz, Zc]); go_simp; (try simp (disch := omega) only [Yq, Yr]); (first | done | exact rfl | (intro _; exact rfl)))); simp only [Act.put, Zs, Zz, Zc])); (first | (refine wpQuiet_pick_and rfl rfl rfl rfl ?_; simp only [Act.put, Zs, Zz, Zc]) | go_big_quiet_step (fail)); (first | go_big_quiet_step (fail) | quiet_step (fail)); (first | go_big_quiet_step (fail) | (refine wpQuiet_liftE (wanted_T rfl rfl rfl) ?_; refine lift_fieldAddr rfl rfl ?_; apply Exists.intro; refine ⟨fun hgd => ?_, ?_⟩; (focus ((try simp only [Ya, Ye, Yb, Yd, Yc, Yg, Ys, Yt, Yh, Yi, Yj, Yk, Yl, Ym, Yn, int_eq_le, Yo, Yp] at hgd); (try simp only [Act.put, Zs, Zz, Zc]); go_simp; (try simp (disch := omega) only [Yq, Yr]); (first | done | exact rfl | (intro _; exact rfl)))); simp only [Act.put, Zs, Zz, Zc])); (first | go_big_quiet_step (fail) | (refine wpQuiet_liftE (wanted_T rfl rfl rfl) ?_; refine lift_put (n := 43) rfl (fun h => h) ?_; refine lift_load rfl rfl ?_; apply Exists.intro; refine ⟨fun hgd => ?_, ?_⟩; (focus ((try simp only [Ya, Ye, Yb, Yd, Yc, Yg, Ys, Yt, Yh, Yi, Yj, Yk, Yl, Ym, Yn, int_eq_le, Yo, Yp] at hgd); (try simp only [Act.put, Zs, Zz, Zc]); go_simp; (try simp (disch := omega) only [Yq, Yr]); (first | done | exact rfl | (intro _; exact rfl)))); simp only [Act.put, Zs, Zz, Zc])); (first | go_big_quiet_step (fail) | (refine wpQuiet_liftE (wanted_T rfl rfl rfl) ?_; refine lift_fieldAddr rfl rfl ?_; apply Exists.intro; refine ⟨fun hgd => ?_, ?_⟩; (focus ((try simp only [Ya, Ye, Yb, Yd, Yc, Yg, Ys, Yt, Yh, Yi, Yj, Yk, Yl, Ym, Yn, int_eq_le, Yo, Yp] at hgd); (try simp only [Act.put, Zs, Zz, Zc]); go_simp; (try simp (disch := omega) only [Yq, Yr]); (first | done | exact rfl | (intro _; exact rfl)))); simp only [Act.put, Zs, Zz, Zc])); (first | go_big_quiet_step (fail) | (refine wpQuiet_liftE (wanted_T rfl rfl rfl) ?_; refine lift_put (n := 45) rfl (fun h => h) ?_; refine lift_load rfl rfl ?_; apply Exists.intro; refine ⟨fun hgd => ?_, ?_⟩; (focus ((try simp only [Ya, Ye, Yb, Yd, Yc, Yg, Ys, Yt, Yh, Yi, Yj, Yk, Yl, Ym, Yn, int_eq_le, Yo, Yp] at hgd); (try simp only [Act.put, Zs, Zz, Zc]); go_simp; (try simp (disch := omega) only [Yq, Yr]); (first | done | exact rfl | (intro _; exact rfl)))); simp only [Act.put, Zs, Zz, Zc])); (first | go_big_quiet_step (fail) | (refine wpQuiet_liftE (wanted_T rfl rfl rfl) ?_; refine lift_put (n := 44) rfl (fun h => h) ?_; refine lift_put (n := 46) rfl (fun h => h) ?_; refine lift_binOp_tt rfl rfl rfl ?_; apply Exists.intro; refine ⟨fun hgd => ?_, ?_⟩; (focus ((try simp only [Ya, Ye, Yb, Yd, Yc, Yg, Ys, Yt, Yh, Yi, Yj, Yk, Yl, Ym, Yn, int_eq_le, Yo, Yp] at hgd); (try simp only [Act.put, Zs, Zz, Zc]); go_simp; (try simp (disch := omega) only [Yq, Yr]); (first | done | exact rfl | (intro _; exact rfl)))); simp only [Act.put, Zs, Zz, Zc])); (first | (refine wpQuiet_pick_and rfl rfl rfl rfl ?_; simp only [Act.put, Zs, Zz, Zc]) | go_big_quiet_step (fail)); (first | go_big_quiet_step (fail) | quiet_step (fail)); (first | go_big_quiet_step (fail) | (refine wpQuiet_liftE (wanted_T rfl rfl rfl) ?_; refine lift_fieldAddr rfl rfl ?_; apply Exists.intro; refine ⟨fun hgd => ?_, ?_⟩; (focus ((try simp only [Ya, Ye, Yb, Yd, Yc, Yg, Ys, Yt, Yh, Yi, Yj, Yk, Yl, Ym, Yn, int_eq_le, Yo, Yp] at hgd); (try simp only [Act.put, Zs, Zz, Zc]); go_simp; (try simp (disch := omega) only [Yq, Yr]); (first | done | exact rfl | (intro _; exact rfl)))); simp only [Act.put, Zs, Zz, Zc])); (first | go_big_quiet_step (fail) | (refine wpQuiet_liftE (wanted_T rfl rfl rfl) ?_; refine lift_put (n := 50) rfl (fun h => h) ?_; refine lift_load rfl rfl ?_; apply Exists.intro; refine ⟨fun hgd => ?_, ?_⟩; (focus ((try simp only [Ya, Ye, Yb, Yd, Yc, Yg, Ys, Yt, Yh, Yi, Yj, Yk, Yl, Ym, Yn, int_eq_le, Yo, Yp] at hgd); (try simp only [Act.put, Zs, Zz, Zc]); go_simp; (try simp (disch := omega) only [Yq, Yr]); (first | done | exact rfl | (intro _; exact rfl)))); simp only [Act.put, Zs, Zz, Zc])); (first | go_big_quiet_step (fail) | (refine wpQuiet_liftE (wanted_T rfl rfl rfl) ?_; refine lift_fieldAddr rfl rfl ?_; apply Exists.intro; refine ⟨fun hgd => ?_, ?_⟩; (focus ((try simp only [Ya, Ye, Yb, Yd, Yc, Yg, Ys, Yt, Yh, Yi, Yj, Yk, Yl, Ym, Yn, int_eq_le, Yo, Yp] at hgd); (try simp only [Act.put, Zs, Zz, Zc]); go_simp; (try simp (disch := omega) only [Yq, Yr]); (first | done | exact rfl | (intro _; exact rfl)))); simp only [Act.put, Zs, Zz, Zc])); (first | go_big_quiet_step (fail) | (refine wpQuiet_liftE (wanted_T rfl rfl rfl) ?_; refine lift_put (n := 52) rfl (fun h => h) ?_; refine lift_load rfl rfl ?_; apply Exists.intro; refine ⟨fun hgd => ?_, ?_⟩; (focus ((try simp only [Ya, Ye, Yb, Yd, Yc, Yg, Ys, Yt, Yh, Yi, Yj, Yk, Yl, Ym, Yn, int_eq_le, Yo, Yp] at hgd); (try simp only [Act.put, Zs, Zz, Zc]); go_simp; (try simp (disch := omega) only [Yq, Yr]); (first | done | exact rfl | (intro _; exact rfl)))); simp only [Act.put, Zs, Zz, Zc])); (first | go_big_quiet_step (fail) | (refine wpQuiet_liftE (wanted_T rfl rfl rfl) ?_; refine lift_put (n := 51) rfl (fun h => h) ?_; refine lift_put (n := 53) rfl (fun h => h) ?_; refine lift_binOp_tt rfl rfl rfl ?_; apply Exists.intro; refine ⟨fun hgd => ?_, ?_⟩; (focus ((try simp only [Ya, Ye, Yb, Yd, Yc, Yg, Ys, Yt, Yh, Yi, Yj, Yk, Yl, Ym, Yn, int_eq_le, Yo, Yp] at hgd); (try simp only [Act.put, Zs, Zz, Zc]); go_simp; (try simp (disch := omega) only [Yq, Yr]); (first | done | exact rfl | (intro _; exact rfl)))); simp only [Act.put, Zs, Zz, Zc])); (first | (refine wpQuiet_pick_and rfl rfl rfl rfl ?_; simp only [Act.put, Zs, Zz, Zc]) | go_big_quiet_step (fail)); (first | go_big_quiet_step (fail) | quiet_step (fail)); (first | go_big_quiet_step (fail) | (refine wpQuiet_liftE (wanted_T rfl rfl rfl) ?_; refine lift_fieldAddr rfl rfl ?_; apply Exists.intro; refine ⟨fun hgd => ?_, ?_⟩; (focus ((try simp only [Ya, Ye, Yb, Yd, Yc, Yg, Ys, Yt, Yh, Yi, Yj, Yk, Yl, Ym, Yn, int_eq_le, Yo, Yp] at hgd); (try simp only [Act.put, Zs, Zz, Zc]); go_simp; (try simp (disch := omega) only [Yq, Yr]); (first | done | exact rfl | (intro _; exact rfl)))); simp only [Act.put, Zs, Zz, Zc])); (first | go_big_quiet_step (fail) | (refine wpQuiet_liftE (wanted_T rfl rfl rfl) ?_; refine lift_put (n := 57) rfl (fun h => h) ?_; refine lift_load rfl rfl ?_; apply Exists.intro; refine ⟨fun hgd => ?_, ?_⟩; (focus ((try simp only [Ya, Ye, Yb, Yd, Yc, Yg, Ys, Yt, Yh, Yi, Yj, Yk, Yl, Ym, Yn, int_eq_le, Yo, Yp] at hgd); (try simp only [Act.put, Zs, Zz, Zc]); go_simp; (try simp (disch := omega) only [Yq, Yr]); (first | done | exact rfl | (intro _; exact rfl)))); simp only [Act.put, Zs, Zz, Zc])); (first | go_big_quiet_step (fail) | (refine wpQuiet_liftE (wanted_T rfl rfl rfl) ?_; refine lift_fieldAddr rfl rfl ?_; apply Exists.intro; refine ⟨fun hgd => ?_, ?_⟩; (focus ((try simp only [Ya, Ye, Yb, Yd, Yc, Yg, Ys, Yt, Yh, Yi, Yj, Yk, Yl, Ym, Yn, int_eq_le, Yo, Yp] at hgd); (try simp only [Act.put, Zs, Zz, Zc]); go_simp; (try simp (disch := omega) only [Yq, Yr]); (first | done | exact rfl | (intro _; exact rfl)))); simp only [Act.put, Zs, Zz, Zc])); (first | go_big_quiet_step (fail) | (refine wpQuiet_liftE (wanted_T rfl rfl rfl) ?_; refine lift_put (n := 59) rfl (fun h => h) ?_; refine lift_load rfl rfl ?_; apply Exists.intro; refine ⟨fun hgd => ?_, ?_⟩; (focus ((try simp only [Ya, Ye, Yb, Yd, Yc, Yg, Ys, Yt, Yh, Yi, Yj, Yk, Yl, Ym, Yn, int_eq_le, Yo, Yp] at hgd); (try simp only [Act.put, Zs, Zz, Zc]); go_simp; (try simp (disch := omega) only [Yq, Yr]); (first | done | exact rfl | (intro _; exact rfl)))); simp only [Act.put, Zs, Zz, Zc])); (first | go_big_quiet_step (fail) | (refine wpQuiet_liftE (wanted_T rfl rfl rfl) ?_; refine lift_put (n := 60) rfl (fun h => h) ?_; refine lift_binOp_tc rfl rfl ?_; apply Exists.intro; refine ⟨fun hgd => ?_, ?_⟩; (focus ((try simp only [Ya, Ye, Yb, Yd, Yc, Yg, Ys, Yt, Yh, Yi, Yj, Yk, Yl, Ym, Yn, int_eq_le, Yo, Yp] at hgd); (try simp only [Act.put, Zs, Zz, Zc]); go_simp; (try simp (disch := omega) only [Yq, Yr]); (first | done | exact rfl | (intro _; exact rfl)))); simp only [Act.put, Zs, Zz, Zc])); (first | go_big_quiet_step (fail) | (refine wpQuiet_liftE (wanted_T rfl rfl rfl) ?_; refine lift_put (n := 58) rfl (fun h => h) ?_; refine lift_put (n := 61) rfl (fun h => h) ?_; refine lift_binOp_tt rfl rfl rfl ?_; apply Exists.intro; refine ⟨fun hgd => ?_, ?_⟩; (focus ((try simp only [Ya, Ye, Yb, Yd, Yc, Yg, Ys, Yt, Yh, Yi, Yj, Yk, Yl, Ym, Yn, int_eq_le, Yo, Yp] at hgd); (try simp only [Act.put, Zs, Zz, Zc]); go_simp; (try simp (disch := omega) only [Yq, Yr]); (first | done | exact rfl | (intro _; exact rfl)))); simp only [Act.put, Zs, Zz, Zc])); (first | (refine wpQuiet_pick_and rfl rfl rfl rfl ?_; simp only [Act.put, Zs, Zz, Zc]) | go_big_quiet_step (fail)); (first | go_big_quiet_step (fail) | quiet_step (fail)); (first | go_big_quiet_step (fail) | (refine wpQuiet_liftE (wanted_T rfl rfl rfl) ?_; refine lift_fieldAddr rfl rfl ?_; apply Exists.intro; refine ⟨fun hgd => ?_, ?_⟩; (focus ((try simp only [Ya, Ye, Yb, Yd, Yc, Yg, Ys, Yt, Yh, Yi, Yj, Yk, Yl, Ym, Yn, int_eq_le, Yo, Yp] at hgd); (try simp only [Act.put, Zs, Zz, Zc]); go_simp; (try simp (disch := omega) only [Yq, Yr]); (first | done | exact rfl | (intro _; exact rfl)))); simp only [Act.put, Zs, Zz, Zc])); (first | go_big_quiet_step (fail) | (refine wpQuiet_liftE (wanted_T rfl rfl rfl) ?_; refine lift_put (n := 65) rfl (fun h => h) ?_; refine lift_load rfl rfl ?_; apply Exists.intro; refine ⟨fun hgd => ?_, ?_⟩; (focus ((try simp only [Ya, Ye, Yb, Yd, Yc, Yg, Ys, Yt, Yh, Yi, Yj, Yk, Yl, Ym, Yn, int_eq_le, Yo, Yp] at hgd); (try simp only [Act.put, Zs, Zz, Zc]); go_simp; (try simp (disch := omega) only [Yq, Yr]); (first | done | exact rfl | (intro _; exact rfl)))); simp only [Act.put, Zs, Zz, Zc])); (first | go_big_quiet_step (fail) | (refine wpQuiet_liftE (wanted_T rfl rfl rfl) ?_; refine lift_fieldAddr rfl rfl ?_; apply Exists.intro; refine ⟨fun hgd => ?_, ?_⟩; (focus ((try simp only [Ya, Ye, Yb, Yd, Yc, Yg, Ys, Yt, Yh, Yi, Yj, Yk, Yl, Ym, Yn, int_eq_le, Yo, Yp] at hgd); (try simp only [Act.put, Zs, Zz, Zc]); go_simp; (try simp (disch := omega) only [Yq, Yr]); (first | done | exact rfl | (intro _; exact rfl)))); simp only [Act.put, Zs, Zz, Zc])); (first | go_big_quiet_step (fail) | (refine wpQuiet_liftE (wanted_T rfl rfl rfl) ?_; refine lift_put (n := 67) rfl (fun h => h) ?_; refine lift_load rfl rfl ?_; apply Exists.intro; refine ⟨fun hgd => ?_, ?_⟩; (focus ((try simp only [Ya, Ye, Yb, Yd, Yc, Yg, Ys, Yt, Yh, Yi, Yj, Yk, Yl, Ym, Yn, int_eq_le, Yo, Yp] at hgd); (try simp only [Act.put, Zs, Zz, Zc]); go_simp; (try simp (disch := omega) only [Yq, Yr]); (first | done | exact rfl | (intro _; exact rfl)))); simp only [Act.put, Zs, Zz, Zc])); (first | go_big_quiet_step (fail) | (refine wpQuiet_liftE (wanted_T rfl rfl rfl) ?_; refine lift_put (n := 68) rfl (fun h => h) ?_; refine lift_binOp_tc rfl rfl ?_; apply Exists.intro; refine ⟨fun hgd => ?_, ?_⟩; (focus ((try simp only [Ya, Ye, Yb, Yd, Yc, Yg, Ys, Yt, Yh, Yi, Yj, Yk, Yl, Ym, Yn, int_eq_le, Yo, Yp] at hgd); (try simp only [Act.put, Zs, Zz, Zc]); go_simp; (try simp (disch := omega) only [Yq, Yr]); (first | done | exact rfl | (intro _; exact rfl)))); simp only [Act.put, Zs, Zz, Zc])); (first | go_big_quiet_step (fail) | (refine wpQuiet_liftE (wanted_T rfl rfl rfl) ?_; refine lift_put (n := 66) rfl (fun h => h) ?_; refine lift_put (n := 69) rfl (fun h => h) ?_; refine lift_binOp_tt rfl rfl rfl ?_; apply Exists.intro; refine ⟨fun hgd => ?_, ?_⟩; (focus ((try simp only [Ya, Ye, Yb, Yd, Yc, Yg, Ys, Yt, Yh, Yi, Yj, Yk, Yl, Ym, Yn, int_eq_le, Yo, Yp] at hgd); (try simp only [Act.put, Zs, Zz, Zc]); go_simp; (try simp (disch := omega) only [Yq, Yr]); (first | done | exact rfl | (intro _; exact rfl)))); simp only [Act.put, Zs, Zz, Zc])); (first | (refine wpQuiet_pick_and rfl rfl rfl rfl ?_; simp only [Act.put, Zs, Zz, Zc]) | go_big_quiet_step (fail)); (first | go_big_quiet_step (fail) | quiet_step (fail)); (with_reducible refine wpQuiet_nil ?_); intro wq hwq; subst hwq)))
  go_ret
  exact ⟨ret_b (by rw [HR.out, ← HN.out]; rfl), hE⟩

theorem rnum_P : ∀ t : BT, NumROK t
  | .E => rnum_E
  | .N h f l g a y b => by
    intro A v w ht hv hd
    cases h1 : numR a with
    | false => exact rnum_f (rnum_P a) (rnum_P b) h1 A v w ht hv hd
    | true =>
      cases h2 : numR b with
      | false => exact rnum_tf (rnum_P a) (rnum_P b) h1 h2 A v w ht hv hd
      | true => exact rnum_tt (rnum_P a) (rnum_P b) h1 h2 A v w ht hv hd

end Go.Proofs.Ytnbohogkfdeddaa

set_option linter.unusedSimpArgs false
set_option linter.unusedVariables false
namespace Go.Proofs.Ytnbohogkfdeddaa
open Go.RowKit

/-- What the reference's Check says of a formed tree. -/
def chkR (t : BT) : Int := if (BuildF t.regs).2 ≠ 0 then (BuildF t.regs).2 else if numR t = true then 0 else 11
theorem rlisted_is (l : List RV) (s : Value) (w : World) (hs : isSl w s 6 l.length (rF l)) (hlen : l.length ≤ 1000) (e : Int) (h : (BuildF l).2 = e) :
    Calls Try.prog 32 #[s] w fun x w' => x = .returned (.int .i64 e) ∧ Ext w w' := by
  subst h
  exact rlisted_any l s w hs hlen
set_option maxRecDepth 100000 in
set_option maxHeartbeats 4000000 in
theorem rchk_l {A : Nat → Prop} (t : BT) (v : TV) (w : World) (ht : isT A w t v) (hl : t.regs.length ≤ 1000) (h1 : (BuildF t.regs).2 ≠ 0) :
    Calls Try.prog 24 #[.agg v.cs.toArray] w fun e w' => e = .returned (.int .i64 (BuildF t.regs).2) ∧ Ext w w' := by
  replace ht := ht.lw
  have hd : t.dp ≤ 1000 := by have := BT.dp_len t; omega
  have hb1 : ((BuildF t.regs).2 != 0) = true := by simpa using h1
  obtain ⟨E, hEq⟩ : ∃ E, E = (BuildF t.regs).2 := ⟨_, rfl⟩
  rw [← hEq] at hb1 ⊢
  replace hEq : Hid _ := hEq
  replace h1 : Hid _ := h1
  go_enter Try.func24, Try.ntmps24
  go_upto_region 1 with fail
  refine name_wX (fun W1 hW => ?_)
  have hE : Ext w W1 := by rw [hW]; repeat' (first | exact Ext.refl _ | apply Ext.al)
  have b0 : Blk W1 (w.heap.size) 28 v.cs := by rw [hW]; exact Blk.newAt rfl
  clear hW
  obtain ⟨r0, hr0⟩ : ∃ r, r = w.heap.size := ⟨_, rfl⟩
  rw [← hr0] at b0
  try rw [← hr0]
  have q0 : w.heap.size ≤ r0 := by omega
  clear hr0
  have qz : r0 < W1.heap.size := b0.lt
  replace ht := isT.ext hE ht
  go_upto_region 1 with fail
  refine wp_region_lit ?_
  refine wpList_plain rfl (fun K hK => ?_); (first | (refine wp_ld 28 _ (b0.range) (by rfl) (by rfl) Try.underlying28 rfl (by exact Try.infoT) ?_)); (try dsimp only); refine hK _ _ ?_; clear hK K; (try simp only [Act.put, Zs, Zz, Zc])
  refine wpList_plain rfl (fun K hK => ?_); go_simp; (go_at_call 47; refine (rform_P t _ _ _ ht).mono ?_; intro e W2 hpp; obtain ⟨rfl, hx⟩ := hpp); (try dsimp only); refine hK _ _ ?_; clear hK K; (try simp only [Act.put, Zs, Zz, Zc])
  replace b0 := b0.ext hx
  replace ht := isT.ext hx ht
  replace hE := hE.trans hx
  clear hx
  replace qz : r0 < W2.heap.size := b0.lt
  refine wpList_plain rfl (fun K hK => ?_); go_simp; (try dsimp only); refine hK _ _ ?_; clear hK K; (try simp only [Act.put, Zs, Zz, Zc])
  refine wpList_nil ?_
  go_upto_region 3 with fail
  refine wp_region_lit ?_
  refine wpList_plain rfl (fun K hK => ?_); (first | (refine wp_ld 28 _ (b0.range) (by rfl) (by rfl) Try.underlying28 rfl (by exact Try.infoT) ?_)); (try dsimp only); refine hK _ _ ?_; clear hK K; (try simp only [Act.put, Zs, Zz, Zc])
  refine wpList_plain rfl (fun K hK => ?_); go_simp; (go_at_call 48; refine (rregs_any t _ _ ht (by omega)).mono ?_; intro e W3 hpp; obtain ⟨u, rfl, hown, hx⟩ := hpp); (try dsimp only); refine hK _ _ ?_; clear hK K; (try simp only [Act.put, Zs, Zz, Zc])
  replace b0 := b0.ext hx
  replace ht := isT.ext hx ht
  replace hE := hE.trans hx
  clear hx
  replace qz : r0 < W3.heap.size := b0.lt
  refine wpList_plain rfl (fun K hK => ?_); go_simp; (try dsimp only); refine hK _ _ ?_; clear hK K; (try simp only [Act.put, Zs, Zz, Zc])
  refine wpList_nil ?_
  go_upto_region 4 with fail
  refine wp_region_lit ?_
  refine wpList_plain rfl (fun K hK => ?_); go_simp; (try dsimp only); refine hK _ _ ?_; clear hK K; (try simp only [Act.put, Zs, Zz, Zc])
  refine wpList_plain rfl (fun K hK => ?_); go_simp; (go_at_call 32; refine (rlisted_is t.regs _ _ hown.isSl hl _ hEq.out.symm).mono ?_; intro e W4 hpp; obtain ⟨rfl, hx⟩ := hpp); (try dsimp only); refine hK _ _ ?_; clear hK K; (try simp only [Act.put, Zs, Zz, Zc])
  replace b0 := b0.ext hx
  replace ht := isT.ext hx ht
  replace hown := hown.ext hx
  replace hE := hE.trans hx
  clear hx
  replace qz : r0 < W4.heap.size := b0.lt
  refine wpList_plain rfl (fun K hK => ?_); go_simp; (try dsimp only); refine hK _ _ ?_; clear hK K; (try simp only [Act.put, Zs, Zz, Zc])
  refine wpList_nil ?_
  go_upto_region 5 with fail
  refine wp_region_lit ?_
  refine wpList_plain rfl (fun K hK => ?_); go_simp; (try dsimp only); refine hK _ _ ?_; clear hK K; (try simp only [Act.put, Zs, Zz, Zc])
  refine wpList_plain rfl (fun K hK => ?_); go_simp; (try simp (disch := omega) only [Yq, Yr]); (try simp only [hb1]); (try dsimp only); refine hK _ _ ?_; clear hK K; (try simp only [Act.put, Zs, Zz, Zc])
  refine wpList_nil ?_
  go_upto_region 6 with fail
  refine wp_region_lit ?_
  iterate 2 (refine wpList_plain rfl (fun K hK => ?_); go_simp; (try dsimp only); refine hK _ _ ?_; clear hK K; (try simp only [Act.put, Zs, Zz, Zc]))
  refine wpList_nil ?_
  go_wp2_with fail
  go_ret
  exact ⟨rfl, hE⟩

set_option maxRecDepth 100000 in
set_option maxHeartbeats 4000000 in
theorem rchk_n {A : Nat → Prop} (t : BT) (v : TV) (w : World) (ht : isT A w t v) (hl : t.regs.length ≤ 1000) (h1 : (BuildF t.regs).2 = 0) (h2 : numR t = false) :
    Calls Try.prog 24 #[.agg v.cs.toArray] w fun e w' => e = .returned (.int .i64 11) ∧ Ext w w' := by
  replace ht := ht.lw
  have hd : t.dp ≤ 1000 := by have := BT.dp_len t; omega
  have hva := (BuildF_ok _ h1).2
  replace h2 : Hid _ := h2
  replace h1 : Hid _ := h1
  go_enter Try.func24, Try.ntmps24
  go_upto_region 1 with fail
  refine name_wX (fun W1 hW => ?_)
  have hE : Ext w W1 := by rw [hW]; repeat' (first | exact Ext.refl _ | apply Ext.al)
  have b0 : Blk W1 (w.heap.size) 28 v.cs := by rw [hW]; exact Blk.newAt rfl
  clear hW
  obtain ⟨r0, hr0⟩ : ∃ r, r = w.heap.size := ⟨_, rfl⟩
  rw [← hr0] at b0
  try rw [← hr0]
  have q0 : w.heap.size ≤ r0 := by omega
  clear hr0
  have qz : r0 < W1.heap.size := b0.lt
  replace ht := isT.ext hE ht
  go_upto_region 1 with fail
  refine wp_region_lit ?_
  refine wpList_plain rfl (fun K hK => ?_); (first | (refine wp_ld 28 _ (b0.range) (by rfl) (by rfl) Try.underlying28 rfl (by exact Try.infoT) ?_)); (try dsimp only); refine hK _ _ ?_; clear hK K; (try simp only [Act.put, Zs, Zz, Zc])
  refine wpList_plain rfl (fun K hK => ?_); go_simp; (go_at_call 47; refine (rform_P t _ _ _ ht).mono ?_; intro e W2 hpp; obtain ⟨rfl, hx⟩ := hpp); (try dsimp only); refine hK _ _ ?_; clear hK K; (try simp only [Act.put, Zs, Zz, Zc])
  replace b0 := b0.ext hx
  replace ht := isT.ext hx ht
  replace hE := hE.trans hx
  clear hx
  replace qz : r0 < W2.heap.size := b0.lt
  refine wpList_plain rfl (fun K hK => ?_); go_simp; (try dsimp only); refine hK _ _ ?_; clear hK K; (try simp only [Act.put, Zs, Zz, Zc])
  refine wpList_nil ?_
  go_upto_region 3 with fail
  refine wp_region_lit ?_
  refine wpList_plain rfl (fun K hK => ?_); (first | (refine wp_ld 28 _ (b0.range) (by rfl) (by rfl) Try.underlying28 rfl (by exact Try.infoT) ?_)); (try dsimp only); refine hK _ _ ?_; clear hK K; (try simp only [Act.put, Zs, Zz, Zc])
  refine wpList_plain rfl (fun K hK => ?_); go_simp; (go_at_call 48; refine (rregs_any t _ _ ht (by omega)).mono ?_; intro e W3 hpp; obtain ⟨u, rfl, hown, hx⟩ := hpp); (try dsimp only); refine hK _ _ ?_; clear hK K; (try simp only [Act.put, Zs, Zz, Zc])
  replace b0 := b0.ext hx
  replace ht := isT.ext hx ht
  replace hE := hE.trans hx
  clear hx
  replace qz : r0 < W3.heap.size := b0.lt
  refine wpList_plain rfl (fun K hK => ?_); go_simp; (try dsimp only); refine hK _ _ ?_; clear hK K; (try simp only [Act.put, Zs, Zz, Zc])
  refine wpList_nil ?_
  go_upto_region 4 with fail
  refine wp_region_lit ?_
  refine wpList_plain rfl (fun K hK => ?_); go_simp; (try dsimp only); refine hK _ _ ?_; clear hK K; (try simp only [Act.put, Zs, Zz, Zc])
  refine wpList_plain rfl (fun K hK => ?_); go_simp; (go_at_call 32; refine (rlisted_is t.regs _ _ hown.isSl hl 0 h1.out).mono ?_; intro e W4 hpp; obtain ⟨rfl, hx⟩ := hpp); (try dsimp only); refine hK _ _ ?_; clear hK K; (try simp only [Act.put, Zs, Zz, Zc])
  replace b0 := b0.ext hx
  replace ht := isT.ext hx ht
  replace hown := hown.ext hx
  replace hE := hE.trans hx
  clear hx
  replace qz : r0 < W4.heap.size := b0.lt
  refine wpList_plain rfl (fun K hK => ?_); go_simp; (try dsimp only); refine hK _ _ ?_; clear hK K; (try simp only [Act.put, Zs, Zz, Zc])
  refine wpList_nil ?_
  go_upto_region 5 with fail
  refine wp_region_lit ?_
  refine wpList_plain rfl (fun K hK => ?_); go_simp; (try dsimp only); refine hK _ _ ?_; clear hK K; (try simp only [Act.put, Zs, Zz, Zc])
  refine wpList_plain rfl (fun K hK => ?_); go_simp; (try simp (disch := omega) only [Yq, Yr]); (try dsimp only); refine hK _ _ ?_; clear hK K; (try simp only [Act.put, Zs, Zz, Zc])
  refine wpList_nil ?_
  go_upto_region 7 with fail
  refine wp_region_lit ?_
  refine wpList_plain rfl (fun K hK => ?_); (first | (refine wp_ld 28 _ (b0.range) (by rfl) (by rfl) Try.underlying28 rfl (by exact Try.infoT) ?_)); (try dsimp only); refine hK _ _ ?_; clear hK K; (try simp only [Act.put, Zs, Zz, Zc])
  refine wpList_plain rfl (fun K hK => ?_); go_simp; (go_at_call 49; refine (rnum_is (rnum_P t) ht hva hd h2.out).mono ?_; intro e W5 hpp; obtain ⟨rfl, hx⟩ := hpp); (try dsimp only); refine hK _ _ ?_; clear hK K; (try simp only [Act.put, Zs, Zz, Zc])
  replace b0 := b0.ext hx
  replace ht := isT.ext hx ht
  replace hown := hown.ext hx
  replace hE := hE.trans hx
  clear hx
  replace qz : r0 < W5.heap.size := b0.lt
  refine wpList_plain rfl (fun K hK => ?_); go_simp; (try dsimp only); refine hK _ _ ?_; clear hK K; (try simp only [Act.put, Zs, Zz, Zc])
  refine wpList_nil ?_
  go_upto_region 8 with fail
  refine wp_region_lit ?_
  refine wpList_plain rfl (fun K hK => ?_); go_simp; (try dsimp only); refine hK _ _ ?_; clear hK K; (try simp only [Act.put, Zs, Zz, Zc])
  refine wpList_nil ?_
  go_wp2_with fail
  go_ret
  exact ⟨rfl, hE⟩

set_option maxRecDepth 100000 in
set_option maxHeartbeats 4000000 in
theorem rchk_0 {A : Nat → Prop} (t : BT) (v : TV) (w : World) (ht : isT A w t v) (hl : t.regs.length ≤ 1000) (h1 : (BuildF t.regs).2 = 0) (h2 : numR t = true) :
    Calls Try.prog 24 #[.agg v.cs.toArray] w fun e w' => e = .returned (.int .i64 0) ∧ Ext w w' := by
  replace ht := ht.lw
  have hd : t.dp ≤ 1000 := by have := BT.dp_len t; omega
  have hva := (BuildF_ok _ h1).2
  replace h2 : Hid _ := h2
  replace h1 : Hid _ := h1
  go_enter Try.func24, Try.ntmps24
  go_upto_region 1 with fail
  refine name_wX (fun W1 hW => ?_)
  have hE : Ext w W1 := by rw [hW]; repeat' (first | exact Ext.refl _ | apply Ext.al)
  have b0 : Blk W1 (w.heap.size) 28 v.cs := by rw [hW]; exact Blk.newAt rfl
  clear hW
  obtain ⟨r0, hr0⟩ : ∃ r, r = w.heap.size := ⟨_, rfl⟩
  rw [← hr0] at b0
  try rw [← hr0]
  have q0 : w.heap.size ≤ r0 := by omega
  clear hr0
  have qz : r0 < W1.heap.size := b0.lt
  replace ht := isT.ext hE ht
  go_upto_region 1 with fail
  refine wp_region_lit ?_
  refine wpList_plain rfl (fun K hK => ?_); (first | (refine wp_ld 28 _ (b0.range) (by rfl) (by rfl) Try.underlying28 rfl (by exact Try.infoT) ?_)); (try dsimp only); refine hK _ _ ?_; clear hK K; (try simp only [Act.put, Zs, Zz, Zc])
  refine wpList_plain rfl (fun K hK => ?_); go_simp; (go_at_call 47; refine (rform_P t _ _ _ ht).mono ?_; intro e W2 hpp; obtain ⟨rfl, hx⟩ := hpp); (try dsimp only); refine hK _ _ ?_; clear hK K; (try simp only [Act.put, Zs, Zz, Zc])
  replace b0 := b0.ext hx
  replace ht := isT.ext hx ht
  replace hE := hE.trans hx
  clear hx
  replace qz : r0 < W2.heap.size := b0.lt
  refine wpList_plain rfl (fun K hK => ?_); go_simp; (try dsimp only); refine hK _ _ ?_; clear hK K; (try simp only [Act.put, Zs, Zz, Zc])
  refine wpList_nil ?_
  go_upto_region 3 with fail
  refine wp_region_lit ?_
  refine wpList_plain rfl (fun K hK => ?_); (first | (refine wp_ld 28 _ (b0.range) (by rfl) (by rfl) Try.underlying28 rfl (by exact Try.infoT) ?_)); (try dsimp only); refine hK _ _ ?_; clear hK K; (try simp only [Act.put, Zs, Zz, Zc])
  refine wpList_plain rfl (fun K hK => ?_); go_simp; (go_at_call 48; refine (rregs_any t _ _ ht (by omega)).mono ?_; intro e W3 hpp; obtain ⟨u, rfl, hown, hx⟩ := hpp); (try dsimp only); refine hK _ _ ?_; clear hK K; (try simp only [Act.put, Zs, Zz, Zc])
  replace b0 := b0.ext hx
  replace ht := isT.ext hx ht
  replace hE := hE.trans hx
  clear hx
  replace qz : r0 < W3.heap.size := b0.lt
  refine wpList_plain rfl (fun K hK => ?_); go_simp; (try dsimp only); refine hK _ _ ?_; clear hK K; (try simp only [Act.put, Zs, Zz, Zc])
  refine wpList_nil ?_
  go_upto_region 4 with fail
  refine wp_region_lit ?_
  refine wpList_plain rfl (fun K hK => ?_); go_simp; (try dsimp only); refine hK _ _ ?_; clear hK K; (try simp only [Act.put, Zs, Zz, Zc])
  refine wpList_plain rfl (fun K hK => ?_); go_simp; (go_at_call 32; refine (rlisted_is t.regs _ _ hown.isSl hl 0 h1.out).mono ?_; intro e W4 hpp; obtain ⟨rfl, hx⟩ := hpp); (try dsimp only); refine hK _ _ ?_; clear hK K; (try simp only [Act.put, Zs, Zz, Zc])
  replace b0 := b0.ext hx
  replace ht := isT.ext hx ht
  replace hown := hown.ext hx
  replace hE := hE.trans hx
  clear hx
  replace qz : r0 < W4.heap.size := b0.lt
  refine wpList_plain rfl (fun K hK => ?_); go_simp; (try dsimp only); refine hK _ _ ?_; clear hK K; (try simp only [Act.put, Zs, Zz, Zc])
  refine wpList_nil ?_
  go_upto_region 5 with fail
  refine wp_region_lit ?_
  refine wpList_plain rfl (fun K hK => ?_); go_simp; (try dsimp only); refine hK _ _ ?_; clear hK K; (try simp only [Act.put, Zs, Zz, Zc])
  refine wpList_plain rfl (fun K hK => ?_); go_simp; (try simp (disch := omega) only [Yq, Yr]); (try dsimp only); refine hK _ _ ?_; clear hK K; (try simp only [Act.put, Zs, Zz, Zc])
  refine wpList_nil ?_
  go_upto_region 7 with fail
  refine wp_region_lit ?_
  refine wpList_plain rfl (fun K hK => ?_); (first | (refine wp_ld 28 _ (b0.range) (by rfl) (by rfl) Try.underlying28 rfl (by exact Try.infoT) ?_)); (try dsimp only); refine hK _ _ ?_; clear hK K; (try simp only [Act.put, Zs, Zz, Zc])
  refine wpList_plain rfl (fun K hK => ?_); go_simp; (go_at_call 49; refine (rnum_is (rnum_P t) ht hva hd h2.out).mono ?_; intro e W5 hpp; obtain ⟨rfl, hx⟩ := hpp); (try dsimp only); refine hK _ _ ?_; clear hK K; (try simp only [Act.put, Zs, Zz, Zc])
  replace b0 := b0.ext hx
  replace ht := isT.ext hx ht
  replace hown := hown.ext hx
  replace hE := hE.trans hx
  clear hx
  replace qz : r0 < W5.heap.size := b0.lt
  refine wpList_plain rfl (fun K hK => ?_); go_simp; (try dsimp only); refine hK _ _ ?_; clear hK K; (try simp only [Act.put, Zs, Zz, Zc])
  refine wpList_nil ?_
  go_upto_region 9 with fail
  refine wp_region_lit ?_
  refine wpList_plain rfl (fun K hK => ?_); go_simp; (try dsimp only); refine hK _ _ ?_; clear hK K; (try simp only [Act.put, Zs, Zz, Zc])
  refine wpList_nil ?_
  go_wp2_with fail
  go_ret
  exact ⟨rfl, hE⟩

theorem rcheck_any {A : Nat → Prop} (t : BT) (v : TV) (w : World) (ht : isT A w t v) (hl : t.regs.length ≤ 1000) :
    Calls Try.prog 24 #[.agg v.cs.toArray] w fun e w' => e = .returned (.int .i64 (chkR t)) ∧ Ext w w' := by
  unfold chkR
  by_cases h1 : (BuildF t.regs).2 = 0
  · rw [if_neg (by simp [h1])]
    cases h2 : numR t with
    | false => rw [if_neg (by decide)]; exact rchk_n t v w ht hl h1 h2
    | true => rw [if_pos rfl]; exact rchk_0 t v w ht hl h1 h2
  · rw [if_pos h1]
    exact rchk_l t v w ht hl h1
theorem bldF_ord : ∀ (l : List RV) (p : PT) (last : Int), ord l → (∀ x ∈ l, last ≤ x.s) → (bldF p last l).2 = 0
  | [], _, _, _, _ => rfl
  | x :: l, p, last, h, hl => by
    obtain ⟨h1, h2, h3⟩ := ord_cons h
    have := hl x (by simp)
    rw [bldF, if_neg (by omega)]
    exact bldF_ord l _ _ h2 (fun y hy => h3 y hy)
theorem BuildF_ord {l : List RV} (h : ord l) : (BuildF l).2 = 0 := by
  unfold BuildF
  rw [if_pos (List.all_eq_true.2 (fun x hx => (vldB_iff x).2 (h.v x hx)))]
  exact bldF_ord l _ _ h (fun x hx => (h.v x hx).1)
theorem okN_P {l : PT} {x : RV} {r : PT} (h : good (.N l x r)) : okN (PT.N l x r).bt = true := by
  obtain ⟨gl, gx, gr⟩ := good_node h
  obtain ⟨a1, a2, a3, a4⟩ := bt_tv l (.int .i64 0)
  obtain ⟨b1, b2, b3, b4⟩ := bt_tv r (.int .i64 0)
  have hb := badN_P h
  obtain ⟨_, _, c1, c2⟩ := h.b
  simp only [PT.bt, badN, badV, Bool.or_eq_false_iff, bne_eq_false_iff_eq] at hb
  obtain ⟨⟨⟨⟨⟨d1, d2⟩, d3⟩, d4⟩, _⟩, _⟩ := hb
  simp only [PT.bt, okN, okV, Bool.and_eq_true, beq_iff_eq, decide_eq_true_eq]
  refine ⟨⟨⟨⟨⟨d1.symm, d2.symm⟩, d3.symm⟩, d4.symm⟩, ?_⟩, ?_⟩ <;> omega
theorem num_good : ∀ (p : PT), good p → numR p.bt = true
  | .E, _ => rfl
  | .N l x r, h => by
    obtain ⟨gl, gx, gr⟩ := good_node h
    show (numR l.bt && numR r.bt && okN (PT.N l x r).bt) = true
    rw [num_good l gl, num_good r gr, okN_P h]
    rfl
theorem rchk_good {p : PT} (h : good p) : chkR p.bt = 0 := by
  unfold chkR
  rw [regs_flat, BuildF_ord h.o, if_neg (by decide), if_pos (num_good p h)]
theorem rcheck_P {A : Nat → Prop} (p : PT) (v : TV) (w : World) (hp : good p) (ht : isT A w p.bt v) :
    Calls Try.prog 24 #[.agg v.cs.toArray] w fun e w' => e = .returned (.int .i64 0) ∧ Ext w w' := by
  have := rcheck_any p.bt v w ht (by rw [regs_flat]; have := good_len hp; omega)
  rwa [rchk_good hp] at this
set_option maxRecDepth 100000 in
set_option maxHeartbeats 4000000 in
theorem rlist_bad {A : Nat → Prop} (t : BT) (v : TV) (w : World) (ht : isT A w t v) (hl : t.regs.length ≤ 1000) (h1 : chkR t ≠ 0) :
    Calls Try.prog 25 #[.agg v.cs.toArray] w fun e w' => ∃ u, e = .returned u ∧ ownR w' w.heap.size u [] ∧ Ext w w' := by
  replace ht := ht.lw
  have hb1 : (chkR t != 0) = true := by simp; exact h1
  replace h1 : Hid _ := h1
  go_enter Try.func25, Try.ntmps25
  go_upto_region 1 with fail
  refine name_wX (fun W1 hW => ?_)
  have hE : Ext w W1 := by rw [hW]; repeat' (first | exact Ext.refl _ | apply Ext.al)
  have b0 : Blk W1 (w.heap.size) 28 v.cs := by rw [hW]; exact Blk.newAt rfl
  clear hW
  obtain ⟨r0, hr0⟩ : ∃ r, r = w.heap.size := ⟨_, rfl⟩
  rw [← hr0] at b0
  try rw [← hr0]
  have q0 : w.heap.size ≤ r0 := by omega
  clear hr0
  have qz : r0 < W1.heap.size := b0.lt
  replace ht := isT.ext hE ht
  go_upto_region 1 with fail
  refine wp_region_lit ?_
  refine wpList_plain rfl (fun K hK => ?_); (first | (refine wp_ld 28 _ (b0.range) (by rfl) (by rfl) Try.underlying28 rfl (by exact Try.infoT) ?_)); (try dsimp only); refine hK _ _ ?_; clear hK K; (try simp only [Act.put, Zs, Zz, Zc])
  refine wpList_plain rfl (fun K hK => ?_); go_simp; (go_at_call 24; refine (rcheck_any t _ _ ht hl).mono ?_; intro e W2 hpp; obtain ⟨rfl, hx⟩ := hpp); (try dsimp only); refine hK _ _ ?_; clear hK K; (try simp only [Act.put, Zs, Zz, Zc])
  replace b0 := b0.ext hx
  replace ht := isT.ext hx ht
  replace hE := hE.trans hx
  clear hx
  replace qz : r0 < W2.heap.size := b0.lt
  refine wpList_plain rfl (fun K hK => ?_); go_simp; (try simp (disch := omega) only [Yq, Yr]); (try simp only [hb1]); (try dsimp only); refine hK _ _ ?_; clear hK K; (try simp only [Act.put, Zs, Zz, Zc])
  refine wpList_nil ?_
  go_upto_region 2 with fail
  refine wp_region_lit ?_
  refine wpList_plain rfl (fun K hK => ?_); go_simp; (try dsimp only); refine hK _ _ ?_; clear hK K; (try simp only [Act.put, Zs, Zz, Zc])
  refine wpList_nil ?_
  go_wp2_with fail
  go_ret
  exact ⟨_, rfl, ownR_nil _ _, hE⟩

set_option maxRecDepth 100000 in
set_option maxHeartbeats 4000000 in
theorem rlist_ok {A : Nat → Prop} (t : BT) (v : TV) (w : World) (ht : isT A w t v) (hl : t.regs.length ≤ 1000) (h1 : chkR t = 0) :
    Calls Try.prog 25 #[.agg v.cs.toArray] w fun e w' => ∃ u, e = .returned u ∧ ownR w' w.heap.size u t.regs ∧ Ext w w' := by
  replace ht := ht.lw
  have hb1 : (chkR t != 0) = false := by simp [h1]
  replace h1 : Hid _ := h1
  go_enter Try.func25, Try.ntmps25
  go_upto_region 1 with fail
  refine name_wX (fun W1 hW => ?_)
  have hE : Ext w W1 := by rw [hW]; repeat' (first | exact Ext.refl _ | apply Ext.al)
  have b0 : Blk W1 (w.heap.size) 28 v.cs := by rw [hW]; exact Blk.newAt rfl
  clear hW
  obtain ⟨r0, hr0⟩ : ∃ r, r = w.heap.size := ⟨_, rfl⟩
  rw [← hr0] at b0
  try rw [← hr0]
  have q0 : w.heap.size ≤ r0 := by omega
  clear hr0
  have qz : r0 < W1.heap.size := b0.lt
  replace ht := isT.ext hE ht
  go_upto_region 1 with fail
  refine wp_region_lit ?_
  refine wpList_plain rfl (fun K hK => ?_); (first | (refine wp_ld 28 _ (b0.range) (by rfl) (by rfl) Try.underlying28 rfl (by exact Try.infoT) ?_)); (try dsimp only); refine hK _ _ ?_; clear hK K; (try simp only [Act.put, Zs, Zz, Zc])
  refine wpList_plain rfl (fun K hK => ?_); go_simp; (go_at_call 24; refine (rcheck_any t _ _ ht hl).mono ?_; intro e W2 hpp; obtain ⟨rfl, hx⟩ := hpp); (try dsimp only); refine hK _ _ ?_; clear hK K; (try simp only [Act.put, Zs, Zz, Zc])
  replace b0 := b0.ext hx
  replace ht := isT.ext hx ht
  replace hE := hE.trans hx
  clear hx
  replace qz : r0 < W2.heap.size := b0.lt
  refine wpList_plain rfl (fun K hK => ?_); go_simp; (try simp (disch := omega) only [Yq, Yr]); (try simp only [hb1]); (try dsimp only); refine hK _ _ ?_; clear hK K; (try simp only [Act.put, Zs, Zz, Zc])
  refine wpList_nil ?_
  go_upto_region 3 with fail
  refine wp_region_lit ?_
  refine wpList_plain rfl (fun K hK => ?_); (first | (refine wp_ld 28 _ (b0.range) (by rfl) (by rfl) Try.underlying28 rfl (by exact Try.infoT) ?_)); (try dsimp only); refine hK _ _ ?_; clear hK K; (try simp only [Act.put, Zs, Zz, Zc])
  refine wpList_plain rfl (fun K hK => ?_); go_simp; (go_at_call 48; refine (rregs_any t _ _ ht (by omega)).mono ?_; intro e W3 hpp; obtain ⟨u, rfl, hown, hx⟩ := hpp); (try dsimp only); refine hK _ _ ?_; clear hK K; (try simp only [Act.put, Zs, Zz, Zc])
  have hwb := hE.below.size
  replace b0 := b0.ext hx
  replace ht := isT.ext hx ht
  replace hE := hE.trans hx
  clear hx
  replace qz : r0 < W3.heap.size := b0.lt
  refine wpList_plain rfl (fun K hK => ?_); go_simp; (try dsimp only); refine hK _ _ ?_; clear hK K; (try simp only [Act.put, Zs, Zz, Zc])
  refine wpList_nil ?_
  go_wp2_with fail
  go_ret
  exact ⟨u, rfl, ownR_base hown hwb, hE⟩

theorem rlist_P {A : Nat → Prop} (p : PT) (v : TV) (w : World) (hp : good p) (ht : isT A w p.bt v) :
    Calls Try.prog 25 #[.agg v.cs.toArray] w fun e w' => ∃ u, e = .returned u ∧ ownR w' w.heap.size u p.flat ∧ Ext w w' := by
  have := rlist_ok p.bt v w ht (by rw [regs_flat]; have := good_len hp; omega) (rchk_good hp)
  rwa [regs_flat] at this

end Go.Proofs.Ytnbohogkfdeddaa

set_option linter.unusedSimpArgs false
set_option linter.unusedVariables false
namespace Go.Proofs.Ytnbohogkfdeddaa
open Go.RowKit

theorem nodes_regs : ∀ t : BT, t.nodes.map BT.rg = t.regs
  | .E => rfl
  | .N h f l g a x b => by
    simp only [BT.nodes, BT.regs, List.map_append, List.map_cons, nodes_regs a, nodes_regs b]
    rfl
theorem av_all : ∀ (l : List RV) (ok : Bool), l.foldl (fun ok x => ok && vldB x) ok = (ok && l.all vldB)
  | [], ok => by simp
  | x :: l, ok => by
    rw [List.foldl_cons, av_all l]
    simp [Bool.and_assoc]
theorem avA_eq (t : BT) : avA t = t.regs.all vldB := by
  unfold avA
  rw [foldl_nodes (fun ok x => ok && vldB x), nodes_regs, av_all]
  simp
theorem od_bld : ∀ (l : List RV) (b : Bool) (m : Int) (p : PT), (l.foldl (fun (s : Bool × Int) x => (s.1 && decide (s.2 ≤ x.s), x.e)) (b, m)).1 = (b && decide ((bldF p m l).2 = 0))
  | [], b, m, p => by simp [bldF]
  | x :: l, b, m, p => by
    rw [List.foldl_cons, od_bld l _ _ (insP p x), bldF]
    by_cases c : x.s < m
    · rw [if_pos c]
      have : ¬ m ≤ x.s := by omega
      simp [this]
    · rw [if_neg c]
      have : m ≤ x.s := by omega
      simp [this]
theorem odA_eq (t : BT) : (odA t).1 = decide ((bldF .E 0 t.regs).2 = 0) := by
  unfold odA
  rw [foldl_nodes (fun (s : Bool × Int) x => (s.1 && decide (s.2 ≤ x.s), x.e)), nodes_regs, od_bld _ _ _ .E]
  simp
theorem bldF_two : ∀ (l : List RV) (p : PT) (m : Int), (bldF p m l).2 = 0 ∨ (bldF p m l).2 = 10
  | [], p, m => .inl rfl
  | x :: l, p, m => by
    rw [bldF]
    split
    · exact .inr rfl
    · exact bldF_two l _ _
theorem bad_fold : ∀ (l : List BT) (ok : Bool), l.foldl (fun ok b => bif badN b then false else ok) ok = (ok && l.all (fun b => !(badN b)))
  | [], ok => by simp
  | b :: l, ok => by
    rw [List.foldl_cons, bad_fold l]
    cases h : badN b <;> simp [h]
theorem bad_ok : ∀ t : BT, t.dp ≤ 1000 → ((∀ b ∈ t.nodes, badN b = false) ↔ numR t = true)
  | .E, _ => by simp [BT.nodes, numR]
  | .N h f l g a x b, hd => by
    have na := BT.dp_nn a
    have nb := BT.dp_nn b
    simp only [BT.dp] at hd
    have ia := bad_ok a (by omega)
    have ib := bad_ok b (by omega)
    have key : numR a = true → numR b = true → (badN (.N h f l g a x b) = false ↔ okN (.N h f l g a x b) = true) := fun h1 h2 => by
      have e1 := numR_h a h1 (by omega)
      have e2 := numR_h b h2 (by omega)
      simp only [badN, okN, badV, okV, tv_h, e1, e2, W64_in (a := a.dp - b.dp) (by omega), Bool.or_eq_false_iff, Bool.and_eq_true, bne_eq_false_iff_eq, beq_iff_eq, decide_eq_true_eq, decide_eq_false_iff_not]
      constructor
      · rintro ⟨⟨⟨⟨⟨q1, q2⟩, q3⟩, q4⟩, q5⟩, q6⟩
        exact ⟨⟨⟨⟨⟨q1.symm, q2.symm⟩, q3.symm⟩, q4.symm⟩, by omega⟩, by omega⟩
      · rintro ⟨⟨⟨⟨⟨q1, q2⟩, q3⟩, q4⟩, q5⟩, q6⟩
        exact ⟨⟨⟨⟨⟨q1.symm, q2.symm⟩, q3.symm⟩, q4.symm⟩, by omega⟩, by omega⟩
    constructor
    · intro hh
      have h1 := ia.1 (fun q hq => hh q (by simp [BT.nodes, hq]))
      have h2 := ib.1 (fun q hq => hh q (by simp [BT.nodes, hq]))
      have h3 := (key h1 h2).1 (hh _ (by simp [BT.nodes]))
      simp [numR, h1, h2, h3]
    · intro hh
      simp only [numR, Bool.and_eq_true] at hh
      obtain ⟨⟨h1, h2⟩, h3⟩ := hh
      intro q hq
      rcases List.mem_append.1 (show q ∈ a.nodes ++ BT.N h f l g a x b :: b.nodes from hq) with h | h
      · exact ia.2 h1 q h
      · rcases List.mem_cons.1 h with h | h
        · rw [h]; exact (key h1 h2).2 h3
        · exact ib.2 h2 q h
theorem numA_eq {t : BT} (hd : t.dp ≤ 1000) : numA t = numR t := by
  have h := bad_ok t hd
  unfold numA
  rw [bad_fold, Bool.true_and, Bool.eq_iff_iff, ← h, List.all_eq_true]
  simp
theorem chk_same {t : BT} (hd : t.dp ≤ 1000) : chkA t = chkR t := by
  unfold chkA chkR BuildF
  rw [avA_eq, odA_eq, numA_eq hd]
  cases h1 : t.regs.all vldB with
  | false => simp
  | true =>
    rcases bldF_two t.regs .E 0 with h2 | h2
    · simp [h2]
      cases numR t <;> simp
    · simp [h2]
/-- A tree without its numbers. -/
def BT.sh : BT → PT
  | .E => .E
  | .N _ _ _ _ a x b => .N a.sh x b.sh
theorem sh_flat : ∀ t : BT, t.sh.flat = t.regs
  | .E => rfl
  | .N h f l g a x b => by
    show a.sh.flat ++ x :: b.sh.flat = a.regs ++ x :: b.regs
    rw [sh_flat a, sh_flat b]
theorem sh_ht : ∀ t : BT, t.sh.ht = t.dp
  | .E => rfl
  | .N h f l g a x b => by
    simp only [BT.sh, PT.ht, BT.dp, sh_ht a, sh_ht b]
theorem nodeV_bt {l r : PT} {x : RV} (bl : bd l) (br : bd r) (hx : vld x) : nodeV (l.bt.tv (.int .i64 0)) x (r.bt.tv (.int .i64 0)) (.int .i64 0) = ⟨(PT.N l x r).ht, (PT.N l x r).fst, (PT.N l x r).lst, (PT.N l x r).gp, x, .int .i64 0⟩ := by
  obtain ⟨a1, a2, a3, a4⟩ := bt_tv l (.int .i64 0)
  obtain ⟨b1, b2, b3, b4⟩ := bt_tv r (.int .i64 0)
  have nl := PT.ht_nn l
  have nr := PT.ht_nn r
  have hl' := bl.h
  have hr' := br.h
  obtain ⟨l1, l2, l3, l4, l5, l6⟩ := num_bd bl.v
  obtain ⟨r1, r2, r3, r4, r5, r6⟩ := num_bd br.v
  obtain ⟨x1, x2, x3, x4⟩ := hx
  unfold nodeV gapV
  rw [a1, a2, a3, a4, b1, b2, b3, b4]
  simp only [mx_max, PT.ht, PT.fst, PT.lst, PT.gp, gapN]
  rw [W64_in (a := 1 + max l.ht r.ht) (by omega), W64_in (a := x.s - l.lst) (by omega), W64_in (a := r.fst - x.e) (by unfold RV.e; omega)]
theorem sh_bt : ∀ t : BT, numR t = true → (∀ x ∈ t.regs, vld x) → t.dp ≤ 1000 → t.sh.bt = t ∧ t.sh.bal
  | .E, _, _, _ => ⟨rfl, trivial⟩
  | .N h f l g a x b, hn, hv, hd => by
    have na := BT.dp_nn a
    have nb := BT.dp_nn b
    simp only [BT.dp] at hd
    simp only [numR, Bool.and_eq_true] at hn
    obtain ⟨⟨h1, h2⟩, h3⟩ := hn
    have va : ∀ x ∈ a.regs, vld x := fun y hy => hv y (by simp [BT.regs, hy])
    have vb : ∀ x ∈ b.regs, vld x := fun y hy => hv y (by simp [BT.regs, hy])
    obtain ⟨e1, c1⟩ := sh_bt a h1 va (by omega)
    obtain ⟨e2, c2⟩ := sh_bt b h2 vb (by omega)
    have hN := nodeV_bt (l := a.sh) (r := b.sh) (x := x) ⟨by rw [sh_flat]; exact va, by rw [sh_ht]; omega⟩ ⟨by rw [sh_flat]; exact vb, by rw [sh_ht]; omega⟩ (hv x (by simp [BT.regs]))
    rw [e1, e2] at hN
    simp only [okN, okV, hN, tv_h, Bool.and_eq_true, beq_iff_eq, decide_eq_true_eq] at h3
    obtain ⟨⟨⟨⟨⟨q1, q2⟩, q3⟩, q4⟩, q5⟩, q6⟩ := h3
    rw [numR_h a h1 (by omega), numR_h b h2 (by omega)] at q5 q6
    refine ⟨?_, c1, c2, by rw [sh_ht, sh_ht]; exact q5, by rw [sh_ht, sh_ht]; exact q6⟩
    simp only [BT.sh, PT.bt, e1, e2]
    rw [q1, q2, q3, q4]
theorem bldF_pair : ∀ (l : List RV) (p : PT) (m : Int), (∀ x ∈ l, vld x) → (bldF p m l).2 = 0 → l.Pairwise apart ∧ ∀ x ∈ l, m ≤ x.s
  | [], _, _, _, _ => ⟨List.Pairwise.nil, by simp⟩
  | x :: l, p, m, hv, h => by
    rw [bldF] at h
    by_cases c : x.s < m
    · rw [if_pos c] at h; cases h
    · rw [if_neg c] at h
      obtain ⟨h1, h2⟩ := bldF_pair l _ _ (fun y hy => hv y (by simp [hy])) h
      refine ⟨List.pairwise_cons.2 ⟨fun y hy => h2 y hy, h1⟩, fun y hy => ?_⟩
      rcases List.mem_cons.1 hy with h3 | h3
      · rw [h3]; omega
      · have h4 := h2 y h3
        have h5 := (hv x (by simp)).2.1
        unfold RV.e at h4
        omega
/-- A tree that Check accepts is one whose numbers are those of its shape. -/
theorem chk_good_of {t : BT} (hd : t.dp ≤ 1000) (h : chkR t = 0) : ∃ p : PT, p.bt = t ∧ good p := by
  unfold chkR at h
  by_cases h1 : (BuildF t.regs).2 = 0
  · rw [if_neg (by simp [h1])] at h
    cases h2 : numR t with
    | false => rw [h2] at h; cases h
    | true =>
      obtain ⟨hF, hv⟩ := BuildF_ok _ h1
      obtain ⟨e, hb⟩ := sh_bt t h2 hv hd
      rw [hF] at h1
      exact ⟨t.sh, e, hb, by rw [sh_flat]; exact ⟨hv, (bldF_pair _ _ _ hv h1).1⟩⟩
  · rw [if_pos h1] at h
    exact absurd h h1

end Go.Proofs.Ytnbohogkfdeddaa
