/- Rangetree: trees with their own numbers; node. -/
import Derived.Test.YtnbohogkfdeddaaRtd
import Derived.Test.YtnbohogkfdeddaaRte
set_option linter.unusedSimpArgs false
set_option linter.unusedVariables false
namespace Go.Proofs.Ytnbohogkfdeddaa
open Go.RowKit

def PT.bt : PT → BT
  | .E => .E
  | .N l x r => .N (PT.N l x r).ht (PT.N l x r).fst (PT.N l x r).lst (PT.N l x r).gp l.bt x r.bt
theorem isP_num {A : Nat → Prop} {w : World} : ∀ {p : PT} {v : TV}, isT A w p.bt v → v.h = p.ht ∧ v.f = p.fst ∧ v.l = p.lst ∧ v.g = p.gp
  | .E, v, ⟨h1, h2, h3, h4, _⟩ => ⟨h1, h2, h3, h4⟩
  | .N _ _ _, v, ⟨h1, h2, h3, h4, _⟩ => ⟨h1, h2, h3, h4⟩
/-- What keeps the numbers small. -/
structure bd (p : PT) : Prop where
  v : ∀ x ∈ p.flat, vld x
  h : p.ht ≤ 1000
theorem vld_node {l : PT} {x : RV} {r : PT} (h : ∀ y ∈ (PT.N l x r).flat, vld y) : (∀ y ∈ l.flat, vld y) ∧ vld x ∧ (∀ y ∈ r.flat, vld y) :=
  ⟨fun y hy => h y (by simp [PT.flat, hy]), h x (by simp [PT.flat]), fun y hy => h y (by simp [PT.flat, hy])⟩
theorem bd_node {l : PT} {x : RV} {r : PT} (h : bd (.N l x r)) : bd l ∧ vld x ∧ bd r := by
  obtain ⟨h1, h2⟩ := h
  obtain ⟨a, b, c⟩ := vld_node h1
  have := PT.ht_nn l; have := PT.ht_nn r
  simp only [PT.ht] at h2
  exact ⟨⟨a, by omega⟩, b, ⟨c, by omega⟩⟩
theorem num_bd : ∀ {p : PT}, (∀ x ∈ p.flat, vld x) → 0 ≤ p.fst ∧ p.fst ≤ 512 ∧ 0 ≤ p.lst ∧ p.lst ≤ 512 ∧ -512 ≤ p.gp ∧ p.gp ≤ 512
  | .E, _ => by simp [PT.fst, PT.lst, PT.gp]
  | .N l x r, h => by
    obtain ⟨a, b, c⟩ := vld_node h
    obtain ⟨l1, l2, l3, l4, l5, l6⟩ := num_bd (p := l) a
    obtain ⟨r1, r2, r3, r4, r5, r6⟩ := num_bd (p := r) c
    obtain ⟨x1, x2, x3, x4⟩ := b
    simp only [PT.fst, PT.lst, PT.gp, gapN, RV.e]
    refine ⟨?_, ?_, ?_, ?_, ?_, ?_⟩ <;> (repeat' split) <;> omega
theorem W64_in {a : Int} (h : -9223372036854775808 ≤ a ∧ a ≤ 9223372036854775807) : W64 a = a := IntWalk.i64_in _ h
theorem mx_max (a b : Int) : mx a b = max a b := by unfold mx; split <;> omega
theorem nodeV_P {A : Nat → Prop} {w : World} {l r : PT} {x : RV} {vl vr : TV} {k : Value} (hl : isT A w l.bt vl) (hr : isT A w r.bt vr) (hx : vld x) (bl : bd l) (br : bd r) :
    nodeV vl x vr k = ⟨(PT.N l x r).ht, (PT.N l x r).fst, (PT.N l x r).lst, (PT.N l x r).gp, x, k⟩ := by
  obtain ⟨a1, a2, a3, a4⟩ := isP_num hl
  obtain ⟨b1, b2, b3, b4⟩ := isP_num hr
  have nl := PT.ht_nn l
  have nr := PT.ht_nn r
  have hl' := bl.h
  have hr' := br.h
  obtain ⟨l1, l2, l3, l4, l5, l6⟩ := num_bd bl.v
  obtain ⟨r1, r2, r3, r4, r5, r6⟩ := num_bd br.v
  obtain ⟨x1, x2, x3, x4⟩ := hx
  unfold nodeV gapV
  rw [a1, a2, a3, a4, b1, b2, b3, b4]
  simp only [mx_max, PT.ht, PT.fst, PT.lst, PT.gp, gapN]
  rw [W64_in (a := 1 + max l.ht r.ht) (by omega), W64_in (a := x.s - l.lst) (by omega), W64_in (a := r.fst - x.e) (by unfold RV.e; omega)]
/-- A set of blocks that has all new ones. -/
def Up (A : Nat → Prop) (w : World) : Prop := ∀ g, w.heap.size ≤ g → A g
theorem Up.ext {A : Nat → Prop} {w w' : World} (h : Up A w) (hE : Ext w w') : Up A w' := fun g hg => h g (Nat.le_trans hE.below.size hg)
theorem isT_node {A : Nat → Prop} {w w' : World} {l r : PT} {x : RV} {vl vr : TV} {gk : Nat} (hl : isT A w l.bt vl) (hr : isT A w r.bt vr) (hx : vld x) (bl : bd l) (br : bd r) (hA : A gk) (hE : Ext w w') (hb : Blk w' gk 28 (vl.cs ++ vr.cs)) :
    isT A w' (PT.N l x r).bt (nodeV vl x vr (.slice (some ⟨gk, 0, none⟩) 2 2)) := by
  rw [nodeV_P hl hr hx bl br]
  have hp := PT.ht_pos l x r
  refine ⟨rfl, rfl, rfl, rfl, rfl, by omega, gk, 0, 2, vl, vr, rfl, Nat.le_refl _, hb.lt, hA, ?_, ?_, hl.ext hE, hr.ext hE⟩
  · exact hb.rangeIn 0 vl.cs (fun j hj => by rw [Nat.zero_add, List.getElem?_append_left hj])
  · exact hb.rangeIn (0 + 11) vr.cs (fun j hj => by
      have : vl.cs.length = 11 := rfl
      rw [List.getElem?_append_right (by omega)]
      congr 1
      omega)
theorem node_P {A : Nat → Prop} (l : PT) (x : RV) (r : PT) (vl vr : TV) (w : World) (hA : Up A w) (hl : isT A w l.bt vl) (hr : isT A w r.bt vr) (hx : vld x) (bl : bd l) (br : bd r) :
    Calls Try.prog 51 #[.agg vl.cs.toArray, .agg x.cs.toArray, .agg vr.cs.toArray] w fun e w' => ∃ v, e = .returned (.agg v.cs.toArray) ∧ isT A w' (PT.N l x r).bt v ∧ Ext w w' :=
  (node_any vl x vr w hx).mono fun e w' ⟨gk, he, hb, hg, hE⟩ => ⟨_, he, isT_node hl hr hx bl br (hA gk hg) hE hb, hE⟩
/-- parts of a node. -/
theorem parts_P {A : Nat → Prop} (l : PT) (x : RV) (r : PT) (v : TV) (w : World) (h : isT A w (PT.N l x r).bt v) :
    Calls Try.prog 52 #[.agg v.cs.toArray] w fun e w' => ∃ va vb : TV, e = .returned (.tuple #[.agg va.cs.toArray, .agg x.cs.toArray, .agg vb.cs.toArray]) ∧ isT A w l.bt va ∧ isT A w r.bt vb ∧ Ext w w' := by
  obtain ⟨h1, h2, h3, h4, h5, h6, g, o, c, va, vb, h7, h8, h9, hA, h10, h11, h12, h13⟩ := h
  subst h5
  exact (parts_any v va vb g o c w h7 h8 h9 h10 h11 h12.one h13.one).mono fun e w' ⟨he, hE⟩ => ⟨va, vb, he, h12, h13, hE⟩

end Go.Proofs.Ytnbohogkfdeddaa
