/- Trees of regions, the reference's side: Node, Balanced, insert; Build on both sides. -/
import Derived.Test.YtkdjbiekjgeafaaQh
set_option linter.unusedSimpArgs false
set_option linter.unusedVariables false
namespace Go.Proofs.Ytkdjbiekjgeafaa
open Go.RowKit

/-- Valid regions, not too deep. -/
structure sb (p : PT) (n : Int) : Prop where
  v : ∀ y ∈ p.flat, vld y
  h : p.ht ≤ n
theorem sb.N {l r : PT} {x : RV} {n : Int} (h : sb (.N l x r) (n + 1)) : sb l n ∧ vld x ∧ sb r n := by
  obtain ⟨h1, h2⟩ := h
  obtain ⟨a, b, c⟩ := vld_node h1
  have := PT.ht_nn l
  have := PT.ht_nn r
  simp only [PT.ht] at h2
  exact ⟨⟨a, by omega⟩, b, ⟨c, by omega⟩⟩
theorem sb.nd {l r : PT} {x : RV} {n : Int} (h1 : sb l n) (hx : vld x) (h2 : sb r n) : sb (.N l x r) (n + 1) := by
  have := PT.ht_nn l
  have := PT.ht_nn r
  have := h1.h
  have := h2.h
  refine ⟨fun y hy => ?_, by simp only [PT.ht]; omega⟩
  simp only [PT.flat, List.mem_append, List.mem_cons] at hy
  rcases hy with hy | rfl | hy
  · exact h1.v y hy
  · exact hx
  · exact h2.v y hy
theorem sb.le {p : PT} {n m : Int} (h : sb p n) (hm : n ≤ m) : sb p m := ⟨h.v, by have := h.h; omega⟩
theorem sb.up {p : PT} {n : Int} (h : sb p n) : sb p (n + 1) := h.le (by omega)

attribute [local irreducible] Wp WL WO fin finB rnd Exit.then Exit.inBlock G GD LT Rd Fn FnB FvB Iter
attribute [local go_sem] RV.row TD.row
end Go.Proofs.Ytkdjbiekjgeafaa
