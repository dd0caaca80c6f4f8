/- Calls and ranges as arguments. -/
import Derived.Test.YtmajkjkakciaiaaLtaM
import Derived.Test.YtmajkjkakciaiaaVqM
set_option linter.unusedSimpArgs false
set_option linter.unusedVariables false
namespace Go.Proofs.Ytmajkjkakciaiaa
open Go.ChangeShapes Go.WideShapes Go.ChangeAt Go.RowKit

section
variable {H : Type} {enc : TypeId × Value → H} {w : World} {base : Nat} {spare : Nat → Bool} {held : Bool} {v : Value} {d : DataW H} {p : List MemPlace} {r : Reach} {b0 : Nat}
theorem op_cells {fuel : Nat} {cs : List Value} {x : DataW H × List MemPlace} (h : DataW.trod enc Try.prog w base spare held fuel 28 cs = some x) : ∃ o : OV, RL (fun _ => False) w cs o.row := by
  obtain ⟨xs, n, hn, hx, hlen, hl, hg⟩ := DataW.trod_struct Try.underlying28 h
  have h11 : Try.prog.cellsOf 28 = 10 := by kernel_rfl
  rw [h11] at hlen
  have hs : xs.length = 5 := hl
  have ci : Try.prog.cellsOf 3 = 1 := by kernel_rfl
  have cr : Try.prog.cellsOf 23 = 6 := by kernel_rfl
  have g0 : DataW.trod enc Try.prog w base spare held n 3 ((cs.drop 0).take (Try.prog.cellsOf 3)) = xs[0]? := hg 0 _ rfl
  have g1 : DataW.trod enc Try.prog w base spare held n 23 ((cs.drop 1).take (Try.prog.cellsOf 23)) = xs[1]? := hg 1 _ rfl
  have g2 : DataW.trod enc Try.prog w base spare held n 3 ((cs.drop 7).take (Try.prog.cellsOf 3)) = xs[2]? := hg 2 _ rfl
  have g3 : DataW.trod enc Try.prog w base spare held n 3 ((cs.drop 8).take (Try.prog.cellsOf 3)) = xs[3]? := hg 3 _ rfl
  have g4 : DataW.trod enc Try.prog w base spare held n 3 ((cs.drop 9).take (Try.prog.cellsOf 3)) = xs[4]? := hg 4 _ rfl
  rw [ci] at g0 g2 g3 g4
  rw [cr] at g1
  rw [List.getElem?_eq_getElem (by omega)] at g0 g1 g2 g3 g4
  obtain ⟨a0, h0⟩ := int_cell g0
  obtain ⟨y, hy⟩ := rg_cells g1
  obtain ⟨a2, h2⟩ := int_cell g2
  obtain ⟨a3, h3⟩ := int_cell g3
  obtain ⟨a4, h4⟩ := int_cell g4
  have e : cs = (cs.drop 0).take 1 ++ ((cs.drop 1).take 6 ++ ((cs.drop 7).take 1 ++ ((cs.drop 8).take 1 ++ (cs.drop 9).take 1))) := by
    rw [List.take_of_length_le (l := cs.drop 9) (by simp; omega)]
    have e1 : ∀ (a m : Nat), (cs.drop a).take m ++ cs.drop (a + m) = cs.drop a := fun a m => by
      have := List.take_append_drop m (cs.drop a)
      rwa [List.drop_drop] at this
    rw [e1 8 1, e1 7 1, e1 1 6, e1 0 1, List.drop_zero]
  refine ⟨⟨a0, y, a2, a3, a4⟩, ?_⟩
  rw [e, h0, h2, h3, h4, hy]
  exact .cons (.s rfl) (RL.app2 (RL.cs6 y) (.cons (.s rfl) (.cons (.s rfl) (.cons (.s rfl) .nil))))
theorem op_arg (hv : Value.okWide Try.prog w r b0 28 v) (h : DataW.Trod enc Try.prog w base spare held 28 v d p) : ∃ o : OV, RD (fun _ => False) w v (.st o.row) := by
  obtain ⟨fuel, hf⟩ := h
  obtain ⟨o, ho⟩ := op_cells hf
  obtain ⟨xs, rfl, hsz⟩ := okWide_struct Try.underlying28 hv
  have := RD.st ho
  exact ⟨o, this⟩
end
end Go.Proofs.Ytmajkjkakciaiaa
