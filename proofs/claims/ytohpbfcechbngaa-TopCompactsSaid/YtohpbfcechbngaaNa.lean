/- Lists of ints as data: rows of one cell. -/
import Derived.Test.YtohpbfcechbngaaAvt
set_option linter.unusedSimpArgs false
set_option linter.unusedVariables false
namespace Go.Proofs.Ytohpbfcechbngaa
open Go.RowKit

def iD (x : Int) : D := .s (.int .i64 x)
def il (l : List Int) : List (List D) := l.map fun x => [iD x]
theorem il_len (l : List Int) : (il l).length = l.length := by simp [il]
theorem il_app (a b : List Int) : il (a ++ b) = il a ++ il b := by simp [il]
theorem il_row (l : List Int) : ∀ r ∈ il l, r.length = 1 := fun r hr => by
  obtain ⟨x, _, rfl⟩ := List.mem_map.1 hr
  rfl
theorem il_get (l : List Int) (i : Nat) (h : i < l.length) : (il l)[i]? = some [iD l[i]] := by simp [il, h]
theorem il_flat (l : List Int) : (il l).flatten = l.map iD := by
  induction l with
  | nil => rfl
  | cons x l ih => simp only [il, List.map_cons, List.flatten_cons] at ih ⊢; rw [ih]; rfl
theorem il_take (l : List Int) (n : Nat) : il (l.take n) = (il l).take n := by simp [il]
theorem il_drop (l : List Int) (n : Nat) : il (l.drop n) = (il l).drop n := by simp [il]
theorem il_set (l : List Int) (i : Nat) (x : Int) : il (l.set i x) = (il l).set i [iD x] := by simp [il, List.map_set]
def insAtI (l : List Int) (i : Nat) (x : Int) : List Int := l.take i ++ x :: l.drop i
theorem il_flat_take (l : List Int) (i : Nat) : (il l).flatten.take (i * 1) = (il (l.take i)).flatten := by
  rw [il_flat, il_flat, Nat.mul_one, List.map_take]
theorem il_flat_drop (l : List Int) (i : Nat) : (il l).flatten.drop (i * 1) = (il (l.drop i)).flatten := by
  rw [il_flat, il_flat, Nat.mul_one, List.map_drop]
theorem il_flat_cell (l : List Int) : (il l).flatten.all D.cell = true := by
  rw [il_flat, List.all_eq_true]
  intro d hd
  obtain ⟨x, _, rfl⟩ := List.mem_map.1 hd
  rfl
theorem il_cells (l : List Int) : ((il l).flatten.map AV.d).all AV.cell = true := by
  rw [List.all_eq_true]
  intro d hd
  obtain ⟨x, hx, rfl⟩ := List.mem_map.1 hd
  exact List.all_eq_true.1 (il_flat_cell l) x hx

end Go.Proofs.Ytohpbfcechbngaa
