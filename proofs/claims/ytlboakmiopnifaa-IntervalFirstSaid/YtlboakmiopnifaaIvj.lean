/- Layer 02: slices' tails; a store into a row that a slice owns; what put makes of a list. -/
import Derived.Test.YtlboakmiopnifaaIvi
set_option linter.unusedSimpArgs false
set_option linter.unusedVariables false
namespace Go.Proofs.Ytlboakmiopnifaa
open Go.RowKit

/-- s[1:] of a slice that reads as x :: l. -/
theorem isSl_tail {w : World} {b o n c : Nat} {x : Int × Int} {l : List (Int × Int)} (h : isSl w (.slice (some ⟨b, o, none⟩) (l.length + 1) c) 2 (l.length + 1) (ivF (x :: l))) :
    isSl w (.slice (some ⟨b, o + 2, none⟩) l.length (c - 1)) 2 l.length (ivF l) := by
  obtain ⟨b', o', c', hv, h1, h2, h3, h4⟩ := h.cell (by omega)
  cases hv
  refine ⟨ivF_len l, .inr ⟨b, o + 2, c - 1, rfl, by omega, by omega, h3, fun j hj => ?_⟩⟩
  have := h4 (j + 2) (by omega)
  rw [show o + 2 + j = o + (j + 2) by omega, this]
  rfl

/-- A store into a cell of a row that a slice owns. -/
theorem own_set {w : World} {base : Nat} {e : TypeId} {m n : Nat} {g cap : Nat} {xs : List Value} {i : Nat} {u : Value} (h : w.ownsRow base e m (.slice (some ⟨g, 0, none⟩) n cap) n xs) (hi : i < n * m) :
    (w.setCell ⟨g, i, none⟩ u).ownsRow base e m (.slice (some ⟨g, 0, none⟩) n cap) n (xs.set i u) := by
  obtain ⟨h1, h2⟩ := h
  refine ⟨by rw [List.length_set, h1], .inr ?_⟩
  rcases h2 with ⟨hv, _⟩ | ⟨g', cap', cur, hv, hb, hh, hn, hc, hs, ht⟩
  · cases hv
  · cases hv
    refine ⟨g, cap, cur.setIfInBounds i u, rfl, hb, ?_, hn, hc, by simpa using hs, ?_⟩
    · unfold World.setCell
      simp [Array.getElem?_modify, hh]
    · rw [Array.toList_setIfInBounds, List.take_set, ht]

theorem ivF_app (l r : List (Int × Int)) : ivF (l ++ r) = ivF l ++ ivF r := by
  induction l with
  | nil => rfl
  | cons x l ih => simp [ivF, ih]
/-- What put makes of a list. -/
def putI (l : List (Int × Int)) (x : Int × Int) : List (Int × Int) :=
  match l.getLast? with
  | some y => if x.1 ≤ y.2 then l.dropLast ++ [(y.1, if x.2 ≤ y.2 then y.2 else x.2)] else l ++ [x]
  | none => [x]
theorem putI_nil (x : Int × Int) : putI [] x = [x] := rfl
theorem putI_app (l : List (Int × Int)) (y x : Int × Int) : putI (l ++ [y]) x = if x.1 ≤ y.2 then l ++ [(y.1, if x.2 ≤ y.2 then y.2 else x.2)] else l ++ [y] ++ [x] := by
  simp [putI]
theorem ivF_set (l : List (Int × Int)) (y : Int × Int) (t : Int) : (ivF (l ++ [y])).set (l.length * 2 + 1) (.int .i64 t) = ivF (l ++ [(y.1, t)]) := by
  rw [ivF_app, ivF_app, ← ivF_len l]
  simp [ivF, List.set_append]

end Go.Proofs.Ytlboakmiopnifaa
