/- A region in the order of the text, whose first operations only read and whose last ones write. -/
import Derived.Test.YtohpbfcechbngaaLib
set_option linter.unusedSimpArgs false
set_option linter.unusedVariables false
namespace Go.Proofs.Ytohpbfcechbngaa
open Go.RowKit

theorem wpList_pre {P : Program} {ops : Array Oper} {C : World → Prop} {Q : Exit → Act → World → Prop} (l2 : List Oper) : ∀ (l : List Oper) (a : Act) (w : World), C w →
    wpQuiet P ops C (fun a' => ∀ w', C w' → wpList P ops Q l2 a' w') l a → wpList P ops Q (l ++ l2) a w
  | [], a, w, hC, h => h w hC
  | o :: l, a, w, hC, h => by
    unfold wpQuiet at h
    rw [List.cons_append]
    unfold wpList
    split
    · rename_i hw
      rw [if_pos hw] at h
      exact .inl (Oper.wp_of_quiet hC (fun a' w' hw' hK => wpList_pre l2 l a' w' hw' hK) h)
    · rename_i hw
      rw [if_neg hw] at h
      exact wpList_pre l2 l _ w hC h
theorem wp_region_eq {P : Program} {id : Nat} {l l' : List Oper} {b : Bool} {Q : Exit → Act → World → Prop} {a : Act} {w : World} (h : l = l') (hw : (Code.region id l'.toArray b).wp P Q a w) : (Code.region id l.toArray b).wp P Q a w := by
  subst h; exact hw
theorem lift_moveL {P : Program} {C : World → Prop} {o : Oper} {a : Act} {n : Nat} {X : Value} {g : Bool} {K : Value → Prop} (ho : o.op = .move (.tmp n)) (hx : a.tmps.toList[n]? = some X) (h : K X) : ∃ v, (g = true → ∀ w, C w → o.quietAt P a C w v) ∧ K v :=
  lift_move ho (by rw [← Array.getElem?_toList]; exact hx) h
theorem wp_region_ex {P : Program} {id : Nat} {l : List Oper} {b : Bool} {Q : Exit → Act → World → Prop} {a : Act} {w : World} (h : ∃ l', l = l' ∧ (Code.region id l'.toArray b).wp P Q a w) : (Code.region id l.toArray b).wp P Q a w := by
  obtain ⟨l', rfl, hw⟩ := h; exact hw
theorem wp_region_pre (n : Nat) {P : Program} {id : Nat} {l : List Oper} {Q : Exit → Act → World → Prop} {a : Act} {w : World}
    (h : wpQuiet P l.toArray (fun w' => w' = w) (fun a' => ∀ w', w' = w → wpList P l.toArray Q (l.drop n) a' w') (l.take n) a) : (Code.region id l.toArray false).wp P Q a w := by
  refine wp_region_lit ?_
  have := wpList_pre (P := P) (ops := l.toArray) (C := fun w' => w' = w) (Q := Q) (l.drop n) (l.take n) a w rfl h
  rwa [List.take_append_drop] at this

/-- Code all of whose ways end in one frame and one world: what follows is walked once. -/
theorem wp_one {P : Program} {c : Code} {Q : Exit → Act → World → Prop} {a : Act} {w : World} (h : ∃ a1 w1, c.wp P (fun e a' w' => e = .normal ∧ a' = a1 ∧ w' = w1) a w ∧ Q .normal a1 w1) : c.wp P Q a w := by
  obtain ⟨a1, w1, h1, h2⟩ := h
  refine Code.wp_mono ?_ h1
  rintro e a' w' ⟨rfl, rfl, rfl⟩
  exact h2

end Go.Proofs.Ytohpbfcechbngaa
