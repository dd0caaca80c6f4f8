/- Rangetree, plain: what Build answers. -/
import Derived.Test.YtnbohogkfdeddaaRue
set_option linter.unusedSimpArgs false
set_option linter.unusedVariables false
namespace Go.Proofs.Ytnbohogkfdeddaa
open Go.RowKit

theorem bldF_err : ∀ (l : List RV) (p : PT) (last : Int), (bldF p last l).2 ≠ 0 → (bldF p last l).1 = .E
  | [], p, last, h => absurd rfl h
  | x :: l, p, last, h => by
    unfold bldF at h ⊢
    split
    · rfl
    · rename_i c
      rw [if_neg c] at h
      exact bldF_err l _ _ h
theorem BuildF_err (l : List RV) (h : (BuildF l).2 ≠ 0) : (BuildF l).1 = .E := by
  unfold BuildF at h ⊢
  split
  · rename_i c
    rw [if_pos c] at h
    exact bldF_err l _ _ h
  · rfl
theorem BuildF_ok (l : List RV) (h : (BuildF l).2 = 0) : BuildF l = bldF .E 0 l ∧ ∀ x ∈ l, vld x := by
  unfold BuildF at h ⊢
  split
  · rename_i c
    exact ⟨rfl, fun x hx => (vldB_iff x).1 (List.all_eq_true.1 c x hx)⟩
  · rename_i c
    rw [if_neg c] at h
    cases h
theorem bldF_ok {x : RV} {l : List RV} {p : PT} {last : Int} (h : (bldF p last (x :: l)).2 = 0) : ¬ x.s < last := by
  intro c
  rw [bldF, if_pos c] at h
  cases h


end Go.Proofs.Ytnbohogkfdeddaa
