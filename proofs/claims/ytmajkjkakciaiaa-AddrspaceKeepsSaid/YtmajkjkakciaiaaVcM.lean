/- Address spaces, the reference's side: List, Count, Find, within. -/
import Derived.Test.YtmajkjkakciaiaaVaM
set_option linter.unusedSimpArgs false
set_option linter.unusedVariables false
namespace Go.Proofs.Ytmajkjkakciaiaa
open Go.RowKit

theorem find_no {l : List RV} {g : Int} (h : (findV l g).2 = false) : findV l g = (RV.z, false) := by
  unfold findV at h ⊢
  cases hc : (!(nextV l g).2 || decide (g < (nextV l g).1.s)) with
  | true => rfl
  | false => rw [hc] at h; cases h
theorem find_yes {l : List RV} (h : okl l) {g : Int} {x : RV} (hx : x ∈ l) (hg : x.s ≤ g ∧ g < x.s + x.p) : findV l g = (x, true) := by
  have h2 := (find_iff h g).2 ⟨x, hx, hg⟩
  obtain ⟨h3, h4⟩ := (find_spec g l h).1 h2
  obtain ⟨i, hi⟩ := List.mem_iff_getElem?.1 hx
  obtain ⟨j, hj⟩ := List.mem_iff_getElem?.1 h3
  have e : (findV l g).1 = x := by
    rcases Nat.lt_trichotomy i j with hij | hij | hij
    · have := sorted_get h hi hj hij; omega
    · subst hij; rw [hi] at hj; cases hj; rfl
    · have := sorted_get h hj hi hij; omega
  exact Prod.ext e h2
theorem has_iff {x : RV} (hx : chkV x = 0) (g : Int) : hasV x g = true ↔ x.s ≤ g ∧ g < x.s + x.p := by
  simp [hasV, hx]

attribute [local irreducible] Wp WL WO fin finB rnd Exit.then Exit.inBlock G GD LT Rd Fn FnB FvB Iter
attribute [local go_sem] RV.row TD.row
def rfI (p : PT) (g : Int) (i : Nat) : List (Nat × AV) × Bs := ([(7, .d (.s (.int .i64 (i : Int)))), (6, .d (.l (rws p.flat))), (1, .d (.s (.int .i64 g))), (4, .p 1 0)], [(1, some (23, RV.z.row.map .d))])
end Go.Proofs.Ytmajkjkakciaiaa
