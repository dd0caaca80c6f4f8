/- Address spaces, the reference's side: Grow. -/
import Derived.Test.YtmajkjkakciaiaaVjM
set_option linter.unusedSimpArgs false
set_option linter.unusedVariables false
namespace Go.Proofs.Ytmajkjkakciaiaa
open Go.RowKit

theorem flag2 : ∀ n : Fin 16, ((n.1 : Int) / 2 % 2 == 0) = (bits .and .i64 (n.1 : Int) 2 == 0) := by decide
theorem find2_iff (l : List RV) (g : Int) : (findV l g).2 = true ↔ (nextV l g).2 = true ∧ (nextV l g).1.s ≤ g := by
  unfold findV
  cases h : (nextV l g).2 with
  | false => simp
  | true =>
    by_cases c : g < (nextV l g).1.s
    · simp [c]
    · simp [c]; omega
/-- The first region that does not begin below g, and the one that ends above it. -/
theorem next_first {g : Int} : ∀ (l : List RV) (i : Nat) (x : RV), l[i]? = some x → (∀ j y, j < i → l[j]? = some y → ¬ g < y.s + y.p) → g < x.s + x.p → nextV l g = (x, true)
  | [], i, x, h, _, _ => by simp at h
  | z :: l, 0, x, h, _, hg => by
    cases h
    rw [nextV_cons, if_pos hg]
  | z :: l, i + 1, x, h, hn, hg => by
    rw [nextV_cons, if_neg (hn 0 z (by omega) rfl)]
    exact next_first l i x h (fun j y hj hy => hn (j + 1) y (by omega) hy) hg
theorem next_none {g : Int} : ∀ (l : List RV), (∀ y ∈ l, ¬ g < y.s + y.p) → (nextV l g).2 = false
  | [], _ => rfl
  | z :: l, h => by
    rw [nextV_cons, if_neg (h z (by simp))]
    exact next_none l (fun y hy => h y (by simp [hy]))
attribute [local irreducible] Wp WL WO fin finB rnd Exit.then Exit.inBlock G GD LT Rd Fn FnB FvB Iter
attribute [local go_sem] RV.row TD.row
def rgI (p : PT) (g : Int) (i : Nat) : List (Nat × AV) × Bs := ([(12, .d (.s (.int .i64 (i : Int)))), (11, .o 0 (rws p.flat).length), (1, .d (.s (.int .i64 g))), (4, .p 1 0)], [(0, some (23, (rws p.flat).flatten.map .d)), (1, some (26, zDs.map .d))])
end Go.Proofs.Ytmajkjkakciaiaa
