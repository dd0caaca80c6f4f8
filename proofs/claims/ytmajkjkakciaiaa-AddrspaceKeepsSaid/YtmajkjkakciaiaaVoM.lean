/- Address spaces, the reference's side: change. -/
import Derived.Test.YtmajkjkakciaiaaVnM
import Derived.Test.YtmajkjkakciaiaaViM
set_option linter.unusedSimpArgs false
set_option linter.unusedVariables false
namespace Go.Proofs.Ytmajkjkakciaiaa
open Go.RowKit

theorem cat_len3 (f : RV → List RV) (hf : ∀ x, (f x).length ≤ 3) : ∀ l : List RV, (cat f l).length ≤ 3 * l.length
  | [] => Nat.zero_le _
  | x :: l => by
    have := hf x
    have := cat_len3 f hf l
    show (f x ++ cat f l).length ≤ _
    simp only [List.length_append, List.length_cons]
    omega
theorem chgL_len (oth : RV → Bool) (tr : RV → RV) (g c : Int) (x : RV) : (chgL oth tr g c x).length ≤ 3 := by
  unfold chgL
  split
  · simp
  · rw [List.length_map]; exact divP_len x g c
theorem flag4n : ∀ n : Fin 16, (bits .andNot .i64 (n.1 : Int) 2 / 4 % 2 == 1) = ((n.1 : Int) / 4 % 2 == 1) := by decide
/-- What the reference leaves alone. -/
def skR (x : RV) (g c n : Int) (on : Bool) : Bool := decide (x.s + x.p ≤ g) || decide (g + c ≤ x.s) || (decide (0 < n) && x.r == n) || (n == 0 && (x.f / 4 % 2 == 1) == on)

attribute [local irreducible] Wp WL WO fin finB rnd Exit.then Exit.inBlock G GD LT Rd Fn FnB FvB Iter
attribute [local go_sem] RV.row TD.row
end Go.Proofs.Ytmajkjkakciaiaa
