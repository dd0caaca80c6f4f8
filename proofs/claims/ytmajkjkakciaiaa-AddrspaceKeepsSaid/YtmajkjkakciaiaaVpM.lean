/- Address spaces, the reference's side: Protect, Lock. -/
import Derived.Test.YtmajkjkakciaiaaVoM
set_option linter.unusedSimpArgs false
set_option linter.unusedVariables false
namespace Go.Proofs.Ytmajkjkakciaiaa
open Go.RowKit

theorem flag4x : ∀ n : Fin 16, (bits .and .i64 (n.1 : Int) 4 != 0) = ((n.1 : Int) / 4 % 2 == 1) ∧ bits .xor .i64 (n.1 : Int) 4 = (if ((n.1 : Int) / 4 % 2 == 1) = true then (n.1 : Int) - 4 else (n.1 : Int) + 4) := by decide
theorem skip_prot {x : RV} (hx : chkV x = 0) (g c : Int) {n : Int} (hn : 0 < n) : skR x g c n false = skipB x g c (fun x => x.r != n) := by
  have h1 : decide (0 < n) = true := by simpa using hn
  have h2 : (n == 0) = false := by simp; omega
  unfold skR skipB
  rw [endV_ok hx, h1, h2]
  simp [bne]
theorem skip_lock {x : RV} (hx : chkV x = 0) (g c : Int) (on : Bool) : skR x g c 0 on = skipB x g c (fun x => (bits .and .i64 x.f 4 != 0) != on) := by
  have bx := chkV_bd hx
  obtain ⟨m, hm⟩ := nat16 bx.2.2.2.2.1 bx.2.2.2.2.2.1
  have e : (bits .and .i64 x.f 4 != 0) = (x.f / 4 % 2 == 1) := by rw [hm]; exact (flag4x m).1
  unfold skR skipB
  rw [endV_ok hx]
  dsimp only
  rw [e]
  cases on <;> cases (x.f / 4 % 2 == 1) <;> simp
theorem lock_turn {on : Bool} (x y : RV) (hx : chkV x = 0) (hy : chkV y = 0) (hf : y.f = x.f ∨ y.f = bits .andNot .i64 x.f 2) (ho : ((bits .and .i64 x.f 4 != 0) != on) = true) : lkT y = { y with f := if on then y.f + 4 else y.f - 4 } := by
  have bx := chkV_bd hx
  have bY := chkV_bd hy
  obtain ⟨m, hm⟩ := nat16 bx.2.2.2.2.1 bx.2.2.2.2.2.1
  obtain ⟨k, hk⟩ := nat16 bY.2.2.2.2.1 bY.2.2.2.2.2.1
  have e : ((k.1 : Int) / 4 % 2 == 1) = ((m.1 : Int) / 4 % 2 == 1) := by
    rcases hf with h | h
    · rw [← hk, h, hm]
    · rw [← hk, h, hm]; exact flag4n m
  rw [hm, (flag4x m).1, ← e] at ho
  unfold lkT
  rw [hk, (flag4x k).2]
  cases on <;> cases hq : ((k.1 : Int) / 4 % 2 == 1) <;> rw [hq] at ho <;> simp_all

attribute [local irreducible] Wp WL WO fin finB rnd Exit.then Exit.inBlock G GD LT Rd Fn FnB FvB Iter
attribute [local go_sem] RV.row TD.row
end Go.Proofs.Ytmajkjkakciaiaa
