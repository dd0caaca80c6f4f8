/- Layer 26: plain definitions: what Check, Plan and After answer. -/
import Derived.Test.YtcbadcbahmclpaaLib
set_option linter.unusedSimpArgs false
set_option linter.unusedVariables false
namespace Go.Proofs.Ytcbadcbahmclpaa
open Go.RowKit

/-- A fault's case: its seventeen fields. -/
structure FC where
  wr : Bool
  rg : Bool
  pt : Int
  sh : Bool
  fl : Bool
  bh : Bool
  bz : Bool
  en : Int
  wb : Bool
  tr : Bool
  ow : Bool
  on : Bool
  ca : Bool
  bk : Bool
  di : Bool
  fu : Bool
  mi : Int
/-- A plan: the action, the error, the reason to wait, the kernel's and the user's frames. -/
structure PV where
  a : Int
  e : Int
  w : Int
  k : Int
  u : Int

def copB (c : FC) : Bool := c.en == 2 || (c.en == 1 || c.en == 3) && c.ow
def bits2 (p : Int) : Int := bits .and .i64 p 2
def brk (c : FC) : List Bool :=
  [!c.fl && (c.sh || c.bh || c.bz || c.bk || c.di || c.fu),
   decide (0 < c.mi) && !(c.en == 0),
   c.en == 0 && (c.ow || c.on || !c.fl && c.ca),
   (c.en == 1 || c.en == 3) && (c.ca || !c.fl && !c.ow),
   c.en == 2 && !c.ow,
   c.sh && c.ow,
   c.on && !c.ow,
   c.en == 3 && !c.tr,
   c.tr && (c.en == 0 || c.en == 2) && !c.ca,
   c.wb && (c.en != 1 || bits .and .i64 c.pt 2 == 0 || !c.on && (!c.sh || !c.di))]
def suitB (c : FC) : Bool := !((brk c).any id)
def chkF (c : FC) : Int :=
  if c.en < 0 ∨ 3 < c.en then 1 else if c.mi < 0 ∨ 2 < c.mi then 2 else if c.rg = false then 0 else if c.pt ≠ 1 ∧ c.pt ≠ 3 then 1 else if suitB c = false then 3 else 0

/-- The table of rules. -/
def rulesF (c : FC) : List (Bool × PV) :=
  [(!c.rg, ⟨1, 13, 0, 0, 0⟩),
   (c.wr && bits .and .i64 c.pt 2 == 0, ⟨1, 12, 0, 0, 0⟩),
   (c.bh && !copB c, ⟨1, 14, 0, 0, 0⟩),
   (c.en == 1 && (!c.wr || c.wb), ⟨0, 0, 0, 0, 0⟩),
   (c.bz && !copB c, ⟨2, 0, 4, 0, 0⟩),
   (c.tr, ⟨2, 0, 3, 0, 0⟩),
   (c.en == 1 && c.ow && c.on, ⟨8, 0, 0, 0, 0⟩),
   (c.en == 1 && (c.ow || !c.sh), ⟨9, 0, 0, 0, 1⟩),
   (c.en == 1 && !c.di && c.fu, ⟨2, 0, 5, 0, 0⟩),
   (c.en == 1, ⟨7, 0, 0, 0, 0⟩),
   (c.en == 2 && c.ca, ⟨10, 0, 0, 0, 0⟩),
   (c.en == 2, ⟨11, 0, 0, 0, 1⟩),
   (!c.fl, ⟨3, 0, 0, c.mi, 1⟩),
   (c.ca, ⟨6, 0, 0, c.mi, 0⟩),
   (!c.bk, ⟨4, 0, 0, c.mi, 1⟩),
   (true, ⟨5, 0, 0, 0, 1⟩)]
def firstF : List (Bool × PV) → PV
  | [] => ⟨0, 0, 0, 0, 0⟩
  | (b, v) :: l => bif b then v else firstF l
def planF (c : FC) : PV := if chkF c = 0 then firstF (rulesF c) else ⟨0, 0, 0, 0, 0⟩

/-- What a plan makes of a case. -/
def stepF (a w : Int) (c : FC) : FC :=
  if a = 2 then (if w = 4 then { c with bz := false } else if w = 5 then { c with fu := false } else if w = 3 then { c with tr := false, en := if c.en = 3 then 1 else c.en } else c)
  else if a = 8 then { c with wb := true }
  else if a = 7 then { c with di := true, wb := true }
  else if a = 9 then { c with ow := true, on := true, wb := true }
  else if a = 10 then { c with en := 1, ca := false, wb := c.on && (bits .and .i64 c.pt 2 != 0) }
  else if a = 11 then { c with ca := true }
  else if a = 3 then { c with en := 1, mi := 0, ow := true, on := true, wb := bits .and .i64 c.pt 2 != 0 }
  else if a = 6 then { c with en := 1, mi := 0, ca := false }
  else if a = 4 ∨ a = 5 then { c with ca := true }
  else c
def FC.zero : FC := ⟨false, false, 0, false, false, false, false, 0, false, false, false, false, false, false, false, false, 0⟩
def aftF (c : FC) : FC := if chkF c = 0 then stepF (planF c).a (planF c).w c else FC.zero
/-- Whether this was the end. -/
def doneF (c : FC) : Bool := decide (chkF c = 0) && ((planF c).a == 0 || (planF c).a == 1)

theorem b2_1 : bits .and .i64 1 2 = 0 := by decide
theorem b2_3 : bits .and .i64 3 2 = 2 := by decide

/-- A valid case with a region. -/
theorem chk_zero {c : FC} (h : chkF c = 0) : 0 ≤ c.en ∧ c.en ≤ 3 ∧ 0 ≤ c.mi ∧ c.mi ≤ 2 ∧ (c.rg = true → (c.pt = 1 ∨ c.pt = 3) ∧ suitB c = true) := by
  unfold chkF at h
  split at h
  · omega
  · split at h
    · omega
    · refine ⟨by omega, by omega, by omega, by omega, fun hr => ?_⟩
      rw [hr] at h
      simp only [Bool.true_eq_false, if_false] at h
      split at h
      · omega
      · split at h
        · omega
        · rename_i h1 h2
          exact ⟨by omega, by simpa using h2⟩

end Go.Proofs.Ytcbadcbahmclpaa
