/- Layer 02: plain definitions: intervals, lists of them, what Check and Contains answer. -/
import Derived.Test.YtlboakmiopnifaaSl
set_option linter.unusedSimpArgs false
set_option linter.unusedVariables false
namespace Go.Proofs.Ytlboakmiopnifaa
open Go.RowKit

/-- The cells of a list of intervals. -/
def ivF : List (Int × Int) → List Value
  | [] => []
  | x :: l => .int .i64 x.1 :: .int .i64 x.2 :: ivF l
theorem ivF_len : ∀ l : List (Int × Int), (ivF l).length = l.length * 2
  | [] => rfl
  | x :: l => by simp only [ivF, List.length_cons, ivF_len l]; omega
theorem ivF_fst : ∀ (l : List (Int × Int)) (i : Nat) (hi : i < l.length), (ivF l)[i * 2]? = some (.int .i64 l[i].1)
  | x :: l, 0, _ => rfl
  | x :: l, i + 1, hi => by
    have e : (i + 1) * 2 = i * 2 + 1 + 1 := by omega
    rw [e]
    simpa [ivF] using ivF_fst l i (by simpa using hi)
theorem ivF_snd : ∀ (l : List (Int × Int)) (i : Nat) (hi : i < l.length), (ivF l)[i * 2 + 1]? = some (.int .i64 l[i].2)
  | x :: l, 0, _ => rfl
  | x :: l, i + 1, hi => by
    have e : (i + 1) * 2 + 1 = i * 2 + 1 + 1 + 1 := by omega
    rw [e]
    simpa [ivF] using ivF_snd l i (by simpa using hi)

/-- The error at one interval behind another. -/
def stepE (p : Option (Int × Int)) (x : Int × Int) : Int := if x.2 ≤ x.1 then 2 else match p with | some q => if x.1 ≤ q.2 then 10 else 0 | none => 0
def chkFrom : Option (Int × Int) → List (Int × Int) → Int
  | _, [] => 0
  | p, x :: l => if stepE p x = 0 then chkFrom (some x) l else stepE p x
/-- The first error of a list. -/
def chkI (l : List (Int × Int)) : Int := chkFrom none l
/-- The interval ahead of the k-th. -/
def prevI (l : List (Int × Int)) (k : Nat) : Option (Int × Int) := if k = 0 then none else l[k - 1]?
theorem chk_round {l : List (Int × Int)} {k : Nat} (hk : k < l.length) : chkFrom (prevI l k) (l.drop k) = if stepE (prevI l k) l[k] = 0 then chkFrom (prevI l (k + 1)) (l.drop (k + 1)) else stepE (prevI l k) l[k] := by
  rw [List.drop_eq_getElem_cons hk]
  have e : prevI l (k + 1) = some l[k] := by simp [prevI, hk]
  rw [e]
  rfl
theorem chk_end (l : List (Int × Int)) (p : Option (Int × Int)) : chkFrom p (l.drop l.length) = 0 := by simp [chkFrom]

theorem prev_pos {l : List (Int × Int)} {k : Nat} (hk : k < l.length) (h0 : 0 < k) : prevI l k = some (l[k - 1]'(by omega)) := by
  unfold prevI
  rw [if_neg (by omega), List.getElem?_eq_getElem (by omega)]
theorem step10 {l : List (Int × Int)} {k : Nat} (hk : k < l.length) (h1 : ¬ (l[k]).2 ≤ (l[k]).1) (h2 : 0 < k ∧ (l[k]).1 ≤ (l[k - 1]'(by omega)).2) : stepE (prevI l k) l[k] = 10 := by
  rw [prev_pos hk h2.1]
  simp [stepE, h1, h2.2]
theorem step0 {l : List (Int × Int)} {k : Nat} (hk : k < l.length) (h1 : ¬ (l[k]).2 ≤ (l[k]).1) (h2 : ¬ (0 < k ∧ (l[k]).1 ≤ (l[k - 1]'(by omega)).2)) : stepE (prevI l k) l[k] = 0 := by
  by_cases h0 : k = 0
  · subst h0
    simp only [prevI, if_pos, stepE, if_neg h1]
  · rw [prev_pos hk (by omega)]
    have : ¬ (l[k]).1 ≤ (l[k - 1]'(by omega)).2 := fun h => h2 ⟨by omega, h⟩
    simp [stepE, h1, this]

/-- Whether an int is in a list. -/
def inI (l : List (Int × Int)) (n : Int) : Bool := l.any fun x => decide (x.1 ≤ n) && decide (n < x.2)

end Go.Proofs.Ytlboakmiopnifaa
