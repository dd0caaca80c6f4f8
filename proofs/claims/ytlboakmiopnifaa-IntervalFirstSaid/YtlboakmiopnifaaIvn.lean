/- Layer 02: plain: the union's and the difference's lists, step by step. -/
import Derived.Test.YtlboakmiopnifaaIvm
set_option linter.unusedSimpArgs false
set_option linter.unusedVariables false
namespace Go.Proofs.Ytlboakmiopnifaa
open Go.RowKit

/-- Two lists in the order in which Union takes them. -/
def mergeI : List (Int × Int) → List (Int × Int) → List (Int × Int)
  | [], b => b
  | x :: a, [] => x :: a
  | x :: a, y :: b => if x.1 ≤ y.1 then x :: mergeI a (y :: b) else y :: mergeI (x :: a) b
termination_by a b => a.length + b.length
theorem mergeI_nil (a : List (Int × Int)) : mergeI a [] = a := by cases a <;> simp [mergeI]
theorem merge_left (x : Int × Int) (a b : List (Int × Int)) (h : ∀ y b', b = y :: b' → x.1 ≤ y.1) : mergeI (x :: a) b = x :: mergeI a b := by
  cases b with
  | nil => rw [mergeI_nil, mergeI_nil]
  | cons y b => rw [mergeI, if_pos (h y b rfl)]
theorem merge_right (y : Int × Int) (a b : List (Int × Int)) (h : ∀ x a', a = x :: a' → ¬ x.1 ≤ y.1) : mergeI a (y :: b) = y :: mergeI a b := by
  cases a with
  | nil => simp [mergeI]
  | cons x a => rw [mergeI, if_neg (h x a rfl)]
/-- Union's list. -/
def uniL (a b : List (Int × Int)) : List (Int × Int) := (mergeI a b).foldl putI []
theorem putI_len (l : List (Int × Int)) (x : Int × Int) : (putI l x).length ≤ l.length + 1 := by
  rcases List.eq_nil_or_concat l with rfl | ⟨l', y, rfl⟩
  · simp [putI]
  · rw [List.concat_eq_append, putI_app]
    split <;> simp

end Go.Proofs.Ytlboakmiopnifaa
