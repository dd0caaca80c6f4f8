/- Address spaces, the reference's side: Map. -/
import Derived.Test.YtmajkjkakciaiaaVfM
set_option linter.unusedSimpArgs false
set_option linter.unusedVariables false
namespace Go.Proofs.Ytmajkjkakciaiaa
open Go.RowKit

def rmS (r : RV) (z : List RV × Bool) (x : RV) : List RV × Bool := if (!z.2 && decide (r.s < x.s)) = true then (z.1 ++ [r] ++ [x], true) else (z.1 ++ [x], z.2)
def rmT (l : List RV) (r : RV) (i : Nat) : List RV × Bool := (l.take i).foldl (rmS r) ([], false)
theorem rmT_step {l : List RV} {r : RV} {i : Nat} {x : RV} (h : l[i]? = some x) : rmT l r (i + 1) = rmS r (rmT l r i) x := by
  simp only [rmT]
  rw [take_snoc h, List.foldl_append]
  rfl
theorem rmS_len (r : RV) (z : List RV × Bool) (x : RV) : (rmS r z x).1.length ≤ z.1.length + 2 := by
  unfold rmS; split <;> simp
theorem rmT_len (l : List RV) (r : RV) : ∀ i, (rmT l r i).1.length ≤ 2 * i
  | 0 => by simp [rmT]
  | i + 1 => by
    have ih := rmT_len l r i
    cases h : l[i]? with
    | some x => rw [rmT_step h]; have := rmS_len r (rmT l r i) x; omega
    | none =>
      have : l.take (i + 1) = l.take i := by
        have := List.getElem?_eq_none_iff.1 h
        rw [List.take_of_length_le (by omega), List.take_of_length_le this]
      unfold rmT at ih ⊢
      rw [this]; omega
theorem rm_true (r : RV) : ∀ (l o : List RV), l.foldl (rmS r) (o, true) = (o ++ l, true)
  | [], o => by simp
  | x :: l, o => by
    rw [List.foldl_cons, show rmS r (o, true) x = (o ++ [x], true) from rfl, rm_true r l]
    simp
theorem rm_false (r : RV) : ∀ (l o : List RV), (bif (l.foldl (rmS r) (o, false)).2 then (l.foldl (rmS r) (o, false)).1 else (l.foldl (rmS r) (o, false)).1 ++ [r]) = o ++ insL l r
  | [], o => rfl
  | x :: l, o => by
    rw [List.foldl_cons]
    by_cases h : r.s < x.s
    · rw [show rmS r (o, false) x = (o ++ [r] ++ [x], true) by simp [rmS, h], rm_true, insL, if_pos h]
      simp
    · rw [show rmS r (o, false) x = (o ++ [x], false) by simp [rmS, h], rm_false r l, insL, if_neg h]
      simp
theorem insL_at {r : RV} : ∀ (A B : List RV), (∀ a ∈ A, ¬ r.s < a.s) → (∀ b ∈ B, r.s < b.s) → insL (A ++ B) r = A ++ r :: B
  | [], [], _, _ => rfl
  | [], b :: B, _, h => by show insL (b :: B) r = _; rw [insL, if_pos (h b (by simp))]; rfl
  | a :: A, B, h, h2 => by
    show insL (a :: (A ++ B)) r = _
    rw [insL, if_neg (h a (by simp)), insL_at A B (fun y hy => h y (by simp [hy])) h2]
    rfl
theorem insL_insAt {l : List RV} {r : RV} (h : okl l) (hr : chkV r = 0) (hno : ∀ x ∈ l, ovlV x r = false) : insL l r = insAt l (atI l r.s l.length) r := by
  have hk := insAt_ok h hr hno
  unfold insAt at hk ⊢
  obtain ⟨k1, k2, k3⟩ := okl.app1 (l := l.take (atI l r.s l.length)) (m := r :: l.drop (atI l r.s l.length)) hk
  obtain ⟨_, _, k4⟩ := okl.app1 (l := [r]) (m := l.drop (atI l r.s l.length)) k2
  have br := chkV_bd hr
  conv => lhs; rw [← List.take_append_drop (atI l r.s l.length) l]
  refine insL_at _ _ (fun a ha => ?_) (fun b hb => ?_)
  · have := k3 a ha r (by simp)
    have := chkV_bd (k1.c a ha)
    unfold apart RV.e at *
    omega
  · have := k4 r (by simp) b hb
    unfold apart RV.e at this
    omega

attribute [local irreducible] Wp WL WO fin finB rnd Exit.then Exit.inBlock G GD LT Rd Fn FnB FvB Iter
attribute [local go_sem] RV.row TD.row
end Go.Proofs.Ytmajkjkakciaiaa
