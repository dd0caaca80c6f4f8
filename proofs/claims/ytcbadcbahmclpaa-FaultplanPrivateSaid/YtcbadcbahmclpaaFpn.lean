/- Layer 26: for After: plain facts and the walk's last steps. -/
import Derived.Test.YtcbadcbahmclpaaFpw
import Derived.Test.YtcbadcbahmclpaaFpb
import Derived.Deep.RegionHeld3
set_option linter.unusedSimpArgs false
set_option linter.unusedVariables false
namespace Go.Proofs.Ytcbadcbahmclpaa
open Go.RowKit

theorem at_0 {α : Type} {l : List α} {o0 : α} : (o0 :: l).toArray[0]? = some o0 := rfl
theorem at_1 {α : Type} {l : List α} {o0 o1 : α} : (o0 :: o1 :: l).toArray[1]? = some o1 := rfl
theorem at_2 {α : Type} {l : List α} {o0 o1 o2 : α} : (o0 :: o1 :: o2 :: l).toArray[2]? = some o2 := rfl
theorem at_3 {α : Type} {l : List α} {o0 o1 o2 o3 : α} : (o0 :: o1 :: o2 :: o3 :: l).toArray[3]? = some o3 := rfl
theorem at_4 {α : Type} {l : List α} {o0 o1 o2 o3 o4 : α} : (o0 :: o1 :: o2 :: o3 :: o4 :: l).toArray[4]? = some o4 := rfl
theorem at_5 {α : Type} {l : List α} {o0 o1 o2 o3 o4 o5 : α} : (o0 :: o1 :: o2 :: o3 :: o4 :: o5 :: l).toArray[5]? = some o5 := rfl
theorem at_6 {α : Type} {l : List α} {o0 o1 o2 o3 o4 o5 o6 : α} : (o0 :: o1 :: o2 :: o3 :: o4 :: o5 :: o6 :: l).toArray[6]? = some o6 := rfl
theorem at_7 {α : Type} {l : List α} {o0 o1 o2 o3 o4 o5 o6 o7 : α} : (o0 :: o1 :: o2 :: o3 :: o4 :: o5 :: o6 :: o7 :: l).toArray[7]? = some o7 := rfl
theorem one_fc (c : FC) : (caseL c).toArray.all (·.oneCell') = true := by simp [caseL, Value.oneCell']

def actP (v : PV) : Prop := (v.a = 0) ∨ (v.a = 1) ∨ (v.a = 2 ∧ v.w = 4) ∨ (v.a = 2 ∧ v.w = 5) ∨ (v.a = 2 ∧ v.w = 3) ∨ (v.a = 8) ∨ (v.a = 7) ∨ (v.a = 9) ∨ (v.a = 10) ∨ (v.a = 11) ∨ (v.a = 3) ∨ (v.a = 6) ∨ (v.a = 4) ∨ (v.a = 5)
theorem firstF_all {P : PV → Prop} (h0 : P ⟨0, 0, 0, 0, 0⟩) : ∀ (l : List (Bool × PV)), (∀ x ∈ l, P x.2) → P (firstF l)
  | [], _ => h0
  | (b, v) :: l, h => by
    have h1 := h (b, v) (by simp)
    have h2 := firstF_all h0 l (fun x hx => h x (by simp [hx]))
    cases b
    · exact h2
    · exact h1
theorem act_cases {c : FC} (h : chkF c = 0) : actP (planF c) := by
  unfold planF
  rw [if_pos h]
  refine firstF_all (by simp [actP]) _ (fun x hx => ?_)
  simp only [rulesF, List.mem_cons, List.not_mem_nil, or_false] at hx
  rcases hx with rfl | rfl | rfl | rfl | rfl | rfl | rfl | rfl | rfl | rfl | rfl | rfl | rfl | rfl | rfl | rfl <;> simp [actP]
theorem aft_ok {c : FC} (h : chkF c = 0) : aftF c = stepF (planF c).a (planF c).w c := by unfold aftF; rw [if_pos h]
theorem done_eq {c : FC} (h : chkF c = 0) : doneF c = eqFC (aftF c) c := by
  rw [aft_ok h]
  by_cases hd : (planF c).a = 0 ∨ (planF c).a = 1
  · have : stepF (planF c).a (planF c).w c = c := by rcases hd with e | e <;> rw [e] <;> simp [stepF]
    rw [this, eqFC_refl]
    unfold doneF
    rcases hd with e | e <;> simp [h, e]
  · have hr : c.rg = true := by
      cases hr : c.rg
      · exfalso; apply hd; right
        unfold planF; rw [if_pos h]
        simp [rulesF, firstF, hr]
      · rfl
    have hlt := (step_fits (fits_of h hr) hd).2.1
    have hne : eqFC (stepF (planF c).a (planF c).w c) c = false := by
      cases e : eqFC (stepF (planF c).a (planF c).w c) c
      · rfl
      · rw [eqFC_iff] at e; rw [e] at hlt; omega
    rw [hne]
    unfold doneF
    have h0 : ((planF c).a == 0) = false := by simp; omega
    have h1 : ((planF c).a == 1) = false := by simp; omega
    rw [h0, h1]; simp
theorem done_in {c : FC} (h : chkF c = 0) (hd : (planF c).a = 0 ∨ (planF c).a = 1) : doneF c = true := by
  unfold doneF
  rcases hd with e | e <;> simp [h, e]
theorem done_no {c : FC} (hd : ¬ ((planF c).a = 0 ∨ (planF c).a = 1)) : doneF c = false := by
  unfold doneF
  have h0 : ((planF c).a == 0) = false := by simp; omega
  have h1 : ((planF c).a == 1) = false := by simp; omega
  rw [h0, h1]; simp

theorem caseAt_of {w : World} {b : Nat} {c : FC} (h : w.rangeAt b 0 (caseL c)) : caseAt w b c := by
  have h0 := h 0 _ rfl
  refine ⟨World.block_lt_of_cell? w _ h0, fun i hi => ?_⟩
  have hl : i < (caseL c).length := by simpa [caseL] using hi
  have := h i _ (List.getElem?_eq_getElem hl)
  rw [Nat.zero_add] at this
  rw [this, List.getElem?_eq_getElem hl]
theorem Below.setCells' {B : Nat} {a : World} (b : Nat) (hb : B ≤ b) : ∀ (vs : List Value) (o : Nat) (w : World), Below B a w → Below B a (w.setCells b o vs)
  | [], _, _, h => h
  | v :: r, o, w, h => Below.setCells' b hb r (o + 1) _ (Below.setCell h hb _)

section
variable {ops : Array Oper} {S : World → Prop} {a : Act} {o : Oper}
theorem yieldsIf_eqfc (c d : FC) {n m : Nat} (hw : Region.wanted o (yielded ops a.tmps) = true) (ho : o.op = .binOp .eql 23 (.tmp n) (.tmp m) 23) (hx : a.eval (.tmp n) = .agg (caseL c).toArray) (hy : a.eval (.tmp m) = .agg (caseL d).toArray) :
    YieldsIf Try.prog ops S o (.bool (eqFC c d)) a :=
  .inl ⟨hw, fun w hw' => by
    have hG : Try.prog.eqGuardType Try.prog.depth 23 = false := by kernel_rfl
    unfold execOp
    simp only [ho, hx, hy, Sem.run_bind, run_eqGuard_agg w .eql 23 _ _ _ _ hG, Result.andThen_ok, run_eqfc]
    rfl⟩
end

end Go.Proofs.Ytcbadcbahmclpaa
