/- Layer 26: macros on ranges of cells; the contract of After. -/
import Derived.Test.YtcbadcbahmclpaaFpn
set_option linter.unusedSimpArgs false
set_option linter.unusedVariables false
namespace Go.Proofs.Ytcbadcbahmclpaa
open Go.RowKit

/-- The contract of After. -/
def AfterOK (f : FuncId) : Prop := ∀ (c : FC) (w : World), Calls Try.prog f #[.agg #[.bool c.wr, .bool c.rg, .int .i64 c.pt, .bool c.sh, .bool c.fl, .bool c.bh, .bool c.bz, .int .i64 c.en, .bool c.wb, .bool c.tr, .bool c.ow, .bool c.on, .bool c.ca, .bool c.bk, .bool c.di, .bool c.fu, .int .i64 c.mi]] w fun e w' => e = .returned (.tuple #[.agg #[.bool (aftF c).wr, .bool (aftF c).rg, .int .i64 (aftF c).pt, .bool (aftF c).sh, .bool (aftF c).fl, .bool (aftF c).bh, .bool (aftF c).bz, .int .i64 (aftF c).en, .bool (aftF c).wb, .bool (aftF c).tr, .bool (aftF c).ow, .bool (aftF c).on, .bool (aftF c).ca, .bool (aftF c).bk, .bool (aftF c).di, .bool (aftF c).fu, .int .i64 (aftF c).mi], .bool (doneF c), .int .i64 (chkF c)]) ∧ Ext w w'
@[simp, go_sem] theorem World.size_setCells (b : Nat) : ∀ (vs : List Value) (o : Nat) (w : World), (w.setCells b o vs).heap.size = w.heap.size
  | [], _, _ => rfl
  | v :: r, o, w => by rw [World.setCells, World.size_setCells b r]; simp
theorem World.rangeAt.rcell {w : World} {b : Nat} {cs : List Value} {v : Value} (h : w.rangeAt b 0 cs) (i : Nat) (hi : cs[i]? = some v) : w.cell? ⟨b, i, none⟩ = some v := by
  have := h i v hi; rwa [Nat.zero_add] at this
theorem World.there.tfroz {w : World} {b n : Nat} (h : w.there b 0 n) (i : Nat) (hi : i < n) : w.frozen? ⟨b, i, none⟩ = false := by
  have := (h i hi).2; rwa [Nat.zero_add] at this
theorem R_five {w : World} {b : Nat} {a0 a1 a2 a3 a4 v0 v1 v2 v3 v4 : Value} (h : w.rangeAt b 0 [a0, a1, a2, a3, a4]) : (((((w.setCell ⟨b, 0, none⟩ v0).setCell ⟨b, 1, none⟩ v1).setCell ⟨b, 2, none⟩ v2).setCell ⟨b, 3, none⟩ v3).setCell ⟨b, 4, none⟩ v4).rangeAt b 0 [v0, v1, v2, v3, v4] :=
  R_set (R_set (R_set (R_set (R_set h (by simp)) (by simp)) (by simp)) (by simp)) (by simp)
macro "rng" : tactic => `(tactic| (repeat (first | (with_reducible assumption) | ((with_reducible refine R_newAt ?_ ?_) <;> first | (simp; done) | (with_reducible rfl) | rfl) | (with_reducible refine R_wext ?_ _ _) | (with_reducible refine R_alloc ?_ _) | (with_reducible refine R_drew ?_) | (with_reducible exact R_five (by assumption)) | (exact R_set (by with_reducible assumption) (by simp [caseL])) | (exact R_set (R_set (by with_reducible assumption) (by simp [caseL])) (by simp [caseL])) | (with_reducible refine World.rangeAt_setCells_apart ?_ _ _ _ (Or.inl (by assumption))) | (with_reducible refine R_other ?_ (by assumption)))))
macro "thr" : tactic => `(tactic| (repeat (first | (with_reducible assumption) | ((with_reducible refine T_newAt ?_ ?_) <;> first | (simp; done) | rfl) | (with_reducible refine T_wext ?_ _ _) | (with_reducible refine T_alloc ?_ _) | (with_reducible refine T_drew ?_) | (with_reducible refine T_set ?_) | (with_reducible refine World.there_setCells ?_ _ _ _))))
macro "gro" : tactic => `(tactic| (repeat' (first | (with_reducible exact Below.refl _ _) | (with_reducible assumption) | (with_reducible refine Below.alloc ?_ ?_ _) | (with_reducible refine Below.wext ?_ ?_ _ _) | (with_reducible refine Below.drew ?_) | (with_reducible refine Below.setCell ?_ ?_ _) | (with_reducible refine Below.setCells' _ ?_ _ _ _ ?_) | (with_reducible exact Nat.le_refl _) | omega | (simp; omega) | (simp; done))))
theorem Try.info_fp : (Try.prog.info? 28).map (·.size) = some 5 := by kernel_rfl

theorem planL {f : FuncId} (h : PlanOK f) (c : FC) (w : World) : Calls Try.prog f #[.agg (caseL c).toArray] w fun e w' => e = .returned (.tuple #[.agg #[.int .i64 (planF c).a, .int .i64 (planF c).e, .int .i64 (planF c).w, .int .i64 (planF c).k, .int .i64 (planF c).u], .int .i64 (chkF c)]) ∧ Ext w w' := h c w
theorem afterL {f : FuncId} (h : AfterOK f) (c : FC) (w : World) : Calls Try.prog f #[.agg (caseL c).toArray] w fun e w' => e = .returned (.tuple #[.agg (caseL (aftF c)).toArray, .bool (doneF c), .int .i64 (chkF c)]) ∧ Ext w w' := h c w

end Go.Proofs.Ytcbadcbahmclpaa
