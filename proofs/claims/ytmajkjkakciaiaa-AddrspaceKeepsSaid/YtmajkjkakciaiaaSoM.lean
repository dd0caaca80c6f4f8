/- Trees with any numbers: the program's node; what Check's closures do. -/
import Derived.Test.YtmajkjkakciaiaaQe
set_option linter.unusedSimpArgs false
set_option linter.unusedVariables false
namespace Go.Proofs.Ytmajkjkakciaiaa
open Go.RowKit

def wr (n : Int) : Int := IntKind.i64.wrap n
/-- The tree of a region between two trees of any numbers. -/
def nodeW (l : TD) (x : RV) (r : TD) : TD := ⟨wr (1 + max l.h r.h), if 0 < l.h then l.f else x.s, if 0 < r.h then r.l else x.s + x.p, gapW l x r, x, [l.row, r.row]⟩
where gapW (l : TD) (x : RV) (r : TD) : Int := if 0 < r.h then max (if 0 < l.h then max (max l.g r.g) (wr (x.s - l.l)) else max l.g r.g) (wr (r.f - (x.s + x.p))) else (if 0 < l.h then max (max l.g r.g) (wr (x.s - l.l)) else max l.g r.g)
/-- A closure's one variable. -/
def cV (T : TypeId) (v : Value) : Nat → Option (TypeId × List AV)
  | 0 => some (T, [.d (.s v)])
  | _ => none
theorem cV.cl {T : TypeId} {v : Value} (j : Nat) : ClE inI (cV T v j) := by
  cases j with
  | zero => exact .some rfl
  | succ j => exact .none
/-- Two variables. -/
def cV2 (T : TypeId) (v : Value) (T' : TypeId) (v' : Value) : Nat → Option (TypeId × List AV)
  | 0 => some (T, [.d (.s v)])
  | 2 => some (T', [.d (.s v')])
  | _ => none
theorem cV2.cl {T T' : TypeId} {v v' : Value} (j : Nat) : ClE inI (cV2 T v T' v' j) := by
  unfold cV2
  split
  · exact .some rfl
  · exact .some rfl
  · exact .none

attribute [local irreducible] Wp WL WO fin finB rnd Exit.then Exit.inBlock G GD LT Rd Fn FnB FvB Iter
attribute [local go_sem] RV.row TD.row
set_option maxHeartbeats 4000000 in
theorem node_W (l : TD) (x : RV) (r : TD) (h : -1000000 ≤ x.s ∧ x.s ≤ 1000000 ∧ -1000000 ≤ x.p ∧ x.p ≤ 1000000) : Fn Try.prog 82 [.st l.row, .st x.row, .st r.row] (· = .st (nodeW l x r).row) := by
  by_cases h1 : 0 < l.h <;> by_cases h2 : 0 < r.h
  · refine Fn.of Try.func82 Try.ntmps82 rfl (by kernel_rfl) (fun w o => ?_)
    (repeat (first | refine G.cW (tend_F x h) ?_ | refine G.cgW (tend_F x h) ?_ | refine GD.cW (tend_F x h) ?_ | refine GD.cgW (tend_F x h) ?_ | ((repeat (revert hK; revert K)); refine wk ?_; repeat intro K hK) | refine wkg ?_))
    refine G.fin1 (by first | exact rvOk.tmp | exact rvOk.cellS | exact rvOk.cell1 | fail) rfl ?_
    simp only [nodeW, nodeW.gapW, h1, h2, if_true, if_false]
    rfl
  · refine Fn.of Try.func82 Try.ntmps82 rfl (by kernel_rfl) (fun w o => ?_)
    (repeat (first | refine G.cW (tend_F x h) ?_ | refine G.cgW (tend_F x h) ?_ | refine GD.cW (tend_F x h) ?_ | refine GD.cgW (tend_F x h) ?_ | ((repeat (revert hK; revert K)); refine wk ?_; repeat intro K hK) | refine wkg ?_))
    refine G.fin1 (by first | exact rvOk.tmp | exact rvOk.cellS | exact rvOk.cell1 | fail) rfl ?_
    simp only [nodeW, nodeW.gapW, h1, h2, if_true, if_false]
    rfl
  · refine Fn.of Try.func82 Try.ntmps82 rfl (by kernel_rfl) (fun w o => ?_)
    (repeat (first | refine G.cW (tend_F x h) ?_ | refine G.cgW (tend_F x h) ?_ | refine GD.cW (tend_F x h) ?_ | refine GD.cgW (tend_F x h) ?_ | ((repeat (revert hK; revert K)); refine wk ?_; repeat intro K hK) | refine wkg ?_))
    refine G.fin1 (by first | exact rvOk.tmp | exact rvOk.cellS | exact rvOk.cell1 | fail) rfl ?_
    simp only [nodeW, nodeW.gapW, h1, h2, if_true, if_false]
    rfl
  · refine Fn.of Try.func82 Try.ntmps82 rfl (by kernel_rfl) (fun w o => ?_)
    (repeat (first | refine G.cW (tend_F x h) ?_ | refine G.cgW (tend_F x h) ?_ | refine GD.cW (tend_F x h) ?_ | refine GD.cgW (tend_F x h) ?_ | ((repeat (revert hK; revert K)); refine wk ?_; repeat intro K hK) | refine wkg ?_))
    refine G.fin1 (by first | exact rvOk.tmp | exact rvOk.cellS | exact rvOk.cell1 | fail) rfl ?_
    simp only [nodeW, nodeW.gapW, h1, h2, if_true, if_false]
    rfl
theorem chk1_F (t : TD) (b : Bool) : FnB Try.prog CT 72 [.d (.st t.row), .p 100 0] (Is (cV 4 (.bool b))) .any (Is (cV 4 (.bool (b && vldV t.x)))) := by
  refine FnB.of (ks := [100, 102, 104]) CT.c Try.func72 Try.ntmps72 rfl (by kernel_rfl) (fun w o m E0 hCX => ?_) (hks := kns_Is _); (try dsimp only [Is])
  (repeat (first | refine G.cW (valid_F _) ?_ | refine G.cgW (valid_F _) ?_ | refine GD.cW (valid_F _) ?_ | refine GD.cgW (valid_F _) ?_ | ((repeat (revert hK; revert K)); refine wk ?_; repeat intro K hK) | refine wkg ?_))
  (try refine G.finBn ?_); refine G.finB0 rfl (by first | ((repeat (first | exact trivial | refine ⟨.inl rfl, ?_⟩ | refine ⟨.inr rfl, ?_⟩)); done) | fail) (by first | exact Is.cl (hcl _) | exact Is.cl6 (hcl _) | ((repeat (first | exact trivial | refine ⟨ClE.some rfl, ?_⟩ | (with_reducible refine ClB.d ?_) | (with_reducible refine ⟨ClE.some (numsL_d _ _), ?_⟩) | refine ⟨ClE.none, ?_⟩)); done) | fail) (by rfl)
theorem chk2_F (t : TD) (b : Bool) (m : Int) (h : -1000000 ≤ t.x.s ∧ t.x.s ≤ 1000000 ∧ -1000000 ≤ t.x.p ∧ t.x.p ≤ 1000000) : FnB Try.prog CT 74 [.d (.st t.row), .p 100 0, .p 102 0] (Is (cV2 4 (.bool b) 3 (.int .i64 m))) .any (Is (cV2 4 (.bool (b && decide (m ≤ t.x.s))) 3 (.int .i64 (t.x.s + t.x.p)))) := by
  refine FnB.of (ks := [100, 102, 104]) CT.c Try.func74 Try.ntmps74 rfl (by kernel_rfl) (fun w o m E0 hCX => ?_) (hks := kns_Is _); (try dsimp only [Is])
  (repeat (first | refine G.cW (tend_F t.x h) ?_ | refine G.cgW (tend_F t.x h) ?_ | refine GD.cW (tend_F t.x h) ?_ | refine GD.cgW (tend_F t.x h) ?_ | ((repeat (revert hK; revert K)); refine wk ?_; repeat intro K hK) | refine wkg ?_))
  (try refine G.finBn ?_); refine G.finB0 rfl (by first | ((repeat (first | exact trivial | refine ⟨.inl rfl, ?_⟩ | refine ⟨.inr rfl, ?_⟩)); done) | fail) (by first | exact Is.cl (hcl _) | exact Is.cl6 (hcl _) | ((repeat (first | exact trivial | refine ⟨ClE.some rfl, ?_⟩ | (with_reducible refine ClB.d ?_) | (with_reducible refine ⟨ClE.some (numsL_d _ _), ?_⟩) | refine ⟨ClE.none, ?_⟩)); done) | fail) (by rfl)
/-- A node's numbers are not those that its kids give it, or these are not balanced. -/
def badT (t l r : TD) : Bool := ((((((nodeW l t.x r).h != t.h || (nodeW l t.x r).f != t.f) || (nodeW l t.x r).l != t.l) || (nodeW l t.x r).g != t.g) || decide (wr (l.h - r.h) < -1)) || decide (1 < wr (l.h - r.h)))
set_option maxHeartbeats 4000000 in
theorem num1_F (t l r : TD) (hk : t.k = [l.row, r.row]) (h : -1000000 ≤ t.x.s ∧ t.x.s ≤ 1000000 ∧ -1000000 ≤ t.x.p ∧ t.x.p ≤ 1000000) (b : Bool) : FnB Try.prog CT 81 [.d (.st t.row), .p 100 0] (Is (cV 4 (.bool b))) .any (Is (cV 4 (.bool (bif badT t l r then false else b)))) := by
  cases hb : badT t l r with
  | true =>
    refine FnB.of (ks := [100, 102, 104]) CT.c Try.func81 Try.ntmps81 rfl (by kernel_rfl) (fun w o m E0 hCX => ?_) (hks := kns_Is _); (try dsimp only [Is])
    (repeat (first | refine G.cW (parts_F t l r hk) ?_ | refine G.cgW (parts_F t l r hk) ?_ | refine GD.cW (parts_F t l r hk) ?_ | refine GD.cgW (parts_F t l r hk) ?_ | refine G.cW (node_W l t.x r h) ?_ | refine G.cgW (node_W l t.x r h) ?_ | refine GD.cW (node_W l t.x r h) ?_ | refine GD.cgW (node_W l t.x r h) ?_ | ((repeat (revert hK; revert K)); refine wk ?_; repeat intro K hK) | refine wkg ?_))
    (try refine G.finBn ?_); refine G.finB0 rfl (by first | ((repeat (first | exact trivial | refine ⟨.inl rfl, ?_⟩ | refine ⟨.inr rfl, ?_⟩)); done) | fail) (by first | exact Is.cl (hcl _) | exact Is.cl6 (hcl _) | ((repeat (first | exact trivial | refine ⟨ClE.some rfl, ?_⟩ | (with_reducible refine ClB.d ?_) | (with_reducible refine ⟨ClE.some (numsL_d _ _), ?_⟩) | refine ⟨ClE.none, ?_⟩)); done) | fail) (by rfl)
  | false =>
    refine FnB.of (ks := [100, 102, 104]) CT.c Try.func81 Try.ntmps81 rfl (by kernel_rfl) (fun w o m E0 hCX => ?_) (hks := kns_Is _); (try dsimp only [Is])
    (repeat (first | refine G.cW (parts_F t l r hk) ?_ | refine G.cgW (parts_F t l r hk) ?_ | refine GD.cW (parts_F t l r hk) ?_ | refine GD.cgW (parts_F t l r hk) ?_ | refine G.cW (node_W l t.x r h) ?_ | refine G.cgW (node_W l t.x r h) ?_ | refine GD.cW (node_W l t.x r h) ?_ | refine GD.cgW (node_W l t.x r h) ?_ | ((repeat (revert hK; revert K)); refine wk ?_; repeat intro K hK) | refine wkg ?_))
    (try refine G.finBn ?_); refine G.finB0 rfl (by first | ((repeat (first | exact trivial | refine ⟨.inl rfl, ?_⟩ | refine ⟨.inr rfl, ?_⟩)); done) | fail) (by first | exact Is.cl (hcl _) | exact Is.cl6 (hcl _) | ((repeat (first | exact trivial | refine ⟨ClE.some rfl, ?_⟩ | (with_reducible refine ClB.d ?_) | (with_reducible refine ⟨ClE.some (numsL_d _ _), ?_⟩) | refine ⟨ClE.none, ?_⟩)); done) | fail) (by rfl)

end Go.Proofs.Ytmajkjkakciaiaa
