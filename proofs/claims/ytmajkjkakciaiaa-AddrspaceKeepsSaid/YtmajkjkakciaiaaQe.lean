/- Trees of regions, the program's side: join. -/
/- Trees of regions, the program's side: insert. -/
/- Trees of regions, the program's side: valid, Build's parts to follow. -/
/- Trees with any numbers as data; the program's each. -/
import Derived.Test.YtmajkjkakciaiaaQd
import Derived.Test.YtmajkjkakciaiaaQc
set_option linter.unusedSimpArgs false
set_option linter.unusedVariables false
namespace Go.Proofs.Ytmajkjkakciaiaa
open Go.RowKit

attribute [local irreducible] Wp WL WO fin finB rnd Exit.then Exit.inBlock G GD LT Rd Fn FnB FvB Iter
attribute [local go_sem] RV.row TD.row
set_option maxHeartbeats 4000000 in
theorem join_P (l : PT) (x : RV) (r : PT) (hl : l.bdd) (hr : r.bdd) (hx : -1000000 ≤ x.s ∧ x.s ≤ 1000000 ∧ -1000000 ≤ x.p ∧ x.p ≤ 1000000) (hj : (joinP l x r).bdd) : Fn Try.prog 83 [.st l.td.row, .st x.row, .st r.td.row] (· = .st (joinP l x r).td.row) := by
  have bl := hl.b.b
  have br := hr.b.b
  by_cases h1 : r.td.h + 1 < l.td.h
  · have e1 : r.ht + 1 < l.ht := h1
    cases l with
    | E =>
      have := r.ht_nn
      simp only [PT.ht] at e1
      omega
    | N a y b =>
      by_cases h2 : b.td.h ≤ a.td.h
      · have e2 : b.ht ≤ a.ht := h2
        have ej : joinP (.N a y b) x r = .N a y (.N b x r) := by unfold joinP; rw [if_pos e1]; simp only [if_pos e2]
        rw [ej] at hj ⊢
        refine Fn.of Try.func83 Try.ntmps83 rfl (by kernel_rfl) (fun w o => ?_)
        (repeat (first | refine G.cW (parts_P a y b) ?_ | refine G.cgW (parts_P a y b) ?_ | refine GD.cW (parts_P a y b) ?_ | refine GD.cgW (parts_P a y b) ?_ | refine G.cW (node_P b x r hl.2.2.2 hr hx) ?_ | refine G.cgW (node_P b x r hl.2.2.2 hr hx) ?_ | refine GD.cW (node_P b x r hl.2.2.2 hr hx) ?_ | refine GD.cgW (node_P b x r hl.2.2.2 hr hx) ?_ | refine G.cW (node_P a y (.N b x r) hl.2.2.1 hj.2.2.2 hl.2.1) ?_ | refine G.cgW (node_P a y (.N b x r) hl.2.2.1 hj.2.2.2 hl.2.1) ?_ | refine GD.cW (node_P a y (.N b x r) hl.2.2.1 hj.2.2.2 hl.2.1) ?_ | refine GD.cgW (node_P a y (.N b x r) hl.2.2.1 hj.2.2.2 hl.2.1) ?_ | ((repeat (revert hK; revert K)); refine wk ?_; repeat intro K hK) | refine wkg ?_))
        refine G.fin1 (by first | exact rvOk.tmp | exact rvOk.cellS | exact rvOk.cell1 | fail) rfl ?_
        rfl
      · have e2 : ¬ b.ht ≤ a.ht := h2
        cases b with
        | E =>
          have := a.ht_nn
          simp only [PT.ht] at e2
          omega
        | N c z d =>
          have ej : joinP (.N a y (.N c z d)) x r = .N (.N a y c) z (.N d x r) := by unfold joinP; rw [if_pos e1]; simp only [if_neg e2]
          rw [ej] at hj ⊢
          refine Fn.of Try.func83 Try.ntmps83 rfl (by kernel_rfl) (fun w o => ?_)
          (repeat (first | refine G.cW (parts_P a y (.N c z d)) ?_ | refine G.cgW (parts_P a y (.N c z d)) ?_ | refine GD.cW (parts_P a y (.N c z d)) ?_ | refine GD.cgW (parts_P a y (.N c z d)) ?_ | refine G.cW (parts_P c z d) ?_ | refine G.cgW (parts_P c z d) ?_ | refine GD.cW (parts_P c z d) ?_ | refine GD.cgW (parts_P c z d) ?_ | refine G.cW (node_P a y c hl.2.2.1 hl.2.2.2.2.2.1 hl.2.1) ?_ | refine G.cgW (node_P a y c hl.2.2.1 hl.2.2.2.2.2.1 hl.2.1) ?_ | refine GD.cW (node_P a y c hl.2.2.1 hl.2.2.2.2.2.1 hl.2.1) ?_ | refine GD.cgW (node_P a y c hl.2.2.1 hl.2.2.2.2.2.1 hl.2.1) ?_ | refine G.cW (node_P d x r hl.2.2.2.2.2.2 hr hx) ?_ | refine G.cgW (node_P d x r hl.2.2.2.2.2.2 hr hx) ?_ | refine GD.cW (node_P d x r hl.2.2.2.2.2.2 hr hx) ?_ | refine GD.cgW (node_P d x r hl.2.2.2.2.2.2 hr hx) ?_ | refine G.cW (node_P (.N a y c) z (.N d x r) hj.2.2.1 hj.2.2.2 hl.2.2.2.2.1) ?_ | refine G.cgW (node_P (.N a y c) z (.N d x r) hj.2.2.1 hj.2.2.2 hl.2.2.2.2.1) ?_ | refine GD.cW (node_P (.N a y c) z (.N d x r) hj.2.2.1 hj.2.2.2 hl.2.2.2.2.1) ?_ | refine GD.cgW (node_P (.N a y c) z (.N d x r) hj.2.2.1 hj.2.2.2 hl.2.2.2.2.1) ?_ | ((repeat (revert hK; revert K)); refine wk ?_; repeat intro K hK) | refine wkg ?_))
          refine G.fin1 (by first | exact rvOk.tmp | exact rvOk.cellS | exact rvOk.cell1 | fail) rfl ?_
          rfl
  · have e1 : ¬ r.ht + 1 < l.ht := h1
    by_cases h2 : l.td.h + 1 < r.td.h
    · have e2 : l.ht + 1 < r.ht := h2
      cases r with
      | E =>
        have := l.ht_nn
        simp only [PT.ht] at e2
        omega
      | N b y c =>
        by_cases h3 : b.td.h ≤ c.td.h
        · have e3 : b.ht ≤ c.ht := h3
          have ej : joinP l x (.N b y c) = .N (.N l x b) y c := by unfold joinP; rw [if_neg e1, if_pos e2]; simp only [if_pos e3]
          rw [ej] at hj ⊢
          refine Fn.of Try.func83 Try.ntmps83 rfl (by kernel_rfl) (fun w o => ?_)
          (repeat (first | refine G.cW (parts_P b y c) ?_ | refine G.cgW (parts_P b y c) ?_ | refine GD.cW (parts_P b y c) ?_ | refine GD.cgW (parts_P b y c) ?_ | refine G.cW (node_P l x b hl hr.2.2.1 hx) ?_ | refine G.cgW (node_P l x b hl hr.2.2.1 hx) ?_ | refine GD.cW (node_P l x b hl hr.2.2.1 hx) ?_ | refine GD.cgW (node_P l x b hl hr.2.2.1 hx) ?_ | refine G.cW (node_P (.N l x b) y c hj.2.2.1 hr.2.2.2 hr.2.1) ?_ | refine G.cgW (node_P (.N l x b) y c hj.2.2.1 hr.2.2.2 hr.2.1) ?_ | refine GD.cW (node_P (.N l x b) y c hj.2.2.1 hr.2.2.2 hr.2.1) ?_ | refine GD.cgW (node_P (.N l x b) y c hj.2.2.1 hr.2.2.2 hr.2.1) ?_ | ((repeat (revert hK; revert K)); refine wk ?_; repeat intro K hK) | refine wkg ?_))
          refine G.fin1 (by first | exact rvOk.tmp | exact rvOk.cellS | exact rvOk.cell1 | fail) rfl ?_
          rfl
        · have e3 : ¬ b.ht ≤ c.ht := h3
          cases b with
          | E =>
            have := c.ht_nn
            simp only [PT.ht] at e3
            omega
          | N d z e =>
            have ej : joinP l x (.N (.N d z e) y c) = .N (.N l x d) z (.N e y c) := by unfold joinP; rw [if_neg e1, if_pos e2]; simp only [if_neg e3]
            rw [ej] at hj ⊢
            refine Fn.of Try.func83 Try.ntmps83 rfl (by kernel_rfl) (fun w o => ?_)
            (repeat (first | refine G.cW (parts_P (.N d z e) y c) ?_ | refine G.cgW (parts_P (.N d z e) y c) ?_ | refine GD.cW (parts_P (.N d z e) y c) ?_ | refine GD.cgW (parts_P (.N d z e) y c) ?_ | refine G.cW (parts_P d z e) ?_ | refine G.cgW (parts_P d z e) ?_ | refine GD.cW (parts_P d z e) ?_ | refine GD.cgW (parts_P d z e) ?_ | refine G.cW (node_P l x d hl hr.2.2.1.2.2.1 hx) ?_ | refine G.cgW (node_P l x d hl hr.2.2.1.2.2.1 hx) ?_ | refine GD.cW (node_P l x d hl hr.2.2.1.2.2.1 hx) ?_ | refine GD.cgW (node_P l x d hl hr.2.2.1.2.2.1 hx) ?_ | refine G.cW (node_P e y c hr.2.2.1.2.2.2 hr.2.2.2 hr.2.1) ?_ | refine G.cgW (node_P e y c hr.2.2.1.2.2.2 hr.2.2.2 hr.2.1) ?_ | refine GD.cW (node_P e y c hr.2.2.1.2.2.2 hr.2.2.2 hr.2.1) ?_ | refine GD.cgW (node_P e y c hr.2.2.1.2.2.2 hr.2.2.2 hr.2.1) ?_ | refine G.cW (node_P (.N l x d) z (.N e y c) hj.2.2.1 hj.2.2.2 hr.2.2.1.2.1) ?_ | refine G.cgW (node_P (.N l x d) z (.N e y c) hj.2.2.1 hj.2.2.2 hr.2.2.1.2.1) ?_ | refine GD.cW (node_P (.N l x d) z (.N e y c) hj.2.2.1 hj.2.2.2 hr.2.2.1.2.1) ?_ | refine GD.cgW (node_P (.N l x d) z (.N e y c) hj.2.2.1 hj.2.2.2 hr.2.2.1.2.1) ?_ | ((repeat (revert hK; revert K)); refine wk ?_; repeat intro K hK) | refine wkg ?_))
            refine G.fin1 (by first | exact rvOk.tmp | exact rvOk.cellS | exact rvOk.cell1 | fail) rfl ?_
            rfl
    · have e2 : ¬ l.ht + 1 < r.ht := h2
      have ej : joinP l x r = .N l x r := by unfold joinP; rw [if_neg e1, if_neg e2]
      rw [ej] at hj ⊢
      refine Fn.of Try.func83 Try.ntmps83 rfl (by kernel_rfl) (fun w o => ?_)
      (repeat (first | refine G.cW (node_P l x r hl hr hx) ?_ | refine G.cgW (node_P l x r hl hr hx) ?_ | refine GD.cW (node_P l x r hl hr hx) ?_ | refine GD.cgW (node_P l x r hl hr hx) ?_ | ((repeat (revert hK; revert K)); refine wk ?_; repeat intro K hK) | refine wkg ?_))
      refine G.fin1 (by first | exact rvOk.tmp | exact rvOk.cellS | exact rvOk.cell1 | fail) rfl ?_
      rfl

end Go.Proofs.Ytmajkjkakciaiaa

set_option linter.unusedSimpArgs false
set_option linter.unusedVariables false
namespace Go.Proofs.Ytmajkjkakciaiaa
open Go.RowKit

/-- All numbers on the way stay small. -/
def insB : PT → RV → Prop
  | .E, r => True
  | .N a x b, r => if r.s < x.s then insB a r ∧ (insP a r).bdd ∧ (joinP (insP a r) x b).bdd else insB b r ∧ (insP b r).bdd ∧ (joinP a x (insP b r)).bdd
theorem le_E : D.le (.st [.s (.int .i64 0), .s (.int .i64 0), .s (.int .i64 0), .s (.int .i64 0), .s (.int .i64 0), .s (.int .i64 0), .s (.int .i64 0), .s (.int .i64 0), .s (.int .i64 0), .s (.int .i64 0), .s (.slice none 0 0)]) (.st PT.E.td.row) :=
  D.le.st (.cons (.refl _) (.cons (.refl _) (.cons (.refl _) (.cons (.refl _) (.cons (.refl _) (.cons (.refl _) (.cons (.refl _) (.cons (.refl _) (.cons (.refl _) (.cons (.refl _) (.cons .nil (fun _ _ _ h => h))))))))))))
attribute [local irreducible] Wp WL WO fin finB rnd Exit.then Exit.inBlock G GD LT Rd Fn FnB FvB Iter
attribute [local go_sem] RV.row TD.row
set_option maxHeartbeats 4000000 in
theorem insert_P (r : RV) (hx : -1000000 ≤ r.s ∧ r.s ≤ 1000000 ∧ -1000000 ≤ r.p ∧ r.p ≤ 1000000) : ∀ (t : PT), t.bdd → insB t r → Fn Try.prog 77 [.st t.td.row, .st r.row] (· = .st (insP t r).td.row)
  | .E, ht, hi => by
    refine Fn.of Try.func77 Try.ntmps77 rfl (by kernel_rfl) (fun w o => ?_)
    (repeat (first | ((repeat (revert hK; revert K)); refine wk ?_; repeat intro K hK) | refine wkg ?_))
    refine G.le 11 (.st PT.E.td.row) le_E ?_
    refine G.le 13 (.st PT.E.td.row) le_E ?_
    (repeat (first | refine G.cW (node_P .E r .E trivial trivial hx) ?_ | refine G.cgW (node_P .E r .E trivial trivial hx) ?_ | refine GD.cW (node_P .E r .E trivial trivial hx) ?_ | refine GD.cgW (node_P .E r .E trivial trivial hx) ?_ | ((repeat (revert hK; revert K)); refine wk ?_; repeat intro K hK) | refine wkg ?_))
    refine G.fin1 (by first | exact rvOk.tmp | exact rvOk.cellS | exact rvOk.cell1 | fail) rfl ?_
    rfl
  | .N a x b, ht, hi => by
    have h0 : 0 < (PT.N a x b).td.h := by
      have := a.ht_nn
      have := b.ht_nn
      simp only [PT.td, PT.ht]
      omega
    by_cases h : r.s < x.s
    · have e : insP (.N a x b) r = joinP (insP a r) x b := by simp only [insP, if_pos h]
      unfold insB at hi
      rw [if_pos h] at hi
      have ih := insert_P r hx a ht.2.2.1 hi.1
      rw [e]
      refine Fn.of Try.func77 Try.ntmps77 rfl (by kernel_rfl) (fun w o => ?_)
      (repeat (first | refine G.cW (parts_P a x b) ?_ | refine G.cgW (parts_P a x b) ?_ | refine GD.cW (parts_P a x b) ?_ | refine GD.cgW (parts_P a x b) ?_ | refine G.cW (ih) ?_ | refine G.cgW (ih) ?_ | refine GD.cW (ih) ?_ | refine GD.cgW (ih) ?_ | refine G.cW (join_P (insP a r) x b hi.2.1 ht.2.2.2 ht.2.1 hi.2.2) ?_ | refine G.cgW (join_P (insP a r) x b hi.2.1 ht.2.2.2 ht.2.1 hi.2.2) ?_ | refine GD.cW (join_P (insP a r) x b hi.2.1 ht.2.2.2 ht.2.1 hi.2.2) ?_ | refine GD.cgW (join_P (insP a r) x b hi.2.1 ht.2.2.2 ht.2.1 hi.2.2) ?_ | ((repeat (revert hK; revert K)); refine wk ?_; repeat intro K hK) | refine wkg ?_))
      refine G.fin1 (by first | exact rvOk.tmp | exact rvOk.cellS | exact rvOk.cell1 | fail) rfl ?_
      rfl
    · have e : insP (.N a x b) r = joinP a x (insP b r) := by simp only [insP, if_neg h]
      unfold insB at hi
      rw [if_neg h] at hi
      have ih := insert_P r hx b ht.2.2.2 hi.1
      rw [e]
      refine Fn.of Try.func77 Try.ntmps77 rfl (by kernel_rfl) (fun w o => ?_)
      (repeat (first | refine G.cW (parts_P a x b) ?_ | refine G.cgW (parts_P a x b) ?_ | refine GD.cW (parts_P a x b) ?_ | refine GD.cgW (parts_P a x b) ?_ | refine G.cW (ih) ?_ | refine G.cgW (ih) ?_ | refine GD.cW (ih) ?_ | refine GD.cgW (ih) ?_ | refine G.cW (join_P a x (insP b r) ht.2.2.1 hi.2.1 ht.2.1 hi.2.2) ?_ | refine G.cgW (join_P a x (insP b r) ht.2.2.1 hi.2.1 ht.2.1 hi.2.2) ?_ | refine GD.cW (join_P a x (insP b r) ht.2.2.1 hi.2.1 ht.2.1 hi.2.2) ?_ | refine GD.cgW (join_P a x (insP b r) ht.2.2.1 hi.2.1 ht.2.1 hi.2.2) ?_ | ((repeat (revert hK; revert K)); refine wk ?_; repeat intro K hK) | refine wkg ?_))
      refine G.fin1 (by first | exact rvOk.tmp | exact rvOk.cellS | exact rvOk.cell1 | fail) rfl ?_
      rfl

end Go.Proofs.Ytmajkjkakciaiaa

set_option linter.unusedSimpArgs false
set_option linter.unusedVariables false
namespace Go.Proofs.Ytmajkjkakciaiaa
open Go.RowKit

attribute [local irreducible] Wp WL WO fin finB rnd Exit.then Exit.inBlock G GD LT Rd Fn FnB FvB Iter
def vldV (x : RV) : Bool := decide (0 ≤ x.s) && decide (1 ≤ x.p) && decide (x.p ≤ 512) && decide (x.s ≤ 512 - x.p)
theorem valid_F (x : RV) : Fn Try.prog 73 [.st x.row] (· = .s (.bool (vldV x))) := by
  refine Fn.of Try.func73 Try.ntmps73 rfl (by kernel_rfl) (fun w o => ?_)
  (repeat (first | ((repeat (revert hK; revert K)); refine wk ?_; repeat intro K hK) | refine wkg ?_))
  refine G.fin1 (by first | exact rvOk.tmp | exact rvOk.cellS | exact rvOk.cell1 | fail) rfl ?_
  rfl

end Go.Proofs.Ytmajkjkakciaiaa

set_option linter.unusedSimpArgs false
set_option linter.unusedVariables false
namespace Go.Proofs.Ytmajkjkakciaiaa
open Go.RowKit

/-- A formed tree, whatever its numbers. -/
inductive BT where
  | E
  | N (h f l g : Int) (a : BT) (x : RV) (b : BT)
def BT.td : BT → TD
  | .E => ⟨0, 0, 0, 0, RV.z, []⟩
  | .N h f l g a x b => ⟨h, f, l, g, x, [a.td.row, b.td.row]⟩
def BT.ok : BT → Prop
  | .E => True
  | .N h _ _ _ a _ b => h ≠ 0 ∧ a.ok ∧ b.ok
def BT.nodes : BT → List BT
  | .E => []
  | .N h f l g a x b => a.nodes ++ .N h f l g a x b :: b.nodes

attribute [local irreducible] Wp WL WO fin finB rnd Exit.then Exit.inBlock G GD LT Rd Fn FnB FvB Iter
attribute [local go_sem] RV.row TD.row
theorem each_E (fv : AV) (c : Nat → Nat → Option (TypeId × List AV)) (hcl : ∀ i j, ClE inI (c i j)) (i : Nat) : FnB Try.prog CT 55 [.d (.st BT.E.td.row), fv] (Is (c i)) .any (Is (c i)) := by
  refine FnB.of (ks := [100, 102, 104]) CT.c Try.func55 Try.ntmps55 rfl (by kernel_rfl) (fun w o m E0 hCX => ?_) (hks := kns_Is _); (try dsimp only [Is])
  (repeat (first | ((repeat (revert hK; revert K)); refine wk ?_; repeat intro K hK) | refine wkg ?_))
  (try refine G.finBn ?_); refine G.finB0 rfl (by first | ((repeat (first | exact trivial | refine ⟨.inl rfl, ?_⟩ | refine ⟨.inr rfl, ?_⟩)); done) | fail) (by first | exact Is.cl (hcl _) | exact Is.cl6 (hcl _) | ((repeat (first | exact trivial | refine ⟨ClE.some rfl, ?_⟩ | (with_reducible refine ClB.d ?_) | (with_reducible refine ⟨ClE.some (numsL_d _ _), ?_⟩) | refine ⟨ClE.none, ?_⟩)); done) | fail) (by rfl)
set_option maxHeartbeats 1000000 in
theorem each_N (h f l g : Int) (a : BT) (x : RV) (b : BT) (h0 : h ≠ 0) (fv : AV) (hfk : fv.nums kn = true) (hfn : ∀ c, fv.nums (inB (Is c)) = true) (c : Nat → Nat → Option (TypeId × List AV)) (hcl : ∀ i j, ClE inI (c i j)) (i j k n : Nat)
    (h1 : FnB Try.prog CT 55 [.d (.st a.td.row), fv] (Is (c i)) .any (Is (c j))) (h2 : FvB Try.prog CT fv [.d (.st (BT.N h f l g a x b).td.row)] (Is (c j)) .any (Is (c k))) (h3 : FnB Try.prog CT 55 [.d (.st b.td.row), fv] (Is (c k)) .any (Is (c n))) :
    FnB Try.prog CT 55 [.d (.st (BT.N h f l g a x b).td.row), fv] (Is (c i)) .any (Is (c n)) := by
  have hb : (h == 0) = false := by simpa using h0
  have h1' := FnB.v0 h1
  have h3' := FnB.v0 h3
  refine FnB.of (ks := [100, 102, 104]) CT.c Try.func55 Try.ntmps55 rfl (by kernel_rfl) (fun w o m E0 hCX => ?_) (hks := kns_Is _); (try dsimp only [Is])
  (repeat (first | (show G _ _ _ _ (WL _ _ _ _ (⟨some _, .call _, _, _, _, none⟩ :: _)); refine G.cvW ( h1') ?_) | (show G _ _ _ _ (WL _ _ _ _ (⟨some _, .call _, _, _, _, none⟩ :: _)); refine G.cvW ( h2) ?_) | (show G _ _ _ _ (WL _ _ _ _ (⟨some _, .call _, _, _, _, none⟩ :: _)); refine G.cvW ( h3') ?_) | ((repeat (revert hK; revert K)); refine wkT ?_; repeat intro K hK) | refine wkg ?_))
  (try refine G.finBn ?_); refine G.finB0 rfl (by first | ((repeat (first | exact trivial | refine ⟨.inl rfl, ?_⟩ | refine ⟨.inr rfl, ?_⟩)); done) | fail) (by first | exact Is.cl (hcl _) | exact Is.cl6 (hcl _) | ((repeat (first | exact trivial | refine ⟨ClE.some rfl, ?_⟩ | (with_reducible refine ClB.d ?_) | (with_reducible refine ⟨ClE.some (numsL_d _ _), ?_⟩) | refine ⟨ClE.none, ?_⟩)); done) | fail) (by rfl)
theorem each_F (fv : AV) (hfk : fv.nums kn = true) (hfn : ∀ c, fv.nums (inB (Is c)) = true) (c : Nat → Nat → Option (TypeId × List AV)) (hcl : ∀ i j, ClE inI (c i j)) : ∀ (t : BT) (i : Nat), t.ok → (∀ j n, t.nodes[j]? = some n → FvB Try.prog CT fv [.d (.st n.td.row)] (Is (c (i + j))) .any (Is (c (i + j + 1)))) →
    FnB Try.prog CT 55 [.d (.st t.td.row), fv] (Is (c i)) .any (Is (c (i + t.nodes.length)))
  | .E, i, _, _ => each_E fv c hcl i
  | .N h f l g a x b, i, ⟨h0, ha, hb⟩, hf => by
    refine each_N h f l g a x b h0 fv hfk hfn c hcl i (i + a.nodes.length) (i + a.nodes.length + 1) _ (each_F fv hfk hfn c hcl a i ha (fun j n hj => hf j n ?_)) (hf a.nodes.length _ ?_) ?_
    · simp only [BT.nodes]
      rw [List.getElem?_append_left (List.getElem?_eq_some_iff.1 hj).1]
      exact hj
    · simp [BT.nodes]
    · have := each_F fv hfk hfn c hcl b (i + a.nodes.length + 1) hb (fun j n hj => by
        have := hf (a.nodes.length + 1 + j) n (by
          simp only [BT.nodes]
          rw [List.getElem?_append_right (by omega), show a.nodes.length + 1 + j - a.nodes.length = j + 1 by omega, List.getElem?_cons_succ]
          exact hj)
        rw [show i + a.nodes.length + 1 + j = i + (a.nodes.length + 1 + j) by omega]
        exact this)
      rw [show i + (BT.N h f l g a x b).nodes.length = i + a.nodes.length + 1 + b.nodes.length by simp only [BT.nodes, List.length_append, List.length_cons]; omega]
      exact this

end Go.Proofs.Ytmajkjkakciaiaa
