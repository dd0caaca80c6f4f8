/- Trees of regions, the program's side: Next, Find, gap, Gap. -/
import Derived.Test.YtmajkjkakciaiaaQi
set_option linter.unusedSimpArgs false
set_option linter.unusedVariables false
namespace Go.Proofs.Ytmajkjkakciaiaa
open Go.RowKit

/-- The first region that ends behind g. -/
def nextV (l : List RV) (g : Int) : RV × Bool := match l.find? (fun x => decide (g < x.s + x.p)) with
  | some x => (x, true)
  | none => (RV.z, false)
def findV (l : List RV) (g : Int) : RV × Bool := bif !(nextV l g).2 || decide (g < (nextV l g).1.s) then (RV.z, false) else ((nextV l g).1, true)
theorem after_find (g : Int) : ∀ (t : PT) (b : RV × Bool), ord t.flat → afterV g t b = match t.flat.find? (fun x => decide (g < x.s + x.p)) with | some x => (x, true) | none => b
  | .E, b, _ => rfl
  | .N l x r, b, h => by
    obtain ⟨h1, hx, h2, h3, h4⟩ := ord_node h
    simp only [afterV, PT.flat, List.find?_append]
    by_cases c : g < x.s + x.p
    · rw [if_pos c, after_find g l _ h1]
      cases hq : l.flat.find? (fun x => decide (g < x.s + x.p)) with
      | some y => rfl
      | none => simp [List.find?, c]
    · rw [if_neg c, after_find g r _ h2]
      have hn : l.flat.find? (fun x => decide (g < x.s + x.p)) = none := by
        rw [List.find?_eq_none]
        intro y hy
        have := h3 y hy
        have := hx.2.1
        unfold apart RV.e at *
        simp
        omega
      rw [hn]
      simp [List.find?, c]
theorem after_next {t : PT} (h : good t) (g : Int) : afterV g t (RV.z, false) = nextV t.flat g := after_find g t _ h.o
theorem sm_of_good : ∀ {t : PT}, (∀ x ∈ t.flat, vld x) → t.sm
  | .E, _ => trivial
  | .N l x r, h => by
    obtain ⟨a, b, c⟩ := vld_node h
    exact ⟨vld_sm b, sm_of_good a, sm_of_good c⟩

attribute [local irreducible] Wp WL WO fin finB rnd Exit.then Exit.inBlock G GD LT Rd Fn FnB FvB Iter
attribute [local go_sem] RV.row TD.row
section
variable {p : PT} (hp : good p) (g : Int)
include hp
theorem pnext_P : Fn Try.prog 39 [.st p.td.row, .s (.int .i64 g)] (· = .tup [.st (nextV p.flat g).1.row, .s (.bool (nextV p.flat g).2)]) := by
  have hc := pcheck_P hp
  have ha := after_F p g (sm_of_good hp.o.v)
  rw [after_next hp] at ha
  refine Fn.of Try.func39 Try.ntmps39 rfl (by kernel_rfl) (fun w o => ?_)
  (repeat (first | refine G.cW (hc) ?_ | refine G.cgW (hc) ?_ | refine GD.cW (hc) ?_ | refine GD.cgW (hc) ?_ | refine G.cW (ha) ?_ | refine G.cgW (ha) ?_ | refine GD.cW (ha) ?_ | refine GD.cgW (ha) ?_ | ((repeat (revert hK; revert K)); refine wk ?_; repeat intro K hK) | refine wkg ?_))
  refine G.fin2 (by first | exact rvOk.tmp | exact rvOk.cellS | exact rvOk.cell1 | fail) (by first | exact rvOk.tmp | exact rvOk.cellS | exact rvOk.cell1 | fail) rfl ?_
  rfl
theorem pfind_P : Fn Try.prog 40 [.st p.td.row, .s (.int .i64 g)] (· = .tup [.st (findV p.flat g).1.row, .s (.bool (findV p.flat g).2)]) := by
  have hn := pnext_P hp g
  cases h1 : (nextV p.flat g).2 with
  | false =>
    rw [h1] at hn
    refine Fn.of Try.func40 Try.ntmps40 rfl (by kernel_rfl) (fun w o => ?_)
    (repeat (first | refine G.cW (hn) ?_ | refine G.cgW (hn) ?_ | refine GD.cW (hn) ?_ | refine GD.cgW (hn) ?_ | ((repeat (revert hK; revert K)); refine wk ?_; repeat intro K hK) | refine wkg ?_))
    refine G.fin2 (by first | exact rvOk.tmp | exact rvOk.cellS | exact rvOk.cell1 | fail) (by first | exact rvOk.tmp | exact rvOk.cellS | exact rvOk.cell1 | fail) rfl ?_
    simp only [findV, h1]
    rfl
  | true =>
    rw [h1] at hn
    by_cases h2 : g < (nextV p.flat g).1.s
    · refine Fn.of Try.func40 Try.ntmps40 rfl (by kernel_rfl) (fun w o => ?_)
      (repeat (first | refine G.cW (hn) ?_ | refine G.cgW (hn) ?_ | refine GD.cW (hn) ?_ | refine GD.cgW (hn) ?_ | ((repeat (revert hK; revert K)); refine wk ?_; repeat intro K hK) | refine wkg ?_))
      refine G.fin2 (by first | exact rvOk.tmp | exact rvOk.cellS | exact rvOk.cell1 | fail) (by first | exact rvOk.tmp | exact rvOk.cellS | exact rvOk.cell1 | fail) rfl ?_
      simp only [findV, h1, decide_eq_true h2]
      rfl
    · refine Fn.of Try.func40 Try.ntmps40 rfl (by kernel_rfl) (fun w o => ?_)
      (repeat (first | refine G.cW (hn) ?_ | refine G.cgW (hn) ?_ | refine GD.cW (hn) ?_ | refine GD.cgW (hn) ?_ | ((repeat (revert hK; revert K)); refine wk ?_; repeat intro K hK) | refine wkg ?_))
      refine G.fin2 (by first | exact rvOk.tmp | exact rvOk.cellS | exact rvOk.cell1 | fail) (by first | exact rvOk.tmp | exact rvOk.cellS | exact rvOk.cell1 | fail) rfl ?_
      simp only [findV, h1, decide_eq_false h2]
      rfl
end
section
variable (t : TD) (e : Int) (he : e ≠ 0) (hC : Fn Try.prog 52 [.st t.row] (· = .s (.int .i64 e)))
include he hC
theorem pnext_bad (g : Int) : Fn Try.prog 39 [.st t.row, .s (.int .i64 g)] (· = .tup [.st RV.z.row, .s (.bool false)]) := by
  have hb : (e != 0) = true := by simpa using he
  refine Fn.of Try.func39 Try.ntmps39 rfl (by kernel_rfl) (fun w o => ?_)
  (repeat (first | refine G.cW (hC) ?_ | refine G.cgW (hC) ?_ | refine GD.cW (hC) ?_ | refine GD.cgW (hC) ?_ | ((repeat (revert hK; revert K)); refine wk ?_; repeat intro K hK) | refine wkg ?_))
  refine G.fin2 (by first | exact rvOk.tmp | exact rvOk.cellS | exact rvOk.cell1 | fail) (by first | exact rvOk.tmp | exact rvOk.cellS | exact rvOk.cell1 | fail) rfl ?_
  rfl
theorem pfind_bad (g : Int) : Fn Try.prog 40 [.st t.row, .s (.int .i64 g)] (· = .tup [.st RV.z.row, .s (.bool false)]) := by
  have hn := pnext_bad t e he hC g
  refine Fn.of Try.func40 Try.ntmps40 rfl (by kernel_rfl) (fun w o => ?_)
  (repeat (first | refine G.cW (hn) ?_ | refine G.cgW (hn) ?_ | refine GD.cW (hn) ?_ | refine GD.cgW (hn) ?_ | ((repeat (revert hK; revert K)); refine wk ?_; repeat intro K hK) | refine wkg ?_))
  refine G.fin2 (by first | exact rvOk.tmp | exact rvOk.cellS | exact rvOk.cell1 | fail) (by first | exact rvOk.tmp | exact rvOk.cellS | exact rvOk.cell1 | fail) rfl ?_
  rfl
theorem pGap_bad (lo hi n : Int) : Fn Try.prog 43 [.st t.row, .s (.int .i64 lo), .s (.int .i64 hi), .s (.int .i64 n)] (· = .s (.int .i64 (-1))) := by
  have hb : (e != 0) = true := by simpa using he
  refine Fn.of Try.func43 Try.ntmps43 rfl (by kernel_rfl) (fun w o => ?_)
  (repeat (first | refine G.cW (hC) ?_ | refine G.cgW (hC) ?_ | refine GD.cW (hC) ?_ | refine GD.cgW (hC) ?_ | ((repeat (revert hK; revert K)); refine wk ?_; repeat intro K hK) | refine wkg ?_))
  refine G.fin1 (by first | exact rvOk.tmp | exact rvOk.cellS | exact rvOk.cell1 | fail) rfl ?_
  rfl
end
theorem gap_E (fr tt lo n : Int) (hg : GI fr tt lo n) : Fn Try.prog 69 [.st PT.E.td.row, .s (.int .i64 fr), .s (.int .i64 tt), .s (.int .i64 lo), .s (.int .i64 n)] (· = .s (.int .i64 (gap0 fr tt lo n))) := by
  obtain ⟨g1, g2, g3, g4, g5, g6, g7, g8⟩ := hg
  by_cases h : n ≤ tt - max fr lo
  · refine Fn.of Try.func69 Try.ntmps69 rfl (by kernel_rfl) (fun w o => ?_)
    (repeat (first | ((repeat (revert hK; revert K)); refine wk ?_; repeat intro K hK) | refine wkg ?_))
    refine G.fin1 (by first | exact rvOk.tmp | exact rvOk.cellS | exact rvOk.cell1 | fail) rfl ?_
    simp only [gap0, mx_max, if_pos h]
  · refine Fn.of Try.func69 Try.ntmps69 rfl (by kernel_rfl) (fun w o => ?_)
    (repeat (first | ((repeat (revert hK; revert K)); refine wk ?_; repeat intro K hK) | refine wkg ?_))
    refine G.fin1 (by first | exact rvOk.tmp | exact rvOk.cellS | exact rvOk.cell1 | fail) rfl ?_
    simp only [gap0, mx_max, if_neg h]

end Go.Proofs.Ytmajkjkakciaiaa
