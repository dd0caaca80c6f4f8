/- Trees of regions, the program's side: gap, Gap. -/
import Derived.Test.YtmajkjkakciaiaaUeM
set_option linter.unusedSimpArgs false
set_option linter.unusedVariables false
namespace Go.Proofs.Ytmajkjkakciaiaa
open Go.RowKit

def GapOK (p : PT) : Prop := ∀ (fr tt lo n : Int), GI fr tt lo n → Fn Try.prog 69 [.st p.td.row, .s (.int .i64 fr), .s (.int .i64 tt), .s (.int .i64 lo), .s (.int .i64 n)] (· = .s (.int .i64 (gapP p fr tt lo n)))
attribute [local irreducible] Wp WL WO fin finB rnd Exit.then Exit.inBlock G GD LT Rd Fn FnB FvB Iter
attribute [local go_sem] RV.row TD.row
set_option maxHeartbeats 4000000 in
theorem gap_N {a b : PT} {x : RV} (iha : GapOK a) (ihb : GapOK b) (hv : ∀ y ∈ (PT.N a x b).flat, vld y) : GapOK (.N a x b) := by
  intro fr tt lo n hg
  obtain ⟨va, vx, vb⟩ := vld_node hv
  obtain ⟨n1, n2, n3, n4, n5, n6⟩ := num_bd va
  have hg' := hg
  obtain ⟨g1, g2, g3, g4, g5, g6, g7, g8⟩ := hg'
  obtain ⟨x1, x2, x3, x4⟩ := vx
  have f1 : a.td.f = a.fst := rfl
  have f2 : a.td.l = a.lst := rfl
  have f3 : a.td.g = a.gp := rfl
  have f4 : a.td.h = a.ht := rfl
  have na := PT.ht_nn a
  have h0 : 0 < (PT.N a x b).td.h := PT.ht_pos a x b
  have h1 : ((PT.N a x b).td.h == 0) = false := by simp; omega
  have ha := iha fr x.s lo n ⟨g1, g2, by omega, by omega, g5, g6, g7, g8⟩
  have hb := ihb x.e tt lo n ⟨by unfold RV.e; omega, by unfold RV.e; omega, g3, g4, g5, g6, g7, g8⟩
  have he := tend_F x ⟨by omega, by omega, by omega, by omega⟩
  by_cases c1 : tt - lo < n
  · rw [show gapP (.N a x b) fr tt lo n = -1 by unfold gapP; rw [if_pos c1]; unfold gap0; rw [mx_max, if_neg (by omega)]]
    refine Fn.of Try.func69 Try.ntmps69 rfl (by kernel_rfl) (fun w o => ?_)
    (repeat (first | ((repeat (revert hK; revert K)); refine wk ?_; repeat intro K hK) | refine wkg ?_))
    refine G.fin1 (by first | exact rvOk.tmp | exact rvOk.cellS | exact rvOk.cell1 | fail) rfl ?_
    rfl
  · cases hB : gapB x.s lo n a.td.h a.td.g a.td.f fr a.td.l with
    | true =>
      have hB' : (decide (n ≤ x.s - lo) && (((a.td.h == 0 || decide (n ≤ a.td.g)) || decide (n ≤ a.td.f - fr)) || decide (n ≤ x.s - a.td.l))) = true := hB
      have hB2 : gapB x.s lo n a.ht a.gp a.fst fr a.lst = true := hB
      by_cases hs : 0 ≤ gapP a fr x.s lo n
      · rw [show gapP (.N a x b) fr tt lo n = gapP a fr x.s lo n by rw [gapP, if_neg c1, if_pos ⟨hB2, hs⟩]]
        refine Fn.of Try.func69 Try.ntmps69 rfl (by kernel_rfl) (fun w o => ?_)
        (repeat (first | refine G.cW (parts_P a x b) ?_ | refine G.cgW (parts_P a x b) ?_ | refine GD.cW (parts_P a x b) ?_ | refine GD.cgW (parts_P a x b) ?_ | refine G.cW (ha) ?_ | refine G.cgW (ha) ?_ | refine GD.cW (ha) ?_ | refine GD.cgW (ha) ?_ | refine G.cW (hb) ?_ | refine G.cgW (hb) ?_ | refine GD.cW (hb) ?_ | refine GD.cgW (hb) ?_ | refine G.cW (he) ?_ | refine G.cgW (he) ?_ | refine GD.cW (he) ?_ | refine GD.cgW (he) ?_ | ((repeat (revert hK; revert K)); refine wk ?_; repeat intro K hK) | refine wkg ?_))
        refine G.fin1 (by first | exact rvOk.tmp | exact rvOk.cellS | exact rvOk.cell1 | fail) rfl ?_
        rfl
      · rw [show gapP (.N a x b) fr tt lo n = gapP b x.e tt lo n by rw [gapP, if_neg c1, if_neg (fun h => hs h.2)]]
        refine Fn.of Try.func69 Try.ntmps69 rfl (by kernel_rfl) (fun w o => ?_)
        (repeat (first | refine G.cW (parts_P a x b) ?_ | refine G.cgW (parts_P a x b) ?_ | refine GD.cW (parts_P a x b) ?_ | refine GD.cgW (parts_P a x b) ?_ | refine G.cW (ha) ?_ | refine G.cgW (ha) ?_ | refine GD.cW (ha) ?_ | refine GD.cgW (ha) ?_ | refine G.cW (hb) ?_ | refine G.cgW (hb) ?_ | refine GD.cW (hb) ?_ | refine GD.cgW (hb) ?_ | refine G.cW (he) ?_ | refine G.cgW (he) ?_ | refine GD.cW (he) ?_ | refine GD.cgW (he) ?_ | ((repeat (revert hK; revert K)); refine wk ?_; repeat intro K hK) | refine wkg ?_))
        refine G.fin1 (by first | exact rvOk.tmp | exact rvOk.cellS | exact rvOk.cell1 | fail) rfl ?_
        rfl
    | false =>
      have hB' : (decide (n ≤ x.s - lo) && (((a.td.h == 0 || decide (n ≤ a.td.g)) || decide (n ≤ a.td.f - fr)) || decide (n ≤ x.s - a.td.l))) = false := hB
      have hB2 : gapB x.s lo n a.ht a.gp a.fst fr a.lst = false := hB
      rw [show gapP (.N a x b) fr tt lo n = gapP b x.e tt lo n by rw [gapP, if_neg c1, if_neg (fun h => by rw [hB2] at h; cases h.1)]]
      refine Fn.of Try.func69 Try.ntmps69 rfl (by kernel_rfl) (fun w o => ?_)
      (repeat (first | refine G.cW (parts_P a x b) ?_ | refine G.cgW (parts_P a x b) ?_ | refine GD.cW (parts_P a x b) ?_ | refine GD.cgW (parts_P a x b) ?_ | refine G.cW (ha) ?_ | refine G.cgW (ha) ?_ | refine GD.cW (ha) ?_ | refine GD.cgW (ha) ?_ | refine G.cW (hb) ?_ | refine G.cgW (hb) ?_ | refine GD.cW (hb) ?_ | refine GD.cgW (hb) ?_ | refine G.cW (he) ?_ | refine G.cgW (he) ?_ | refine GD.cW (he) ?_ | refine GD.cgW (he) ?_ | ((repeat (revert hK; revert K)); refine wk ?_; repeat intro K hK) | refine wkg ?_))
      refine G.fin1 (by first | exact rvOk.tmp | exact rvOk.cellS | exact rvOk.cell1 | fail) rfl ?_
      rfl
theorem gap_P : ∀ (p : PT), (∀ y ∈ p.flat, vld y) → GapOK p
  | .E, _ => fun fr tt lo n hg => gap_E fr tt lo n hg
  | .N a x b, h => by
    obtain ⟨va, vx, vb⟩ := vld_node h
    exact gap_N (gap_P a va) (gap_P b vb) h
theorem pGap_P {p : PT} (hp : good p) (lo hi n : Int) : Fn Try.prog 43 [.st p.td.row, .s (.int .i64 lo), .s (.int .i64 hi), .s (.int .i64 n)] (· = .s (.int .i64 (GapF p lo hi n))) := by
  have hc := pcheck_P hp
  cases hB : gapBad lo hi n with
  | true =>
    have hB' : ((((decide (lo < 0) || decide (hi < lo)) || decide (512 < hi)) || decide (n < 1)) || decide (512 < n)) = true := hB
    rw [show GapF p lo hi n = -1 by unfold GapF; rw [if_pos hB]]
    refine Fn.of Try.func43 Try.ntmps43 rfl (by kernel_rfl) (fun w o => ?_)
    (repeat (first | refine G.cW (hc) ?_ | refine G.cgW (hc) ?_ | refine GD.cW (hc) ?_ | refine GD.cgW (hc) ?_ | ((repeat (revert hK; revert K)); refine wk ?_; repeat intro K hK) | refine wkg ?_))
    refine G.fin1 (by first | exact rvOk.tmp | exact rvOk.cellS | exact rvOk.cell1 | fail) rfl ?_
    rfl
  | false =>
    have hB' : ((((decide (lo < 0) || decide (hi < lo)) || decide (512 < hi)) || decide (n < 1)) || decide (512 < n)) = false := hB
    have hb := hB'
    simp only [Bool.or_eq_false_iff, decide_eq_false_iff_not, Int.not_lt] at hb
    have hg := gap_P p hp.o.v 0 512 lo n ⟨by omega, by omega, by omega, by omega, by omega, by omega, by omega, by omega⟩
    cases hC : (decide (gapP p 0 512 lo n < 0) || decide (hi - n < gapP p 0 512 lo n)) with
    | true =>
      rw [show GapF p lo hi n = -1 by unfold GapF; rw [if_neg (by rw [hB]; decide), if_pos hC]]
      refine Fn.of Try.func43 Try.ntmps43 rfl (by kernel_rfl) (fun w o => ?_)
      (repeat (first | refine G.cW (hc) ?_ | refine G.cgW (hc) ?_ | refine GD.cW (hc) ?_ | refine GD.cgW (hc) ?_ | refine G.cW (hg) ?_ | refine G.cgW (hg) ?_ | refine GD.cW (hg) ?_ | refine GD.cgW (hg) ?_ | ((repeat (revert hK; revert K)); refine wk ?_; repeat intro K hK) | refine wkg ?_))
      refine G.fin1 (by first | exact rvOk.tmp | exact rvOk.cellS | exact rvOk.cell1 | fail) rfl ?_
      rfl
    | false =>
      rw [show GapF p lo hi n = gapP p 0 512 lo n by unfold GapF; rw [if_neg (by rw [hB]; decide), if_neg (by rw [hC]; decide)]]
      refine Fn.of Try.func43 Try.ntmps43 rfl (by kernel_rfl) (fun w o => ?_)
      (repeat (first | refine G.cW (hc) ?_ | refine G.cgW (hc) ?_ | refine GD.cW (hc) ?_ | refine GD.cgW (hc) ?_ | refine G.cW (hg) ?_ | refine G.cgW (hg) ?_ | refine GD.cW (hg) ?_ | refine GD.cgW (hg) ?_ | ((repeat (revert hK; revert K)); refine wk ?_; repeat intro K hK) | refine wkg ?_))
      refine G.fin1 (by first | exact rvOk.tmp | exact rvOk.cellS | exact rvOk.cell1 | fail) rfl ?_
      rfl

end Go.Proofs.Ytmajkjkakciaiaa
