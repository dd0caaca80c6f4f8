/- The first gap of the set of pages is the lowest place in the tree; the example. -/
import Derived.Test.YtkdjbiekjgeafaaJdM
set_option linter.unusedSimpArgs false
set_option linter.unusedVariables false
namespace Go.Proofs.Ytkdjbiekjgeafaa
open Go.RowKit Iv

theorem fit_small {f t n : Int} (h0 : 0 ≤ f) (h1 : f ≤ t) (h2 : t ≤ 512) (h3 : 1 ≤ n) (h4 : n ≤ 60) : fitI f t n = decide (n ≤ t - f) := by
  have e1 : IntKind.u64.wrap (IntKind.u64.wrap t - IntKind.u64.wrap f) = t - f := by
    rw [IntKind.wrap_u64, IntKind.wrap_u64, IntKind.wrap_u64]; omega
  have e2 : IntKind.u64.wrap n = n := by rw [IntKind.wrap_u64]; omega
  unfold fitI
  rw [e1, e2]
theorem firstG_spec {n : Int} (h3 : 1 ≤ n) (h4 : n ≤ 60) : ∀ (L : List (Int × Int)) (p : Option Int), Asc p L → (∀ x ∈ L, 0 ≤ x.1 ∧ x.2 ≤ 512) → (∃ x ∈ L, n ≤ x.2 - x.1 ∧ firstG n L = (x.1, 0) ∧ ∀ y ∈ L, n ≤ y.2 - y.1 → x.1 ≤ y.1) ∨ (firstG n L = (0, 6) ∧ ∀ y ∈ L, ¬ n ≤ y.2 - y.1)
  | [], _, _, _ => .inr ⟨rfl, fun y hy => by simp at hy⟩
  | (c, d) :: L, p, ha, hb => by
    have hA := ha
    unfold Asc at hA
    have hcd : c < d := hA.2.1
    have ha2 : Asc (some d) L := hA.2.2
    have hbx := hb (c, d) (by simp)
    have hf := fit_small hbx.1 (by dsimp only; omega) hbx.2 h3 h4
    dsimp only at hf
    have hgt : ∀ y ∈ L, c ≤ y.1 := fun y hy => by
      have hy1 : Iv.inI L y.1 = true := by
        unfold Iv.inI
        rw [List.any_eq_true]
        have hyl : y.1 < y.2 := by
          have hS : SortF (d + 1) L ∨ True := .inr trivial
          exact asc_lt ha2 y hy
        exact ⟨y, hy, by simp; omega⟩
      have := ha2.lt hy1
      omega
    unfold firstG
    rw [hf]
    by_cases hfit : n ≤ d - c
    · rw [if_pos (by simpa using hfit)]
      refine .inl ⟨(c, d), by simp, hfit, rfl, fun y hy _ => ?_⟩
      rcases List.mem_cons.1 hy with rfl | hy
      · exact Int.le_refl _
      · exact hgt y hy
    · rw [if_neg (by simpa using hfit)]
      rcases firstG_spec h3 h4 L (some d) ha2 (fun x hx => hb x (by simp [hx])) with ⟨x, hx, h5, h6, h7⟩ | ⟨h5, h6⟩
      · refine .inl ⟨x, by simp [hx], h5, h6, fun y hy hy2 => ?_⟩
        rcases List.mem_cons.1 hy with rfl | hy
        · exact absurd hy2 hfit
        · exact h7 y hy hy2
      · refine .inr ⟨h5, fun y hy => ?_⟩
        rcases List.mem_cons.1 hy with rfl | hy
        · exact hfit
        · exact h6 y hy
where asc_lt : ∀ {L : List (Int × Int)} {p : Option Int}, Asc p L → ∀ y ∈ L, y.1 < y.2
  | [], _, _, y, hy => by simp at hy
  | (c, d) :: L, p, ha, y, hy => by
    unfold Asc at ha
    rcases List.mem_cons.1 hy with rfl | hy
    · exact ha.2.1
    · exact asc_lt ha.2.2 y hy
theorem gap_first {p : PT} {s : List (Int × Int)} (h : MOK p s) {lo hi n : Int} (h0 : 0 ≤ lo) (h1 : lo ≤ hi) (h2 : hi ≤ 512) (h3 : 1 ≤ n) (h4 : n ≤ 60) :
    (if (fgI s lo hi n (cutI (oneI (lo, hi)) s)).2 = 0 then (fgI s lo hi n (cutI (oneI (lo, hi)) s)).1 else -1) = GapF p lo hi n ∧ ((fgI s lo hi n (cutI (oneI (lo, hi)) s)).2 = 0 ∨ (fgI s lo hi n (cutI (oneI (lo, hi)) s)).2 = 6) := by
  have hc : chkI s = 0 := (chkI_asc s).2 h.hs
  have e : fgI s lo hi n (cutI (oneI (lo, hi)) s) = firstG n (cutI (oneI (lo, hi)) s) := by
    unfold fgI; rw [if_pos hc, if_neg (by omega)]
  rw [e]
  obtain ⟨c1, c2⟩ := cut_spec (oneI (lo, hi)) s none none (one_asc h1) h.hs
  have hin : ∀ q, Iv.inI (cutI (oneI (lo, hi)) s) q = ((decide (lo ≤ q) && decide (q < hi)) && !(findV p.flat q).2) := fun q => by
    rw [c2, in_one h1, h.hm]
  generalize cutI (oneI (lo, hi)) s = L at *
  have hmem : ∀ x ∈ L, ∀ q, x.1 ≤ q → q < x.2 → Iv.inI L q = true := fun x hx q q1 q2 => by
    unfold Iv.inI
    rw [List.any_eq_true]
    exact ⟨x, hx, by simp; omega⟩
  have hbd : ∀ x ∈ L, lo ≤ x.1 ∧ x.2 ≤ hi := fun x hx => by
    have hl := firstG_spec.asc_lt c1 x hx
    have a1 := hmem x hx x.1 (by omega) hl
    have a2 := hmem x hx (x.2 - 1) (by omega) (by omega)
    rw [hin] at a1 a2
    simp only [Bool.and_eq_true, decide_eq_true_eq] at a1 a2
    omega
  have hfr : ∀ q, freeL p.flat q n = true → lo ≤ q → q + n ≤ hi → ∃ y ∈ L, y.1 ≤ q ∧ n ≤ y.2 - y.1 := fun q hq q1 q2 => by
    have hf := (free_iff h.hp.l h3).1 hq
    obtain ⟨y, hy, y1, y2⟩ := run_one h3 c1 (s := q) (fun r r1 r2 => by
      rw [hin, hf r r1 r2]
      simp
      omega)
    exact ⟨y, hy, y1, by omega⟩
  rcases firstG_spec h3 h4 L none c1 (fun x hx => by have := hbd x hx; omega) with ⟨x, hx, x1, x2, x3⟩ | ⟨x1, x2⟩
  · rw [x2]
    have hb := hbd x hx
    refine ⟨?_, .inl rfl⟩
    dsimp only
    rw [if_pos rfl]
    symm
    refine GapF_first h.hp.g h0 h1 h2 h3 hb.1 (by omega) ?_ (fun q q1 q2 => ?_)
    · rw [free_iff h.hp.l h3]
      intro q q1 q2
      have := hmem x hx q q1 (by omega)
      rw [hin, Bool.and_eq_true] at this
      simpa using this.2
    · rw [← Bool.not_eq_true]
      intro hq
      obtain ⟨y, hy, y1, y2⟩ := hfr q hq q1 (by omega)
      have := x3 y hy y2
      omega
  · rw [x1]
    refine ⟨?_, .inr rfl⟩
    dsimp only
    rw [if_neg (by decide)]
    symm
    refine GapF_none h.hp.g h0 h1 h2 h3 (fun q q1 q2 => ?_)
    rw [← Bool.not_eq_true]
    intro hq
    obtain ⟨y, hy, _, y2⟩ := hfr q hq q1 (by omega)
    exact x2 y hy y2

def oA : OV := ⟨0, ⟨4, 5, 3, 0, -1, 0⟩, 0, 0, 0⟩
def oB : OV := ⟨1, ⟨0, 0, 0, 0, 0, 0⟩, 6, 1, 0⟩
def dA : PT := (mapT .E ⟨4, 5, 3, 0, -1, 0⟩).1
theorem dA_e : mapT .E ⟨4, 5, 3, 0, -1, 0⟩ = (dA, 0) := by kernel_rfl
def dB : PT := (unmapT dA 6 1).1
theorem dB_e : unmapT dA 6 1 = (dB, 0) := by kernel_rfl
theorem runAB : runM [oA, oB] 2 = (dB, [(4, 6), (7, 9)]) := by
  have e1 : mpT (.E, []) oA = (dA, [(4, 9)]) := by
    rw [mpT_ask, show askT .E oA = (dA, 0) from dA_e, if_neg (by decide), if_pos rfl]
    simp [nextS, oA, uniL, oneI, mergeI, putI]
  have e2 : mpT (dA, [(4, 9)]) oB = (dB, [(4, 6), (7, 9)]) := by
    rw [mpT_ask, show askT dA oB = (dB, 0) from dB_e, if_neg (by decide), if_pos rfl]
    simp [nextS, oB, cutI, cut1, oneI, skipI]
  show mpT (mpT (.E, []) oA) oB = _
  rw [e1, e2]

attribute [local irreducible] Wp WL WO fin finB rnd Exit.then Exit.inBlock G GD LT Rd Fn FnB FvB Iter
attribute [local go_sem] RV.row TD.row OV.row
set_option maxRecDepth 100000 in
set_option maxHeartbeats 4000000 in
theorem dmapping_F : Fn Try.prog 5 [] (· = .s (.bool true)) := by
  have h0 := runM_ok [oA, oB] 2 (by decide)
  have h1 := dmap_F [oA, oB] (by decide)
  rw [show ([oA, oB] : List OV).length = 2 from rfl, runAB] at h1
  rw [runAB] at h0
  have hp := h0.1.hp
  dsimp only at h1 hp
  have h2 : Fn Try.prog 6 [.l [[.s (.int .i64 0), .s (.int .i64 4), .s (.int .i64 5), .s (.int .i64 3), .s (.int .i64 0), .s (.int .i64 (-1)), .s (.int .i64 0), .s (.int .i64 0), .s (.int .i64 0), .s (.int .i64 0)], [.s (.int .i64 1), .s (.int .i64 0), .s (.int .i64 0), .s (.int .i64 0), .s (.int .i64 0), .s (.int .i64 0), .s (.int .i64 0), .s (.int .i64 6), .s (.int .i64 1), .s (.int .i64 0)]]] (· = .tup [.st dB.td.row, .l (ivs [(4, 6), (7, 9)]), .s (.bool true)]) := h1
  have h3 : Fn Try.prog 7 [.l (ivs [(4, 6), (7, 9)]), .l [[.s (.int .i64 4), .s (.int .i64 6)], [.s (.int .i64 7), .s (.int .i64 9)]]] (· = .s (.bool true)) := isame_F [(4, 6), (7, 9)] [(4, 6), (7, 9)]
  have h4 := count_P hp
  rw [show dB.flat.length = 2 by kernel_rfl] at h4
  have h5 := place_P hp 5
  rw [show GapF dB 0 512 5 = 9 by kernel_rfl] at h5
  generalize dB = q at *
  generalize ivs [(4, 6), (7, 9)] = m at *
  refine Fn.of Try.func5 Try.ntmps5 rfl (by kernel_rfl) (fun w o => ?_)
  (repeat (first | refine GD.ctW (h2) ?_ | refine G.cW (h2) ?_ | refine G.cgW (h2) ?_ | refine GD.cW (h2) ?_ | refine GD.cgW (h2) ?_ | refine GD.ctW (h3) ?_ | refine G.cW (h3) ?_ | refine G.cgW (h3) ?_ | refine GD.cW (h3) ?_ | refine GD.cgW (h3) ?_ | refine GD.ctW (h4) ?_ | refine G.cW (h4) ?_ | refine G.cgW (h4) ?_ | refine GD.cW (h4) ?_ | refine GD.cgW (h4) ?_ | refine GD.ctW (h5) ?_ | refine G.cW (h5) ?_ | refine G.cgW (h5) ?_ | refine GD.cW (h5) ?_ | refine GD.cgW (h5) ?_ | ((repeat (revert hK; revert K)); refine wkG ?_; repeat intro K hK) | refine wkg ?_))
  refine G.fin1 (by first | exact rvOk.tmp | exact rvOk.cellS | exact rvOk.cell1 | fail) rfl ?_
  rfl
theorem law_sets (l : List OV) : Fn Try.prog 3 [.l (ows l)] (· = .s (.bool true)) := by
  have hlen : ((ows l).length : Int) = l.length := by rw [ows_len']
  by_cases h24 : 24 < l.length
  · have hb : decide (24 < ((ows l).length : Int)) = true := by rw [decide_eq_true_eq]; omega
    refine Fn.of Try.func3 Try.ntmps3 rfl (by kernel_rfl) (fun w o => ?_)
    (repeat (first | refine G.cW (dmapping_F) ?_ | refine G.cgW (dmapping_F) ?_ | refine GD.cW (dmapping_F) ?_ | refine GD.cgW (dmapping_F) ?_ | ((repeat (revert hK; revert K)); refine wk ?_; repeat intro K hK) | refine wkg ?_))
    refine G.fin1 (by first | exact rvOk.tmp | exact rvOk.cellS | exact rvOk.cell1 | fail) rfl ?_
    rfl
  · have hb : decide (24 < ((ows l).length : Int)) = false := by rw [decide_eq_false_iff_not]; omega
    have hm := dmap_F l (by omega)
    have hok := (runM_ok l l.length (Nat.le_refl _)).1
    have hc := dcov_F hok
    have hs := isame_F (runM l l.length).2 (runM l l.length).2
    rw [decide_eq_true rfl] at hs
    generalize (runM l l.length).1 = p at *
    generalize (runM l l.length).2 = s at *
    refine Fn.of Try.func3 Try.ntmps3 rfl (by kernel_rfl) (fun w o => ?_)
    (repeat (first | refine GD.ctW (hm) ?_ | refine G.cW (hm) ?_ | refine G.cgW (hm) ?_ | refine GD.cW (hm) ?_ | refine GD.cgW (hm) ?_ | refine GD.ctW (hc) ?_ | refine G.cW (hc) ?_ | refine G.cgW (hc) ?_ | refine GD.cW (hc) ?_ | refine GD.cgW (hc) ?_ | refine GD.ctW (hs) ?_ | refine G.cW (hs) ?_ | refine G.cgW (hs) ?_ | refine GD.cW (hs) ?_ | refine GD.cgW (hs) ?_ | refine GD.ctW (dmapping_F) ?_ | refine G.cW (dmapping_F) ?_ | refine G.cgW (dmapping_F) ?_ | refine GD.cW (dmapping_F) ?_ | refine GD.cgW (dmapping_F) ?_ | ((repeat (revert hK; revert K)); refine wkG ?_; repeat intro K hK) | refine wkg ?_))
    refine G.fin1 (by first | exact rvOk.tmp | exact rvOk.cellS | exact rvOk.cell1 | fail) rfl ?_
    rfl

end Go.Proofs.Ytkdjbiekjgeafaa
