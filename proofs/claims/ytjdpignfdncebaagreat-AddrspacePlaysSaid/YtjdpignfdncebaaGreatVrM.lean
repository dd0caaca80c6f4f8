/- The reference's Do: a call of a script. -/
import Derived.Test.YtjdpignfdncebaaGreatVqM
set_option linter.unusedSimpArgs false
set_option linter.unusedVariables false
namespace Go.Proofs.YtjdpignfdncebaaGreat
open Go.RowKit

attribute [local irreducible] Wp WL WO fin finB rnd Exit.then Exit.inBlock G GD LT Rd Fn FnB FvB Iter
attribute [local go_sem] RV.row TD.row OV.row
theorem rdo_0 (t q : TD) (o : OV) (hk : o.k = 0) (e : Int) (hm : Fn Tryz.prog 17 [.st t.row, .st [.s (.int .i64 o.r.s), .s (.int .i64 o.r.p), .s (.int .i64 o.r.r), .s (.int .i64 o.r.f), .s (.int .i64 o.r.i), .s (.int .i64 o.r.x)]] (· = .tup [.st q.row, .s (.int .i64 e)])) : Fn Tryz.prog 6 [.st t.row, .st o.row] (· = .tup [.st (if e = 0 then q else t).row, .s (.int .i64 e)]) := by
  have h0 : (o.k == 0) = true := by simp [hk]
  by_cases he : e = 0
  · subst he
    rw [if_pos rfl]
    refine Fn.of Tryz.func6 Tryz.ntmps6 rfl (by kernel_rfl) (fun w o => ?_)
    (repeat (first | refine G.cW (hm) ?_ | refine G.cgW (hm) ?_ | refine GD.cW (hm) ?_ | refine GD.cgW (hm) ?_ | ((repeat (revert hK; revert K)); refine wk ?_; repeat intro K hK) | refine wkg ?_))
    refine G.fin2 (by first | exact rvOk.tmp | exact rvOk.cellS | exact rvOk.cell1 | fail) (by first | exact rvOk.tmp | exact rvOk.cellS | exact rvOk.cell1 | fail) rfl ?_
    rfl
  · have hb : (e != 0) = true := by simpa using he
    rw [if_neg he]
    refine Fn.of Tryz.func6 Tryz.ntmps6 rfl (by kernel_rfl) (fun w o => ?_)
    (repeat (first | refine G.cW (hm) ?_ | refine G.cgW (hm) ?_ | refine GD.cW (hm) ?_ | refine GD.cgW (hm) ?_ | ((repeat (revert hK; revert K)); refine wk ?_; repeat intro K hK) | refine wkg ?_))
    refine G.fin2 (by first | exact rvOk.tmp | exact rvOk.cellS | exact rvOk.cell1 | fail) (by first | exact rvOk.tmp | exact rvOk.cellS | exact rvOk.cell1 | fail) rfl ?_
    rfl
theorem rdo_1 (t q : TD) (o : OV) (hk : o.k = 1) (e : Int) (hm : Fn Tryz.prog 18 [.st t.row, .s (.int .i64 o.g), .s (.int .i64 o.c)] (· = .tup [.st q.row, .s (.int .i64 e)])) : Fn Tryz.prog 6 [.st t.row, .st o.row] (· = .tup [.st (if e = 0 then q else t).row, .s (.int .i64 e)]) := by
  have h0 : (o.k == 0) = false := by simp [hk]
  have h1 : (o.k == 1) = true := by simp [hk]
  by_cases he : e = 0
  · subst he
    rw [if_pos rfl]
    refine Fn.of Tryz.func6 Tryz.ntmps6 rfl (by kernel_rfl) (fun w o => ?_)
    (repeat (first | refine G.cW (hm) ?_ | refine G.cgW (hm) ?_ | refine GD.cW (hm) ?_ | refine GD.cgW (hm) ?_ | ((repeat (revert hK; revert K)); refine wk ?_; repeat intro K hK) | refine wkg ?_))
    refine G.fin2 (by first | exact rvOk.tmp | exact rvOk.cellS | exact rvOk.cell1 | fail) (by first | exact rvOk.tmp | exact rvOk.cellS | exact rvOk.cell1 | fail) rfl ?_
    rfl
  · have hb : (e != 0) = true := by simpa using he
    rw [if_neg he]
    refine Fn.of Tryz.func6 Tryz.ntmps6 rfl (by kernel_rfl) (fun w o => ?_)
    (repeat (first | refine G.cW (hm) ?_ | refine G.cgW (hm) ?_ | refine GD.cW (hm) ?_ | refine GD.cgW (hm) ?_ | ((repeat (revert hK; revert K)); refine wk ?_; repeat intro K hK) | refine wkg ?_))
    refine G.fin2 (by first | exact rvOk.tmp | exact rvOk.cellS | exact rvOk.cell1 | fail) (by first | exact rvOk.tmp | exact rvOk.cellS | exact rvOk.cell1 | fail) rfl ?_
    rfl
theorem rdo_2 (t q : TD) (o : OV) (hk : o.k = 2) (e : Int) (hm : Fn Tryz.prog 19 [.st t.row, .s (.int .i64 o.g), .s (.int .i64 o.c), .s (.int .i64 o.n)] (· = .tup [.st q.row, .s (.int .i64 e)])) : Fn Tryz.prog 6 [.st t.row, .st o.row] (· = .tup [.st (if e = 0 then q else t).row, .s (.int .i64 e)]) := by
  have h0 : (o.k == 0) = false := by simp [hk]
  have h1 : (o.k == 1) = false := by simp [hk]
  have h2 : (o.k == 2) = true := by simp [hk]
  by_cases he : e = 0
  · subst he
    rw [if_pos rfl]
    refine Fn.of Tryz.func6 Tryz.ntmps6 rfl (by kernel_rfl) (fun w o => ?_)
    (repeat (first | refine G.cW (hm) ?_ | refine G.cgW (hm) ?_ | refine GD.cW (hm) ?_ | refine GD.cgW (hm) ?_ | ((repeat (revert hK; revert K)); refine wk ?_; repeat intro K hK) | refine wkg ?_))
    refine G.fin2 (by first | exact rvOk.tmp | exact rvOk.cellS | exact rvOk.cell1 | fail) (by first | exact rvOk.tmp | exact rvOk.cellS | exact rvOk.cell1 | fail) rfl ?_
    rfl
  · have hb : (e != 0) = true := by simpa using he
    rw [if_neg he]
    refine Fn.of Tryz.func6 Tryz.ntmps6 rfl (by kernel_rfl) (fun w o => ?_)
    (repeat (first | refine G.cW (hm) ?_ | refine G.cgW (hm) ?_ | refine GD.cW (hm) ?_ | refine GD.cgW (hm) ?_ | ((repeat (revert hK; revert K)); refine wk ?_; repeat intro K hK) | refine wkg ?_))
    refine G.fin2 (by first | exact rvOk.tmp | exact rvOk.cellS | exact rvOk.cell1 | fail) (by first | exact rvOk.tmp | exact rvOk.cellS | exact rvOk.cell1 | fail) rfl ?_
    rfl
theorem rdo_3 (t q : TD) (o : OV) (hk : o.k = 3) (e : Int) (hm : Fn Tryz.prog 20 [.st t.row, .s (.int .i64 o.g), .s (.int .i64 o.c), .s (.bool (o.n == 1))] (· = .tup [.st q.row, .s (.int .i64 e)])) : Fn Tryz.prog 6 [.st t.row, .st o.row] (· = .tup [.st (if e = 0 then q else t).row, .s (.int .i64 e)]) := by
  have h0 : (o.k == 0) = false := by simp [hk]
  have h1 : (o.k == 1) = false := by simp [hk]
  have h2 : (o.k == 2) = false := by simp [hk]
  have h3 : (o.k == 3) = true := by simp [hk]
  by_cases he : e = 0
  · subst he
    rw [if_pos rfl]
    refine Fn.of Tryz.func6 Tryz.ntmps6 rfl (by kernel_rfl) (fun w o => ?_)
    (repeat (first | refine G.cW (hm) ?_ | refine G.cgW (hm) ?_ | refine GD.cW (hm) ?_ | refine GD.cgW (hm) ?_ | ((repeat (revert hK; revert K)); refine wk ?_; repeat intro K hK) | refine wkg ?_))
    refine G.fin2 (by first | exact rvOk.tmp | exact rvOk.cellS | exact rvOk.cell1 | fail) (by first | exact rvOk.tmp | exact rvOk.cellS | exact rvOk.cell1 | fail) rfl ?_
    rfl
  · have hb : (e != 0) = true := by simpa using he
    rw [if_neg he]
    refine Fn.of Tryz.func6 Tryz.ntmps6 rfl (by kernel_rfl) (fun w o => ?_)
    (repeat (first | refine G.cW (hm) ?_ | refine G.cgW (hm) ?_ | refine GD.cW (hm) ?_ | refine GD.cgW (hm) ?_ | ((repeat (revert hK; revert K)); refine wk ?_; repeat intro K hK) | refine wkg ?_))
    refine G.fin2 (by first | exact rvOk.tmp | exact rvOk.cellS | exact rvOk.cell1 | fail) (by first | exact rvOk.tmp | exact rvOk.cellS | exact rvOk.cell1 | fail) rfl ?_
    rfl
theorem rdo_4 (t q : TD) (o : OV) (hk : o.k = 4) (e : Int) (hm : Fn Tryz.prog 21 [.st t.row, .s (.int .i64 o.g)] (· = .tup [.st q.row, .s (.int .i64 e)])) : Fn Tryz.prog 6 [.st t.row, .st o.row] (· = .tup [.st (if e = 0 then q else t).row, .s (.int .i64 e)]) := by
  have h0 : (o.k == 0) = false := by simp [hk]
  have h1 : (o.k == 1) = false := by simp [hk]
  have h2 : (o.k == 2) = false := by simp [hk]
  have h3 : (o.k == 3) = false := by simp [hk]
  have h4 : (o.k == 4) = true := by simp [hk]
  by_cases he : e = 0
  · subst he
    rw [if_pos rfl]
    refine Fn.of Tryz.func6 Tryz.ntmps6 rfl (by kernel_rfl) (fun w o => ?_)
    (repeat (first | refine G.cW (hm) ?_ | refine G.cgW (hm) ?_ | refine GD.cW (hm) ?_ | refine GD.cgW (hm) ?_ | ((repeat (revert hK; revert K)); refine wk ?_; repeat intro K hK) | refine wkg ?_))
    refine G.fin2 (by first | exact rvOk.tmp | exact rvOk.cellS | exact rvOk.cell1 | fail) (by first | exact rvOk.tmp | exact rvOk.cellS | exact rvOk.cell1 | fail) rfl ?_
    rfl
  · have hb : (e != 0) = true := by simpa using he
    rw [if_neg he]
    refine Fn.of Tryz.func6 Tryz.ntmps6 rfl (by kernel_rfl) (fun w o => ?_)
    (repeat (first | refine G.cW (hm) ?_ | refine G.cgW (hm) ?_ | refine GD.cW (hm) ?_ | refine GD.cgW (hm) ?_ | ((repeat (revert hK; revert K)); refine wk ?_; repeat intro K hK) | refine wkg ?_))
    refine G.fin2 (by first | exact rvOk.tmp | exact rvOk.cellS | exact rvOk.cell1 | fail) (by first | exact rvOk.tmp | exact rvOk.cellS | exact rvOk.cell1 | fail) rfl ?_
    rfl
theorem rdo_n (t : TD) (o : OV) (hk : o.k ≠ 0 ∧ o.k ≠ 1 ∧ o.k ≠ 2 ∧ o.k ≠ 3 ∧ o.k ≠ 4) : Fn Tryz.prog 6 [.st t.row, .st o.row] (· = .tup [.st t.row, .s (.int .i64 6)]) := by
  have h0 : (o.k == 0) = false := by simp; omega
  have h1 : (o.k == 1) = false := by simp; omega
  have h2 : (o.k == 2) = false := by simp; omega
  have h3 : (o.k == 3) = false := by simp; omega
  have h4 : (o.k == 4) = false := by simp; omega
  refine Fn.of Tryz.func6 Tryz.ntmps6 rfl (by kernel_rfl) (fun w o => ?_)
  (repeat (first | ((repeat (revert hK; revert K)); refine wk ?_; repeat intro K hK) | refine wkg ?_))
  refine G.fin2 (by first | exact rvOk.tmp | exact rvOk.cellS | exact rvOk.cell1 | fail) (by first | exact rvOk.tmp | exact rvOk.cellS | exact rvOk.cell1 | fail) rfl ?_
  rfl
theorem rdo_P {p : PT} (hp : ASP p) (o : OV) : Fn Tryz.prog 6 [.st p.td.row, .st o.row] (· = resD (doT p o)) := by
  have fin : ∀ (z : PT × Int), askT p o = z → Fn Tryz.prog 6 [.st p.td.row, .st o.row] (· = .tup [.st (if z.2 = 0 then z.1.td else p.td).row, .s (.int .i64 z.2)]) → Fn Tryz.prog 6 [.st p.td.row, .st o.row] (· = resD (doT p o)) := fun z hz h => by
    unfold doT resD
    rw [hz]
    by_cases h0 : z.2 = 0
    · rw [if_pos h0] at h ⊢; rw [h0] at h; exact h
    · rw [if_neg h0] at h ⊢; exact h
  by_cases h0 : o.k = 0
  · by_cases hr : chkV o.r = 0
    · exact fin (mapT p o.r) (by unfold askT; rw [if_pos h0]) (rdo_0 p.td _ o h0 _ (rmap_P hp o.r hr))
    · have e : mapT p o.r = (.E, chkV o.r) := by unfold mapT; rw [if_neg hr]
      exact fin (mapT p o.r) (by unfold askT; rw [if_pos h0]) (by rw [e]; exact rdo_0 p.td _ o h0 _ (rmap_bad hp o.r hr))
  · by_cases h1 : o.k = 1
    · exact fin (unmapT p o.g o.c) (by unfold askT; rw [if_neg h0, if_pos h1]) (rdo_1 p.td _ o h1 _ (runmap_P hp o.g o.c))
    · by_cases h2 : o.k = 2
      · exact fin (protT p o.g o.c o.n) (by unfold askT; rw [if_neg h0, if_neg h1, if_pos h2]) (rdo_2 p.td _ o h2 _ (rprotect_P hp o.g o.c o.n))
      · by_cases h3 : o.k = 3
        · exact fin (lockT p o.g o.c (o.n == 1)) (by unfold askT; rw [if_neg h0, if_neg h1, if_neg h2, if_pos h3]) (rdo_3 p.td _ o h3 _ (rlock_P hp o.g o.c (o.n == 1)))
        · by_cases h4 : o.k = 4
          · exact fin (growT p o.g) (by unfold askT; rw [if_neg h0, if_neg h1, if_neg h2, if_neg h3, if_pos h4]) (rdo_4 p.td _ o h4 _ (rgrow_P hp o.g))
          · exact fin (p, 6) (by unfold askT; rw [if_neg h0, if_neg h1, if_neg h2, if_neg h3, if_neg h4]) (rdo_n p.td o ⟨h0, h1, h2, h3, h4⟩)

end Go.Proofs.YtjdpignfdncebaaGreat
