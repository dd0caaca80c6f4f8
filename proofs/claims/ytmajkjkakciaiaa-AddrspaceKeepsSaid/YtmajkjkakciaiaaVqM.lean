/- The laws' do, the reference's Do: a call of a script. -/
import Derived.Test.YtmajkjkakciaiaaVpM
import Derived.Test.YtmajkjkakciaiaaVmM
import Derived.Test.YtmajkjkakciaiaaVjM
set_option linter.unusedSimpArgs false
set_option linter.unusedVariables false
namespace Go.Proofs.Ytmajkjkakciaiaa
open Go.RowKit

/-- A call of the laws' scripts. -/
structure OV where
  k : Int
  r : RV
  g : Int
  c : Int
  n : Int
def OV.row (o : OV) : List D := [.s (.int .i64 o.k), .s (.int .i64 o.r.s), .s (.int .i64 o.r.p), .s (.int .i64 o.r.r), .s (.int .i64 o.r.f), .s (.int .i64 o.r.i), .s (.int .i64 o.r.x), .s (.int .i64 o.g), .s (.int .i64 o.c), .s (.int .i64 o.n)]
def ows (l : List OV) : List (List D) := l.map OV.row
/-- What a call asks for, and what it leaves. -/
def askT (p : PT) (o : OV) : PT × Int := if o.k = 0 then mapT p o.r else if o.k = 1 then unmapT p o.g o.c else if o.k = 2 then protT p o.g o.c o.n else if o.k = 3 then lockT p o.g o.c (o.n == 1) else if o.k = 4 then growT p o.g else (p, 6)
def doT (p : PT) (o : OV) : PT × Int := if (askT p o).2 = 0 then ((askT p o).1, 0) else (p, (askT p o).2)
theorem askT_asp {p : PT} (hp : ASP p) {o : OV} (h : (askT p o).2 = 0) : ASP (askT p o).1 := by
  unfold askT at h ⊢
  by_cases h0 : o.k = 0
  · rw [if_pos h0] at h ⊢; exact mapT_asp hp h
  · rw [if_neg h0] at h ⊢
    by_cases h1 : o.k = 1
    · rw [if_pos h1] at h ⊢; exact unmapT_asp hp h
    · rw [if_neg h1] at h ⊢
      by_cases h2 : o.k = 2
      · rw [if_pos h2] at h ⊢; exact protT_asp hp h
      · rw [if_neg h2] at h ⊢
        by_cases h3 : o.k = 3
        · rw [if_pos h3] at h ⊢; exact lockT_asp hp h
        · rw [if_neg h3] at h ⊢
          by_cases h4 : o.k = 4
          · rw [if_pos h4] at h ⊢; exact growT_asp hp h
          · rw [if_neg h4] at h; cases h
theorem doT_asp {p : PT} (hp : ASP p) (o : OV) : ASP (doT p o).1 := by
  unfold doT
  split
  · rename_i h; exact askT_asp hp h
  · exact hp

attribute [local irreducible] Wp WL WO fin finB rnd Exit.then Exit.inBlock G GD LT Rd Fn FnB FvB Iter
attribute [local go_sem] RV.row TD.row OV.row
theorem do_0 (t q : TD) (o : OV) (hk : o.k = 0) (e : Int) (hm : Fn Try.prog 11 [.st t.row, .st [.s (.int .i64 o.r.s), .s (.int .i64 o.r.p), .s (.int .i64 o.r.r), .s (.int .i64 o.r.f), .s (.int .i64 o.r.i), .s (.int .i64 o.r.x)]] (· = .tup [.st q.row, .s (.int .i64 e)])) : Fn Try.prog 8 [.st t.row, .st o.row] (· = .tup [.st (if e = 0 then q else t).row, .s (.int .i64 e)]) := by
  have h0 : (o.k == 0) = true := by simp [hk]
  by_cases he : e = 0
  · subst he
    rw [if_pos rfl]
    refine Fn.of Try.func8 Try.ntmps8 rfl (by kernel_rfl) (fun w o => ?_)
    (repeat (first | refine G.cW (hm) ?_ | refine G.cgW (hm) ?_ | refine GD.cW (hm) ?_ | refine GD.cgW (hm) ?_ | ((repeat (revert hK; revert K)); refine wk ?_; repeat intro K hK) | refine wkg ?_))
    refine G.fin2 (by first | exact rvOk.tmp | exact rvOk.cellS | exact rvOk.cell1 | fail) (by first | exact rvOk.tmp | exact rvOk.cellS | exact rvOk.cell1 | fail) rfl ?_
    rfl
  · have hb : (e != 0) = true := by simpa using he
    rw [if_neg he]
    refine Fn.of Try.func8 Try.ntmps8 rfl (by kernel_rfl) (fun w o => ?_)
    (repeat (first | refine G.cW (hm) ?_ | refine G.cgW (hm) ?_ | refine GD.cW (hm) ?_ | refine GD.cgW (hm) ?_ | ((repeat (revert hK; revert K)); refine wk ?_; repeat intro K hK) | refine wkg ?_))
    refine G.fin2 (by first | exact rvOk.tmp | exact rvOk.cellS | exact rvOk.cell1 | fail) (by first | exact rvOk.tmp | exact rvOk.cellS | exact rvOk.cell1 | fail) rfl ?_
    rfl
theorem do_1 (t q : TD) (o : OV) (hk : o.k = 1) (e : Int) (hm : Fn Try.prog 14 [.st t.row, .s (.int .i64 o.g), .s (.int .i64 o.c)] (· = .tup [.st q.row, .s (.int .i64 e)])) : Fn Try.prog 8 [.st t.row, .st o.row] (· = .tup [.st (if e = 0 then q else t).row, .s (.int .i64 e)]) := by
  have h0 : (o.k == 0) = false := by simp [hk]
  have h1 : (o.k == 1) = true := by simp [hk]
  by_cases he : e = 0
  · subst he
    rw [if_pos rfl]
    refine Fn.of Try.func8 Try.ntmps8 rfl (by kernel_rfl) (fun w o => ?_)
    (repeat (first | refine G.cW (hm) ?_ | refine G.cgW (hm) ?_ | refine GD.cW (hm) ?_ | refine GD.cgW (hm) ?_ | ((repeat (revert hK; revert K)); refine wk ?_; repeat intro K hK) | refine wkg ?_))
    refine G.fin2 (by first | exact rvOk.tmp | exact rvOk.cellS | exact rvOk.cell1 | fail) (by first | exact rvOk.tmp | exact rvOk.cellS | exact rvOk.cell1 | fail) rfl ?_
    rfl
  · have hb : (e != 0) = true := by simpa using he
    rw [if_neg he]
    refine Fn.of Try.func8 Try.ntmps8 rfl (by kernel_rfl) (fun w o => ?_)
    (repeat (first | refine G.cW (hm) ?_ | refine G.cgW (hm) ?_ | refine GD.cW (hm) ?_ | refine GD.cgW (hm) ?_ | ((repeat (revert hK; revert K)); refine wk ?_; repeat intro K hK) | refine wkg ?_))
    refine G.fin2 (by first | exact rvOk.tmp | exact rvOk.cellS | exact rvOk.cell1 | fail) (by first | exact rvOk.tmp | exact rvOk.cellS | exact rvOk.cell1 | fail) rfl ?_
    rfl
theorem do_2 (t q : TD) (o : OV) (hk : o.k = 2) (e : Int) (hm : Fn Try.prog 13 [.st t.row, .s (.int .i64 o.g), .s (.int .i64 o.c), .s (.int .i64 o.n)] (· = .tup [.st q.row, .s (.int .i64 e)])) : Fn Try.prog 8 [.st t.row, .st o.row] (· = .tup [.st (if e = 0 then q else t).row, .s (.int .i64 e)]) := by
  have h0 : (o.k == 0) = false := by simp [hk]
  have h1 : (o.k == 1) = false := by simp [hk]
  have h2 : (o.k == 2) = true := by simp [hk]
  by_cases he : e = 0
  · subst he
    rw [if_pos rfl]
    refine Fn.of Try.func8 Try.ntmps8 rfl (by kernel_rfl) (fun w o => ?_)
    (repeat (first | refine G.cW (hm) ?_ | refine G.cgW (hm) ?_ | refine GD.cW (hm) ?_ | refine GD.cgW (hm) ?_ | ((repeat (revert hK; revert K)); refine wk ?_; repeat intro K hK) | refine wkg ?_))
    refine G.fin2 (by first | exact rvOk.tmp | exact rvOk.cellS | exact rvOk.cell1 | fail) (by first | exact rvOk.tmp | exact rvOk.cellS | exact rvOk.cell1 | fail) rfl ?_
    rfl
  · have hb : (e != 0) = true := by simpa using he
    rw [if_neg he]
    refine Fn.of Try.func8 Try.ntmps8 rfl (by kernel_rfl) (fun w o => ?_)
    (repeat (first | refine G.cW (hm) ?_ | refine G.cgW (hm) ?_ | refine GD.cW (hm) ?_ | refine GD.cgW (hm) ?_ | ((repeat (revert hK; revert K)); refine wk ?_; repeat intro K hK) | refine wkg ?_))
    refine G.fin2 (by first | exact rvOk.tmp | exact rvOk.cellS | exact rvOk.cell1 | fail) (by first | exact rvOk.tmp | exact rvOk.cellS | exact rvOk.cell1 | fail) rfl ?_
    rfl
theorem do_3 (t q : TD) (o : OV) (hk : o.k = 3) (e : Int) (hm : Fn Try.prog 23 [.st t.row, .s (.int .i64 o.g), .s (.int .i64 o.c), .s (.bool (o.n == 1))] (· = .tup [.st q.row, .s (.int .i64 e)])) : Fn Try.prog 8 [.st t.row, .st o.row] (· = .tup [.st (if e = 0 then q else t).row, .s (.int .i64 e)]) := by
  have h0 : (o.k == 0) = false := by simp [hk]
  have h1 : (o.k == 1) = false := by simp [hk]
  have h2 : (o.k == 2) = false := by simp [hk]
  have h3 : (o.k == 3) = true := by simp [hk]
  by_cases he : e = 0
  · subst he
    rw [if_pos rfl]
    refine Fn.of Try.func8 Try.ntmps8 rfl (by kernel_rfl) (fun w o => ?_)
    (repeat (first | refine G.cW (hm) ?_ | refine G.cgW (hm) ?_ | refine GD.cW (hm) ?_ | refine GD.cgW (hm) ?_ | ((repeat (revert hK; revert K)); refine wk ?_; repeat intro K hK) | refine wkg ?_))
    refine G.fin2 (by first | exact rvOk.tmp | exact rvOk.cellS | exact rvOk.cell1 | fail) (by first | exact rvOk.tmp | exact rvOk.cellS | exact rvOk.cell1 | fail) rfl ?_
    rfl
  · have hb : (e != 0) = true := by simpa using he
    rw [if_neg he]
    refine Fn.of Try.func8 Try.ntmps8 rfl (by kernel_rfl) (fun w o => ?_)
    (repeat (first | refine G.cW (hm) ?_ | refine G.cgW (hm) ?_ | refine GD.cW (hm) ?_ | refine GD.cgW (hm) ?_ | ((repeat (revert hK; revert K)); refine wk ?_; repeat intro K hK) | refine wkg ?_))
    refine G.fin2 (by first | exact rvOk.tmp | exact rvOk.cellS | exact rvOk.cell1 | fail) (by first | exact rvOk.tmp | exact rvOk.cellS | exact rvOk.cell1 | fail) rfl ?_
    rfl
theorem do_4 (t q : TD) (o : OV) (hk : o.k = 4) (e : Int) (hm : Fn Try.prog 15 [.st t.row, .s (.int .i64 o.g)] (· = .tup [.st q.row, .s (.int .i64 e)])) : Fn Try.prog 8 [.st t.row, .st o.row] (· = .tup [.st (if e = 0 then q else t).row, .s (.int .i64 e)]) := by
  have h0 : (o.k == 0) = false := by simp [hk]
  have h1 : (o.k == 1) = false := by simp [hk]
  have h2 : (o.k == 2) = false := by simp [hk]
  have h3 : (o.k == 3) = false := by simp [hk]
  have h4 : (o.k == 4) = true := by simp [hk]
  by_cases he : e = 0
  · subst he
    rw [if_pos rfl]
    refine Fn.of Try.func8 Try.ntmps8 rfl (by kernel_rfl) (fun w o => ?_)
    (repeat (first | refine G.cW (hm) ?_ | refine G.cgW (hm) ?_ | refine GD.cW (hm) ?_ | refine GD.cgW (hm) ?_ | ((repeat (revert hK; revert K)); refine wk ?_; repeat intro K hK) | refine wkg ?_))
    refine G.fin2 (by first | exact rvOk.tmp | exact rvOk.cellS | exact rvOk.cell1 | fail) (by first | exact rvOk.tmp | exact rvOk.cellS | exact rvOk.cell1 | fail) rfl ?_
    rfl
  · have hb : (e != 0) = true := by simpa using he
    rw [if_neg he]
    refine Fn.of Try.func8 Try.ntmps8 rfl (by kernel_rfl) (fun w o => ?_)
    (repeat (first | refine G.cW (hm) ?_ | refine G.cgW (hm) ?_ | refine GD.cW (hm) ?_ | refine GD.cgW (hm) ?_ | ((repeat (revert hK; revert K)); refine wk ?_; repeat intro K hK) | refine wkg ?_))
    refine G.fin2 (by first | exact rvOk.tmp | exact rvOk.cellS | exact rvOk.cell1 | fail) (by first | exact rvOk.tmp | exact rvOk.cellS | exact rvOk.cell1 | fail) rfl ?_
    rfl
theorem do_n (t : TD) (o : OV) (hk : o.k ≠ 0 ∧ o.k ≠ 1 ∧ o.k ≠ 2 ∧ o.k ≠ 3 ∧ o.k ≠ 4) : Fn Try.prog 8 [.st t.row, .st o.row] (· = .tup [.st t.row, .s (.int .i64 6)]) := by
  have h0 : (o.k == 0) = false := by simp; omega
  have h1 : (o.k == 1) = false := by simp; omega
  have h2 : (o.k == 2) = false := by simp; omega
  have h3 : (o.k == 3) = false := by simp; omega
  have h4 : (o.k == 4) = false := by simp; omega
  refine Fn.of Try.func8 Try.ntmps8 rfl (by kernel_rfl) (fun w o => ?_)
  (repeat (first | ((repeat (revert hK; revert K)); refine wk ?_; repeat intro K hK) | refine wkg ?_))
  refine G.fin2 (by first | exact rvOk.tmp | exact rvOk.cellS | exact rvOk.cell1 | fail) (by first | exact rvOk.tmp | exact rvOk.cellS | exact rvOk.cell1 | fail) rfl ?_
  rfl
theorem do_P {p : PT} (hp : ASP p) (o : OV) : Fn Try.prog 8 [.st p.td.row, .st o.row] (· = resD (doT p o)) := by
  have fin : ∀ (z : PT × Int), askT p o = z → Fn Try.prog 8 [.st p.td.row, .st o.row] (· = .tup [.st (if z.2 = 0 then z.1.td else p.td).row, .s (.int .i64 z.2)]) → Fn Try.prog 8 [.st p.td.row, .st o.row] (· = resD (doT p o)) := fun z hz h => by
    unfold doT resD
    rw [hz]
    by_cases h0 : z.2 = 0
    · rw [if_pos h0] at h ⊢; rw [h0] at h; exact h
    · rw [if_neg h0] at h ⊢; exact h
  by_cases h0 : o.k = 0
  · by_cases hr : chkV o.r = 0
    · exact fin (mapT p o.r) (by unfold askT; rw [if_pos h0]) (do_0 p.td _ o h0 _ (map_P hp o.r hr))
    · have e : mapT p o.r = (.E, chkV o.r) := by unfold mapT; rw [if_neg hr]
      exact fin (mapT p o.r) (by unfold askT; rw [if_pos h0]) (by rw [e]; exact do_0 p.td _ o h0 _ (map_bad hp o.r hr))
  · by_cases h1 : o.k = 1
    · exact fin (unmapT p o.g o.c) (by unfold askT; rw [if_neg h0, if_pos h1]) (do_1 p.td _ o h1 _ (unmap_P hp o.g o.c))
    · by_cases h2 : o.k = 2
      · exact fin (protT p o.g o.c o.n) (by unfold askT; rw [if_neg h0, if_neg h1, if_pos h2]) (do_2 p.td _ o h2 _ (protect_P hp o.g o.c o.n))
      · by_cases h3 : o.k = 3
        · exact fin (lockT p o.g o.c (o.n == 1)) (by unfold askT; rw [if_neg h0, if_neg h1, if_neg h2, if_pos h3]) (do_3 p.td _ o h3 _ (lock_P hp o.g o.c (o.n == 1)))
        · by_cases h4 : o.k = 4
          · exact fin (growT p o.g) (by unfold askT; rw [if_neg h0, if_neg h1, if_neg h2, if_neg h3, if_pos h4]) (do_4 p.td _ o h4 _ (grow_P hp o.g))
          · exact fin (p, 6) (by unfold askT; rw [if_neg h0, if_neg h1, if_neg h2, if_neg h3, if_neg h4]) (do_n p.td o ⟨h0, h1, h2, h3, h4⟩)

end Go.Proofs.Ytmajkjkakciaiaa
