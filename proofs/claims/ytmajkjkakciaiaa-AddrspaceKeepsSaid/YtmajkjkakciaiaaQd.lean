/- Regions, the reference's side: Overlap. -/
/- Trees of regions as data; the program's end, node. -/
/- Trees of regions, the program's side: after. -/
/- Trees of regions, the program's side: node of trees, Next and Find are to follow. -/
import Derived.Test.YtmajkjkakciaiaaSeM
set_option linter.unusedSimpArgs false
set_option linter.unusedVariables false
namespace Go.Proofs.Ytmajkjkakciaiaa
open Go.RowKit

attribute [local irreducible] Wp WL WO fin finB rnd Exit.then Exit.inBlock G GD LT Rd Fn FnB FvB Iter
def ovI (a b : RV) (p : Int) : List (Nat × AV) × Bs := ([(5, .d (.s (.int .i64 p))), (4, .d (.s (.bool false))), (3, .p 1 0), (2, .p 0 0)], [(1, some (23, b.row.map .d)), (0, some (23, a.row.map .d))])
end Go.Proofs.Ytmajkjkakciaiaa

set_option linter.unusedSimpArgs false
set_option linter.unusedVariables false
namespace Go.Proofs.Ytmajkjkakciaiaa
open Go.RowKit

/-- A tree's cells. -/
structure TD where
  h : Int
  f : Int
  l : Int
  g : Int
  x : RV
  k : List (List D)
def TD.row (t : TD) : List D := [.s (.int .i64 t.h), .s (.int .i64 t.f), .s (.int .i64 t.l), .s (.int .i64 t.g), .s (.int .i64 t.x.s), .s (.int .i64 t.x.p), .s (.int .i64 t.x.r), .s (.int .i64 t.x.f), .s (.int .i64 t.x.i), .s (.int .i64 t.x.x), .l t.k]
instance {t : TD} {n : Nat} {u : AV} {l : List AV} [i : LSet [.d (.s (.int .i64 t.h)), .d (.s (.int .i64 t.f)), .d (.s (.int .i64 t.l)), .d (.s (.int .i64 t.g)), .d (.s (.int .i64 t.x.s)), .d (.s (.int .i64 t.x.p)), .d (.s (.int .i64 t.x.r)), .d (.s (.int .i64 t.x.f)), .d (.s (.int .i64 t.x.i)), .d (.s (.int .i64 t.x.x)), .d (.l t.k)] n u l] : LSet (t.row.map .d) n u l := ⟨i.h⟩
structure TD.bd (t : TD) : Prop where
  b : -1000000 ≤ t.h ∧ t.h ≤ 1000000 ∧ -1000000 ≤ t.f ∧ t.f ≤ 1000000 ∧ -1000000 ≤ t.l ∧ t.l ≤ 1000000 ∧ -1000000 ≤ t.g ∧ t.g ≤ 1000000
/-- The tree of a region between two trees. -/
def nodeT (l : TD) (x : RV) (r : TD) : TD := ⟨1 + max l.h r.h, if 0 < l.h then l.f else x.s, if 0 < r.h then r.l else x.s + x.p, gapN' l x r, x, [l.row, r.row]⟩
where gapN' (l : TD) (x : RV) (r : TD) : Int := if 0 < r.h then max (if 0 < l.h then max (max l.g r.g) (x.s - l.l) else max l.g r.g) (r.f - (x.s + x.p)) else (if 0 < l.h then max (max l.g r.g) (x.s - l.l) else max l.g r.g)

attribute [local irreducible] Wp WL WO fin finB rnd Exit.then Exit.inBlock G GD LT Rd Fn FnB FvB Iter
attribute [local go_sem] RV.row TD.row
theorem tend_F (x : RV) (h : -1000000 ≤ x.s ∧ x.s ≤ 1000000 ∧ -1000000 ≤ x.p ∧ x.p ≤ 1000000) : Fn Try.prog 75 [.st x.row] (· = .s (.int .i64 (x.s + x.p))) := by
  refine Fn.of Try.func75 Try.ntmps75 rfl (by kernel_rfl) (fun w o => ?_)
  (repeat (first | ((repeat (revert hK; revert K)); refine wk ?_; repeat intro K hK) | refine wkg ?_))
  refine G.fin1 (by first | exact rvOk.tmp | exact rvOk.cellS | exact rvOk.cell1 | fail) rfl ?_
  rfl
set_option maxHeartbeats 4000000 in
theorem node_F (l : TD) (x : RV) (r : TD) (hl : l.bd) (hr : r.bd) (h : -1000000 ≤ x.s ∧ x.s ≤ 1000000 ∧ -1000000 ≤ x.p ∧ x.p ≤ 1000000) : Fn Try.prog 82 [.st l.row, .st x.row, .st r.row] (· = .st (nodeT l x r).row) := by
  have bl := hl.b
  have br := hr.b
  by_cases h1 : 0 < l.h <;> by_cases h2 : 0 < r.h
  · refine Fn.of Try.func82 Try.ntmps82 rfl (by kernel_rfl) (fun w o => ?_)
    (repeat (first | refine G.cW (tend_F x h) ?_ | refine G.cgW (tend_F x h) ?_ | refine GD.cW (tend_F x h) ?_ | refine GD.cgW (tend_F x h) ?_ | ((repeat (revert hK; revert K)); refine wk ?_; repeat intro K hK) | refine wkg ?_))
    refine G.fin1 (by first | exact rvOk.tmp | exact rvOk.cellS | exact rvOk.cell1 | fail) rfl ?_
    simp only [nodeT, nodeT.gapN', h1, h2, if_true, if_false]
    rfl
  · refine Fn.of Try.func82 Try.ntmps82 rfl (by kernel_rfl) (fun w o => ?_)
    (repeat (first | refine G.cW (tend_F x h) ?_ | refine G.cgW (tend_F x h) ?_ | refine GD.cW (tend_F x h) ?_ | refine GD.cgW (tend_F x h) ?_ | ((repeat (revert hK; revert K)); refine wk ?_; repeat intro K hK) | refine wkg ?_))
    refine G.fin1 (by first | exact rvOk.tmp | exact rvOk.cellS | exact rvOk.cell1 | fail) rfl ?_
    simp only [nodeT, nodeT.gapN', h1, h2, if_true, if_false]
    rfl
  · refine Fn.of Try.func82 Try.ntmps82 rfl (by kernel_rfl) (fun w o => ?_)
    (repeat (first | refine G.cW (tend_F x h) ?_ | refine G.cgW (tend_F x h) ?_ | refine GD.cW (tend_F x h) ?_ | refine GD.cgW (tend_F x h) ?_ | ((repeat (revert hK; revert K)); refine wk ?_; repeat intro K hK) | refine wkg ?_))
    refine G.fin1 (by first | exact rvOk.tmp | exact rvOk.cellS | exact rvOk.cell1 | fail) rfl ?_
    simp only [nodeT, nodeT.gapN', h1, h2, if_true, if_false]
    rfl
  · refine Fn.of Try.func82 Try.ntmps82 rfl (by kernel_rfl) (fun w o => ?_)
    (repeat (first | refine G.cW (tend_F x h) ?_ | refine G.cgW (tend_F x h) ?_ | refine GD.cW (tend_F x h) ?_ | refine GD.cgW (tend_F x h) ?_ | ((repeat (revert hK; revert K)); refine wk ?_; repeat intro K hK) | refine wkg ?_))
    refine G.fin1 (by first | exact rvOk.tmp | exact rvOk.cellS | exact rvOk.cell1 | fail) rfl ?_
    simp only [nodeT, nodeT.gapN', h1, h2, if_true, if_false]
    rfl
/-- The kids and the region. -/
theorem parts_F (t l r : TD) (hk : t.k = [l.row, r.row]) : Fn Try.prog 79 [.st t.row] (· = .tup [.st l.row, .st t.x.row, .st r.row]) := by
  obtain ⟨th, tf, tl, tg, tx, tk⟩ := t
  dsimp only at hk
  subst hk
  refine Fn.of Try.func79 Try.ntmps79 rfl (by kernel_rfl) (fun w o => ?_)
  (repeat (first | ((repeat (revert hK; revert K)); refine wk ?_; repeat intro K hK) | refine wkg ?_))
  refine G.fin3 (by first | exact rvOk.tmp | exact rvOk.cellS | exact rvOk.cell1 | fail) (by first | exact rvOk.tmp | exact rvOk.cellS | exact rvOk.cell1 | fail) (by first | exact rvOk.tmp | exact rvOk.cellS | exact rvOk.cell1 | fail) rfl ?_
  rfl

end Go.Proofs.Ytmajkjkakciaiaa

set_option linter.unusedSimpArgs false
set_option linter.unusedVariables false
namespace Go.Proofs.Ytmajkjkakciaiaa
open Go.RowKit

def PT.reg : PT → RV
  | .E => RV.z
  | .N _ x _ => x
def PT.kids : PT → List (List D)
  | .E => []
  | .N l _ r => [(TD.mk l.ht l.fst l.lst l.gp l.reg l.kids).row, (TD.mk r.ht r.fst r.lst r.gp r.reg r.kids).row]
def PT.td (t : PT) : TD := ⟨t.ht, t.fst, t.lst, t.gp, t.reg, t.kids⟩
/-- All regions are small numbers. -/
def PT.sm : PT → Prop
  | .E => True
  | .N l x r => (-1000000 ≤ x.s ∧ x.s ≤ 1000000 ∧ -1000000 ≤ x.p ∧ x.p ≤ 1000000) ∧ l.sm ∧ r.sm
def PT.sz : PT → Nat
  | .E => 0
  | .N l _ r => l.sz + r.sz + 1
def afterV (g : Int) : PT → RV × Bool → RV × Bool
  | .E, b => b
  | .N l x r, b => if g < x.s + x.p then afterV g l (x, true) else afterV g r b

attribute [local irreducible] Wp WL WO fin finB rnd Exit.then Exit.inBlock G GD LT Rd Fn FnB FvB Iter
attribute [local go_sem] RV.row TD.row
def afI (g : Int) (z : PT × (RV × Bool)) : List (Nat × AV) × Bs := ([(7, .d (.s (.bool z.2.2))), (6, .p 2 0), (4, .p 1 0), (2, .p 0 0), (1, .d (.s (.int .i64 g)))], [(2, some (23, z.2.1.row.map .d)), (1, some (23, RV.z.row.map .d)), (0, some (26, z.1.td.row.map .d))])
set_option maxHeartbeats 4000000 in
theorem after_F (t : PT) (g : Int) (ht : t.sm) : Fn Try.prog 68 [.st t.td.row, .s (.int .i64 g)] (· = .tup [.st (afterV g t (RV.z, false)).1.row, .s (.bool (afterV g t (RV.z, false)).2)]) := by
  refine Fn.of Try.func68 Try.ntmps68 rfl (by kernel_rfl) (fun w o => ?_)
  (repeat (first | ((repeat (revert hK; revert K)); refine wk ?_; repeat intro K hK) | refine wkg ?_))
  refine G.loop (afI g) (fun z => z.1.sm ∧ afterV g z.1 z.2 = afterV g t (RV.z, false)) (fun z => z.1.sz) ?_ ?_
  · exact G.at (t, (RV.z, false)) [(2, 2), (1, 1), (0, 0)] ⟨ht, rfl⟩ (by repeat (first | exact trivial | refine ⟨⟨rfl, rfl⟩, ?_⟩)) (by repeat (first | exact trivial | refine ⟨⟨rfl, rfl, rfl⟩, ?_⟩ | refine ⟨⟨rfl, by rw [renL_d]; rfl, kbL_d _ _⟩, ?_⟩ | refine ⟨rfl, ?_⟩)) (by decide)
  · rintro ⟨u, b, f⟩ ⟨hu, hv⟩
    dsimp only [afI]
    cases u with
    | E =>
      (repeat (first | ((repeat (revert hK; revert K)); refine wk ?_; repeat intro K hK) | refine wkg ?_))
      refine G.fin2 (by first | exact rvOk.tmp | exact rvOk.cellS | exact rvOk.cell1 | fail) (by first | exact rvOk.tmp | exact rvOk.cellS | exact rvOk.cell1 | fail) rfl ?_
      rw [← hv]
      rfl
    | N l x r =>
      have h0 : 0 < (PT.N l x r).td.h := by
        have := l.ht_nn
        have := r.ht_nn
        simp only [PT.td, PT.ht]
        omega
      obtain ⟨hx, hl, hr⟩ := hu
      by_cases hg : g < x.s + x.p
      · (repeat (first | refine G.cW (tend_F x hx) ?_ | refine G.cgW (tend_F x hx) ?_ | refine GD.cW (tend_F x hx) ?_ | refine GD.cgW (tend_F x hx) ?_ | ((repeat (revert hK; revert K)); refine wk ?_; repeat intro K hK) | refine wkg ?_))
        refine G.at (l, (x, true)) [(2, 2), (1, 1), (0, 0)] ⟨⟨hl, ?_⟩, ?_⟩ (by repeat (first | exact trivial | refine ⟨⟨rfl, rfl⟩, ?_⟩)) (by repeat (first | exact trivial | refine ⟨⟨rfl, rfl, rfl⟩, ?_⟩ | refine ⟨⟨rfl, by rw [renL_d]; rfl, kbL_d _ _⟩, ?_⟩ | refine ⟨rfl, ?_⟩)) (by decide)
        · rw [← hv]
          simp only [afterV, if_pos hg]
        · simp only [PT.sz]
          omega
      · (repeat (first | refine G.cW (tend_F x hx) ?_ | refine G.cgW (tend_F x hx) ?_ | refine GD.cW (tend_F x hx) ?_ | refine GD.cgW (tend_F x hx) ?_ | ((repeat (revert hK; revert K)); refine wk ?_; repeat intro K hK) | refine wkg ?_))
        refine G.at (r, (b, f)) [(2, 2), (1, 1), (0, 0)] ⟨⟨hr, ?_⟩, ?_⟩ (by repeat (first | exact trivial | refine ⟨⟨rfl, rfl⟩, ?_⟩)) (by repeat (first | exact trivial | refine ⟨⟨rfl, rfl, rfl⟩, ?_⟩ | refine ⟨⟨rfl, by rw [renL_d]; rfl, kbL_d _ _⟩, ?_⟩ | refine ⟨rfl, ?_⟩)) (by decide)
        · rw [← hv]
          simp only [afterV, if_neg hg]
        · simp only [PT.sz]
          omega

end Go.Proofs.Ytmajkjkakciaiaa

set_option linter.unusedSimpArgs false
set_option linter.unusedVariables false
namespace Go.Proofs.Ytmajkjkakciaiaa
open Go.RowKit

theorem nodeT_td (l : PT) (x : RV) (r : PT) : nodeT l.td x r.td = (PT.N l x r).td := by
  have e : x.e = x.s + x.p := rfl
  simp only [nodeT, nodeT.gapN', PT.td, PT.ht, PT.fst, PT.lst, PT.gp, gapN, PT.reg, PT.kids, e]
  try rfl
/-- The numbers of all subtrees are small. -/
def PT.bdd : PT → Prop
  | .E => True
  | .N l x r => (PT.N l x r).td.bd ∧ (-1000000 ≤ x.s ∧ x.s ≤ 1000000 ∧ -1000000 ≤ x.p ∧ x.p ≤ 1000000) ∧ l.bdd ∧ r.bdd
theorem PT.bdd.b : ∀ {t : PT}, t.bdd → t.td.bd
  | .E, _ => ⟨by simp [PT.td, PT.ht, PT.fst, PT.lst, PT.gp]⟩
  | .N _ _ _, h => h.1
theorem node_P (l : PT) (x : RV) (r : PT) (hl : l.bdd) (hr : r.bdd) (h : -1000000 ≤ x.s ∧ x.s ≤ 1000000 ∧ -1000000 ≤ x.p ∧ x.p ≤ 1000000) : Fn Try.prog 82 [.st l.td.row, .st x.row, .st r.td.row] (· = .st (PT.N l x r).td.row) := nodeT_td l x r ▸ node_F l.td x r.td hl.b hr.b h
theorem parts_P (l : PT) (x : RV) (r : PT) : Fn Try.prog 79 [.st (PT.N l x r).td.row] (· = .tup [.st l.td.row, .st x.row, .st r.td.row]) := parts_F (PT.N l x r).td l.td r.td rfl

end Go.Proofs.Ytmajkjkakciaiaa
