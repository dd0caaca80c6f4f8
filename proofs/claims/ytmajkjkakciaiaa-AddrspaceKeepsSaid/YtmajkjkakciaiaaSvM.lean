/- Trees with any numbers, the reference's side: Valid, End, Node, numbered. -/
import Derived.Test.YtmajkjkakciaiaaQg
set_option linter.unusedSimpArgs false
set_option linter.unusedVariables false
namespace Go.Proofs.Ytmajkjkakciaiaa
open Go.RowKit

def nodeR (l : TD) (x : RV) (r : TD) : TD := ⟨wr (1 + max l.h r.h), if l.h = 0 then x.s else l.f, if r.h = 0 then x.s + x.p else r.l, gapR l x r, x, [l.row, r.row]⟩
where gapR (l : TD) (x : RV) (r : TD) : Int := if r.h = 0 then (if l.h = 0 then max l.g r.g else max (max l.g r.g) (wr (x.s - l.l))) else max (if l.h = 0 then max l.g r.g else max (max l.g r.g) (wr (x.s - l.l))) (wr (r.f - (x.s + x.p)))
def okT (t l r : TD) : Bool := (((((t.h == (nodeR l t.x r).h) && (t.f == (nodeR l t.x r).f)) && (t.l == (nodeR l t.x r).l)) && (t.g == (nodeR l t.x r).g)) && decide (l.h ≤ wr (r.h + 1))) && decide (r.h ≤ wr (l.h + 1))
def numB : BT → Bool
  | .E => true
  | .N h f l g a x b => numB a && numB b && okT (BT.N h f l g a x b).td a.td b.td

attribute [local irreducible] Wp WL WO fin finB rnd Exit.then Exit.inBlock G GD LT Rd Fn FnB FvB Iter
attribute [local go_sem] RV.row TD.row
theorem rvalid_F (x : RV) : Fn Try.prog 46 [.st x.row] (· = .s (.bool (vldV x))) := by
  refine Fn.of Try.func46 Try.ntmps46 rfl (by kernel_rfl) (fun w o => ?_)
  (repeat (first | ((repeat (revert hK; revert K)); refine wk ?_; repeat intro K hK) | refine wkg ?_))
  refine G.fin1 (by first | exact rvOk.tmp | exact rvOk.cellS | exact rvOk.cell1 | fail) rfl ?_
  rfl
theorem rend_F (x : RV) (h : -1000000 ≤ x.s ∧ x.s ≤ 1000000 ∧ -1000000 ≤ x.p ∧ x.p ≤ 1000000) : Fn Try.prog 47 [.st x.row] (· = .s (.int .i64 (x.s + x.p))) := by
  refine Fn.of Try.func47 Try.ntmps47 rfl (by kernel_rfl) (fun w o => ?_)
  (repeat (first | ((repeat (revert hK; revert K)); refine wk ?_; repeat intro K hK) | refine wkg ?_))
  refine G.fin1 (by first | exact rvOk.tmp | exact rvOk.cellS | exact rvOk.cell1 | fail) rfl ?_
  rfl
set_option maxHeartbeats 4000000 in
theorem rnode_W (l : TD) (x : RV) (r : TD) (h : -1000000 ≤ x.s ∧ x.s ≤ 1000000 ∧ -1000000 ≤ x.p ∧ x.p ≤ 1000000) : Fn Try.prog 48 [.st l.row, .st x.row, .st r.row] (· = .st (nodeR l x r).row) := by
  have hc := rend_F x h
  by_cases h1 : l.h = 0 <;> by_cases h2 : r.h = 0
  · have b1 : (l.h != 0) = false := by simp [h1]
    have b2 : (r.h != 0) = false := by simp [h2]
    refine Fn.of Try.func48 Try.ntmps48 rfl (by kernel_rfl) (fun w o => ?_)
    (repeat (first | refine G.cW (hc) ?_ | refine G.cgW (hc) ?_ | refine GD.cW (hc) ?_ | refine GD.cgW (hc) ?_ | ((repeat (revert hK; revert K)); refine wk ?_; repeat intro K hK) | refine wkg ?_))
    refine G.fin1 (by first | exact rvOk.tmp | exact rvOk.cellS | exact rvOk.cell1 | fail) rfl ?_
    simp only [nodeR, nodeR.gapR, if_pos h1, if_pos h2, show wr (1 + max l.h r.h) = 1 + max l.h r.h from Yq _ (by omega)]
    rfl
  · have b1 : (l.h != 0) = false := by simp [h1]
    have b2 : (r.h != 0) = true := by simp [h2]
    refine Fn.of Try.func48 Try.ntmps48 rfl (by kernel_rfl) (fun w o => ?_)
    (repeat (first | refine G.cW (hc) ?_ | refine G.cgW (hc) ?_ | refine GD.cW (hc) ?_ | refine GD.cgW (hc) ?_ | ((repeat (revert hK; revert K)); refine wk ?_; repeat intro K hK) | refine wkg ?_))
    refine G.fin1 (by first | exact rvOk.tmp | exact rvOk.cellS | exact rvOk.cell1 | fail) rfl ?_
    simp only [nodeR, nodeR.gapR, if_pos h1, if_neg h2]
    rfl
  · have b1 : (l.h != 0) = true := by simp [h1]
    have b2 : (r.h != 0) = false := by simp [h2]
    refine Fn.of Try.func48 Try.ntmps48 rfl (by kernel_rfl) (fun w o => ?_)
    (repeat (first | refine G.cW (hc) ?_ | refine G.cgW (hc) ?_ | refine GD.cW (hc) ?_ | refine GD.cgW (hc) ?_ | ((repeat (revert hK; revert K)); refine wk ?_; repeat intro K hK) | refine wkg ?_))
    refine G.fin1 (by first | exact rvOk.tmp | exact rvOk.cellS | exact rvOk.cell1 | fail) rfl ?_
    simp only [nodeR, nodeR.gapR, if_neg h1, if_pos h2]
    rfl
  · have b1 : (l.h != 0) = true := by simp [h1]
    have b2 : (r.h != 0) = true := by simp [h2]
    refine Fn.of Try.func48 Try.ntmps48 rfl (by kernel_rfl) (fun w o => ?_)
    (repeat (first | refine G.cW (hc) ?_ | refine G.cgW (hc) ?_ | refine GD.cW (hc) ?_ | refine GD.cgW (hc) ?_ | ((repeat (revert hK; revert K)); refine wk ?_; repeat intro K hK) | refine wkg ?_))
    refine G.fin1 (by first | exact rvOk.tmp | exact rvOk.cellS | exact rvOk.cell1 | fail) rfl ?_
    simp only [nodeR, nodeR.gapR, if_neg h1, if_neg h2]
    rfl
theorem rnum_E : Fn Try.prog 45 [.st BT.E.td.row] (· = .s (.bool true)) := by
  refine Fn.of Try.func45 Try.ntmps45 rfl (by kernel_rfl) (fun w o => ?_)
  (repeat (first | ((repeat (revert hK; revert K)); refine wk ?_; repeat intro K hK) | refine wkg ?_))
  refine G.fin1 (by first | exact rvOk.tmp | exact rvOk.cellS | exact rvOk.cell1 | fail) rfl ?_
  rfl
set_option maxHeartbeats 4000000 in
theorem rnum_f (t a b : TD) (x y : Bool) (h0 : t.h ≠ 0) (hk : t.k = [a.row, b.row]) (ha : Fn Try.prog 45 [.st a.row] (· = .s (.bool x))) (hb : Fn Try.prog 45 [.st b.row] (· = .s (.bool y))) (hxy : (x && y) = false) : Fn Try.prog 45 [.st t.row] (· = .s (.bool false)) := by
  have hb0 : (t.h == 0) = false := by simpa using h0
  obtain ⟨th, tf, tl, tg, tx, tk⟩ := t
  dsimp only at hk
  subst hk
  cases x with
  | false =>
    refine Fn.of Try.func45 Try.ntmps45 rfl (by kernel_rfl) (fun w o => ?_)
    (repeat (first | refine G.cW (ha) ?_ | refine G.cgW (ha) ?_ | refine GD.cW (ha) ?_ | refine GD.cgW (ha) ?_ | refine G.cW (hb) ?_ | refine G.cgW (hb) ?_ | refine GD.cW (hb) ?_ | refine GD.cgW (hb) ?_ | ((repeat (revert hK; revert K)); refine wk ?_; repeat intro K hK) | refine wkg ?_))
    refine G.fin1 (by first | exact rvOk.tmp | exact rvOk.cellS | exact rvOk.cell1 | fail) rfl ?_
    rfl
  | true =>
    have hy : y = false := by simpa using hxy
    subst hy
    refine Fn.of Try.func45 Try.ntmps45 rfl (by kernel_rfl) (fun w o => ?_)
    (repeat (first | refine G.cW (ha) ?_ | refine G.cgW (ha) ?_ | refine GD.cW (ha) ?_ | refine GD.cgW (ha) ?_ | refine G.cW (hb) ?_ | refine G.cgW (hb) ?_ | refine GD.cW (hb) ?_ | refine GD.cgW (hb) ?_ | ((repeat (revert hK; revert K)); refine wk ?_; repeat intro K hK) | refine wkg ?_))
    refine G.fin1 (by first | exact rvOk.tmp | exact rvOk.cellS | exact rvOk.cell1 | fail) rfl ?_
    rfl
set_option maxHeartbeats 4000000 in
theorem rnum_t (t a b : TD) (h0 : t.h ≠ 0) (hk : t.k = [a.row, b.row]) (h : -1000000 ≤ t.x.s ∧ t.x.s ≤ 1000000 ∧ -1000000 ≤ t.x.p ∧ t.x.p ≤ 1000000) (ha : Fn Try.prog 45 [.st a.row] (· = .s (.bool true))) (hb : Fn Try.prog 45 [.st b.row] (· = .s (.bool true))) : Fn Try.prog 45 [.st t.row] (· = .s (.bool (okT t a b))) := by
  have hb0 : (t.h == 0) = false := by simpa using h0
  have hn := rnode_W a t.x b h
  obtain ⟨th, tf, tl, tg, tx, tk⟩ := t
  dsimp only at hk
  subst hk
  refine Fn.of Try.func45 Try.ntmps45 rfl (by kernel_rfl) (fun w o => ?_)
  (repeat (first | refine G.cW (ha) ?_ | refine G.cgW (ha) ?_ | refine GD.cW (ha) ?_ | refine GD.cgW (ha) ?_ | refine G.cW (hb) ?_ | refine G.cgW (hb) ?_ | refine GD.cW (hb) ?_ | refine GD.cgW (hb) ?_ | refine G.cW (hn) ?_ | refine G.cgW (hn) ?_ | refine GD.cW (hn) ?_ | refine GD.cgW (hn) ?_ | ((repeat (revert hK; revert K)); refine wk ?_; repeat intro K hK) | refine wkg ?_))
  refine G.fin1 (by first | exact rvOk.tmp | exact rvOk.cellS | exact rvOk.cell1 | fail) rfl ?_
  simp only [okT, Bool.cond_false_right]
  rfl
theorem rnum_F : ∀ (t : BT), t.ok → SmT t → Fn Try.prog 45 [.st t.td.row] (· = .s (.bool (numB t)))
  | .E, _, _ => rnum_E
  | .N h f l g a x b, ⟨h0, h1, h2⟩, hs => by
    have ha := rnum_F a h1 (fun n hn => hs n (by simp [BT.nodes, hn]))
    have hb := rnum_F b h2 (fun n hn => hs n (by simp [BT.nodes, hn]))
    by_cases hx : numB a = true ∧ numB b = true
    · rw [show numB (.N h f l g a x b) = okT (BT.N h f l g a x b).td a.td b.td by simp [numB, hx.1, hx.2]]
      rw [hx.1] at ha
      rw [hx.2] at hb
      exact rnum_t _ _ _ h0 rfl (hs _ (by simp [BT.nodes])) ha hb
    · have e : (numB a && numB b) = false := by
        cases h3 : numB a <;> cases h4 : numB b <;> simp_all
      rw [show numB (.N h f l g a x b) = false by simp [numB, e]]
      exact rnum_f _ _ _ _ _ h0 rfl ha hb e

end Go.Proofs.Ytmajkjkakciaiaa
