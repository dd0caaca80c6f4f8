/- Address spaces, the reference's side: Protect, Lock. -/
import Derived.Test.YtjdpignfdncebaaVoM
set_option linter.unusedSimpArgs false
set_option linter.unusedVariables false
namespace Go.Proofs.Ytjdpignfdncebaa
open Go.RowKit

theorem flag4x : ∀ n : Fin 16, (bits .and .i64 (n.1 : Int) 4 != 0) = ((n.1 : Int) / 4 % 2 == 1) ∧ bits .xor .i64 (n.1 : Int) 4 = (if ((n.1 : Int) / 4 % 2 == 1) = true then (n.1 : Int) - 4 else (n.1 : Int) + 4) := by decide
theorem skip_prot {x : RV} (hx : chkV x = 0) (g c : Int) {n : Int} (hn : 0 < n) : skR x g c n false = skipB x g c (fun x => x.r != n) := by
  have h1 : decide (0 < n) = true := by simpa using hn
  have h2 : (n == 0) = false := by simp; omega
  unfold skR skipB
  rw [endV_ok hx, h1, h2]
  simp [bne]
theorem skip_lock {x : RV} (hx : chkV x = 0) (g c : Int) (on : Bool) : skR x g c 0 on = skipB x g c (fun x => (bits .and .i64 x.f 4 != 0) != on) := by
  have bx := chkV_bd hx
  obtain ⟨m, hm⟩ := nat16 bx.2.2.2.2.1 bx.2.2.2.2.2.1
  have e : (bits .and .i64 x.f 4 != 0) = (x.f / 4 % 2 == 1) := by rw [hm]; exact (flag4x m).1
  unfold skR skipB
  rw [endV_ok hx]
  dsimp only
  rw [e]
  cases on <;> cases (x.f / 4 % 2 == 1) <;> simp
theorem lock_turn {on : Bool} (x y : RV) (hx : chkV x = 0) (hy : chkV y = 0) (hf : y.f = x.f ∨ y.f = bits .andNot .i64 x.f 2) (ho : ((bits .and .i64 x.f 4 != 0) != on) = true) : lkT y = { y with f := if on then y.f + 4 else y.f - 4 } := by
  have bx := chkV_bd hx
  have bY := chkV_bd hy
  obtain ⟨m, hm⟩ := nat16 bx.2.2.2.2.1 bx.2.2.2.2.2.1
  obtain ⟨k, hk⟩ := nat16 bY.2.2.2.2.1 bY.2.2.2.2.2.1
  have e : ((k.1 : Int) / 4 % 2 == 1) = ((m.1 : Int) / 4 % 2 == 1) := by
    rcases hf with h | h
    · rw [← hk, h, hm]
    · rw [← hk, h, hm]; exact flag4n m
  rw [hm, (flag4x m).1, ← e] at ho
  unfold lkT
  rw [hk, (flag4x k).2]
  cases on <;> cases hq : ((k.1 : Int) / 4 % 2 == 1) <;> rw [hq] at ho <;> simp_all

attribute [local irreducible] Wp WL WO fin finB rnd Exit.then Exit.inBlock G GD LT Rd Fn FnB FvB Iter
attribute [local go_sem] RV.row TD.row
theorem rprotect_E {t : TD} {e : Int} (he : e ≠ 0) (hc : Fn Try.prog 27 [.st t.row] (· = .s (.int .i64 e))) (g c n : Int) : Fn Try.prog 31 [.st t.row, .s (.int .i64 g), .s (.int .i64 c), .s (.int .i64 n)] (· = resD (.E, e)) := by
  have hb : (e != 0) = true := by simpa using he
  refine Fn.of Try.func31 Try.ntmps31 rfl (by kernel_rfl) (fun w o => ?_)
  (repeat (first | refine G.cW (hc) ?_ | refine G.cgW (hc) ?_ | refine GD.cW (hc) ?_ | refine GD.cgW (hc) ?_ | ((repeat (revert hK; revert K)); refine wk ?_; repeat intro K hK) | refine wkg ?_))
  refine G.leB 1 PT.E.td.row le_EL ?_
  refine G.fin2 (by first | exact rvOk.tmp | exact rvOk.cellS | exact rvOk.cell1 | fail) (by first | exact rvOk.tmp | exact rvOk.cellS | exact rvOk.cell1 | fail) rfl ?_
  rfl
theorem rlock_E {t : TD} {e : Int} (he : e ≠ 0) (hc : Fn Try.prog 27 [.st t.row] (· = .s (.int .i64 e))) (g c : Int) (on : Bool) : Fn Try.prog 33 [.st t.row, .s (.int .i64 g), .s (.int .i64 c), .s (.bool on)] (· = resD (.E, e)) := by
  have hb : (e != 0) = true := by simpa using he
  refine Fn.of Try.func33 Try.ntmps33 rfl (by kernel_rfl) (fun w o => ?_)
  (repeat (first | refine G.cW (hc) ?_ | refine G.cgW (hc) ?_ | refine GD.cW (hc) ?_ | refine GD.cgW (hc) ?_ | ((repeat (revert hK; revert K)); refine wk ?_; repeat intro K hK) | refine wkg ?_))
  refine G.leB 1 PT.E.td.row le_EL ?_
  refine G.fin2 (by first | exact rvOk.tmp | exact rvOk.cellS | exact rvOk.cell1 | fail) (by first | exact rvOk.tmp | exact rvOk.cellS | exact rvOk.cell1 | fail) rfl ?_
  rfl
theorem rprotect_P {p : PT} (hp : ASP p) (g c n : Int) : Fn Try.prog 31 [.st p.td.row, .s (.int .i64 g), .s (.int .i64 c), .s (.int .i64 n)] (· = resD (protT p g c n)) := by
  have hc := bcheck_P hp
  have hw := within_F g c
  have hl := rl_P hp
  by_cases h0 : rngV g c = 0
  · have hb : (rngV g c != 0) = false := by simp [h0]
    by_cases hn : n = 1 ∨ n = 3
    · have hb2 : ((n != 1) && (n != 3)) = false := by rcases hn with rfl | rfl <;> rfl
      have hcv := rcovered_P hp g c h0
      have b := rngV_ok h0
      cases hq : covV p.flat g c with
      | true =>
        rw [hq] at hcv
        have hch := rchange_F hp.l hp.n (g := g) (c := c) (n := n) (on := false) (by omega) (by omega) (fun x => x.r != n) (prT n) (fun x hx => skip_prot hx g c (by omega)) (fun _ => rfl) (fun e => by omega)
        have hkl : okl (cat (chgL (fun x => x.r != n) (prT n) g c) p.flat) := okl_cat hp.l (fun x hx => chg_part (prT_keeps hn) _ (hp.l.c x hx) (by omega))
        have htr := rtree_P hkl
        unfold resD at htr
        rw [show protT p g c n = resT (cat (chgL (fun x => x.r != n) (prT n) g c) p.flat) by unfold protT chgT; rw [if_pos h0, if_pos hn, if_pos hq]]
        refine Fn.of Try.func31 Try.ntmps31 rfl (by kernel_rfl) (fun w o => ?_)
        (repeat (first | refine G.cW (hc) ?_ | refine G.cgW (hc) ?_ | refine GD.cW (hc) ?_ | refine GD.cgW (hc) ?_ | refine G.cW (hw) ?_ | refine G.cgW (hw) ?_ | refine GD.cW (hw) ?_ | refine GD.cgW (hw) ?_ | refine G.cW (hcv) ?_ | refine G.cgW (hcv) ?_ | refine GD.cW (hcv) ?_ | refine GD.cgW (hcv) ?_ | refine G.cW (hl) ?_ | refine G.cgW (hl) ?_ | refine GD.cW (hl) ?_ | refine GD.cgW (hl) ?_ | refine G.cW (hch) ?_ | refine G.cgW (hch) ?_ | refine GD.cW (hch) ?_ | refine GD.cgW (hch) ?_ | refine G.cW (htr) ?_ | refine G.cgW (htr) ?_ | refine GD.cW (htr) ?_ | refine GD.cgW (htr) ?_ | ((repeat (revert hK; revert K)); refine wk ?_; repeat intro K hK) | refine wkg ?_))
        refine G.fin2 (by first | exact rvOk.tmp | exact rvOk.cellS | exact rvOk.cell1 | fail) (by first | exact rvOk.tmp | exact rvOk.cellS | exact rvOk.cell1 | fail) rfl ?_
        rfl
      | false =>
        rw [hq] at hcv
        rw [show protT p g c n = (.E, 13) by unfold protT chgT; rw [if_pos h0, if_pos hn, if_neg (by rw [hq]; decide)]]
        refine Fn.of Try.func31 Try.ntmps31 rfl (by kernel_rfl) (fun w o => ?_)
        (repeat (first | refine G.cW (hc) ?_ | refine G.cgW (hc) ?_ | refine GD.cW (hc) ?_ | refine GD.cgW (hc) ?_ | refine G.cW (hw) ?_ | refine G.cgW (hw) ?_ | refine GD.cW (hw) ?_ | refine GD.cgW (hw) ?_ | refine G.cW (hcv) ?_ | refine G.cgW (hcv) ?_ | refine GD.cW (hcv) ?_ | refine GD.cgW (hcv) ?_ | ((repeat (revert hK; revert K)); refine wk ?_; repeat intro K hK) | refine wkg ?_))
        refine G.leB 1 PT.E.td.row le_EL ?_
        refine G.fin2 (by first | exact rvOk.tmp | exact rvOk.cellS | exact rvOk.cell1 | fail) (by first | exact rvOk.tmp | exact rvOk.cellS | exact rvOk.cell1 | fail) rfl ?_
        rfl
    · have hb2 : ((n != 1) && (n != 3)) = true := by simp; omega
      rw [show protT p g c n = (.E, 1) by unfold protT; rw [if_pos h0, if_neg hn]]
      refine Fn.of Try.func31 Try.ntmps31 rfl (by kernel_rfl) (fun w o => ?_)
      (repeat (first | refine G.cW (hc) ?_ | refine G.cgW (hc) ?_ | refine GD.cW (hc) ?_ | refine GD.cgW (hc) ?_ | refine G.cW (hw) ?_ | refine G.cgW (hw) ?_ | refine GD.cW (hw) ?_ | refine GD.cgW (hw) ?_ | ((repeat (revert hK; revert K)); refine wk ?_; repeat intro K hK) | refine wkg ?_))
      refine G.leB 1 PT.E.td.row le_EL ?_
      refine G.fin2 (by first | exact rvOk.tmp | exact rvOk.cellS | exact rvOk.cell1 | fail) (by first | exact rvOk.tmp | exact rvOk.cellS | exact rvOk.cell1 | fail) rfl ?_
      rfl
  · have hb : (rngV g c != 0) = true := by simp [h0]
    rw [show protT p g c n = (.E, rngV g c) by unfold protT; rw [if_neg h0]]
    refine Fn.of Try.func31 Try.ntmps31 rfl (by kernel_rfl) (fun w o => ?_)
    (repeat (first | refine G.cW (hc) ?_ | refine G.cgW (hc) ?_ | refine GD.cW (hc) ?_ | refine GD.cgW (hc) ?_ | refine G.cW (hw) ?_ | refine G.cgW (hw) ?_ | refine GD.cW (hw) ?_ | refine GD.cgW (hw) ?_ | ((repeat (revert hK; revert K)); refine wk ?_; repeat intro K hK) | refine wkg ?_))
    refine G.leB 1 PT.E.td.row le_EL ?_
    refine G.fin2 (by first | exact rvOk.tmp | exact rvOk.cellS | exact rvOk.cell1 | fail) (by first | exact rvOk.tmp | exact rvOk.cellS | exact rvOk.cell1 | fail) rfl ?_
    rfl
theorem rlock_P {p : PT} (hp : ASP p) (g c : Int) (on : Bool) : Fn Try.prog 33 [.st p.td.row, .s (.int .i64 g), .s (.int .i64 c), .s (.bool on)] (· = resD (lockT p g c on)) := by
  have hc := bcheck_P hp
  have hw := within_F g c
  have hl := rl_P hp
  by_cases h0 : rngV g c = 0
  · have hb : (rngV g c != 0) = false := by simp [h0]
    have hcv := rcovered_P hp g c h0
    have b := rngV_ok h0
    cases hq : covV p.flat g c with
    | true =>
      rw [hq] at hcv
      have hch := rchange_F hp.l hp.n (g := g) (c := c) (n := 0) (on := on) (by omega) (by omega) (fun x => (bits .and .i64 x.f 4 != 0) != on) lkT (fun x hx => skip_lock hx g c on) (fun e => by omega) (fun _ x y hx hy hf ho => lock_turn x y hx hy hf ho)
      have hkl : okl (cat (chgL (fun x => (bits .and .i64 x.f 4 != 0) != on) lkT g c) p.flat) := okl_cat hp.l (fun x hx => chg_part lkT_keeps _ (hp.l.c x hx) (by omega))
      have htr := rtree_P hkl
      unfold resD at htr
      rw [show lockT p g c on = resT (cat (chgL (fun x => (bits .and .i64 x.f 4 != 0) != on) lkT g c) p.flat) by unfold lockT chgT; rw [if_pos h0, if_pos hq]]
      refine Fn.of Try.func33 Try.ntmps33 rfl (by kernel_rfl) (fun w o => ?_)
      (repeat (first | refine G.cW (hc) ?_ | refine G.cgW (hc) ?_ | refine GD.cW (hc) ?_ | refine GD.cgW (hc) ?_ | refine G.cW (hw) ?_ | refine G.cgW (hw) ?_ | refine GD.cW (hw) ?_ | refine GD.cgW (hw) ?_ | refine G.cW (hcv) ?_ | refine G.cgW (hcv) ?_ | refine GD.cW (hcv) ?_ | refine GD.cgW (hcv) ?_ | refine G.cW (hl) ?_ | refine G.cgW (hl) ?_ | refine GD.cW (hl) ?_ | refine GD.cgW (hl) ?_ | refine G.cW (hch) ?_ | refine G.cgW (hch) ?_ | refine GD.cW (hch) ?_ | refine GD.cgW (hch) ?_ | refine G.cW (htr) ?_ | refine G.cgW (htr) ?_ | refine GD.cW (htr) ?_ | refine GD.cgW (htr) ?_ | ((repeat (revert hK; revert K)); refine wk ?_; repeat intro K hK) | refine wkg ?_))
      refine G.fin2 (by first | exact rvOk.tmp | exact rvOk.cellS | exact rvOk.cell1 | fail) (by first | exact rvOk.tmp | exact rvOk.cellS | exact rvOk.cell1 | fail) rfl ?_
      rfl
    | false =>
      rw [hq] at hcv
      rw [show lockT p g c on = (.E, 13) by unfold lockT chgT; rw [if_pos h0, if_neg (by rw [hq]; decide)]]
      refine Fn.of Try.func33 Try.ntmps33 rfl (by kernel_rfl) (fun w o => ?_)
      (repeat (first | refine G.cW (hc) ?_ | refine G.cgW (hc) ?_ | refine GD.cW (hc) ?_ | refine GD.cgW (hc) ?_ | refine G.cW (hw) ?_ | refine G.cgW (hw) ?_ | refine GD.cW (hw) ?_ | refine GD.cgW (hw) ?_ | refine G.cW (hcv) ?_ | refine G.cgW (hcv) ?_ | refine GD.cW (hcv) ?_ | refine GD.cgW (hcv) ?_ | ((repeat (revert hK; revert K)); refine wk ?_; repeat intro K hK) | refine wkg ?_))
      refine G.leB 1 PT.E.td.row le_EL ?_
      refine G.fin2 (by first | exact rvOk.tmp | exact rvOk.cellS | exact rvOk.cell1 | fail) (by first | exact rvOk.tmp | exact rvOk.cellS | exact rvOk.cell1 | fail) rfl ?_
      rfl
  · have hb : (rngV g c != 0) = true := by simp [h0]
    rw [show lockT p g c on = (.E, rngV g c) by unfold lockT; rw [if_neg h0]]
    refine Fn.of Try.func33 Try.ntmps33 rfl (by kernel_rfl) (fun w o => ?_)
    (repeat (first | refine G.cW (hc) ?_ | refine G.cgW (hc) ?_ | refine GD.cW (hc) ?_ | refine GD.cgW (hc) ?_ | refine G.cW (hw) ?_ | refine G.cgW (hw) ?_ | refine GD.cW (hw) ?_ | refine GD.cgW (hw) ?_ | ((repeat (revert hK; revert K)); refine wk ?_; repeat intro K hK) | refine wkg ?_))
    refine G.leB 1 PT.E.td.row le_EL ?_
    refine G.fin2 (by first | exact rvOk.tmp | exact rvOk.cellS | exact rvOk.cell1 | fail) (by first | exact rvOk.tmp | exact rvOk.cellS | exact rvOk.cell1 | fail) rfl ?_
    rfl

end Go.Proofs.Ytjdpignfdncebaa
