/- Address spaces, the program's side: Protect, Lock, Place, Count, Find. -/
import Derived.Test.YtmajkjkakciaiaaQl
set_option linter.unusedSimpArgs false
set_option linter.unusedVariables false
namespace Go.Proofs.Ytmajkjkakciaiaa
open Go.RowKit

def prT (n : Int) (x : RV) : RV := { x with r := n }
def lkT (x : RV) : RV := { x with f := bits .xor .i64 x.f 4 }
theorem prT_keeps {n : Int} (hn : n = 1 ∨ n = 3) : keepsT (prT n) := fun y hy => by
  have h := (chk_iff y).1 hy
  exact ⟨(chk_iff _).2 ⟨h.1, hn, h.2.2⟩, rfl, rfl⟩
theorem flag_turn : ∀ n : Fin 16, (0 ≤ bits .xor .i64 (n.1 : Int) 4 ∧ bits .xor .i64 (n.1 : Int) 4 ≤ 15) ∧ bits .and .i64 (bits .xor .i64 (n.1 : Int) 4) 1 = bits .and .i64 (n.1 : Int) 1 ∧ bits .and .i64 (bits .xor .i64 (n.1 : Int) 4) 10 = bits .and .i64 (n.1 : Int) 10 := by decide
theorem lkT_keeps : keepsT lkT := fun y hy => by
  have h := (chk_iff y).1 hy
  obtain ⟨n, hn⟩ := nat16 h.2.2.1.1 h.2.2.1.2
  have hk := flag_turn n
  rw [← hn] at hk
  refine ⟨(chk_iff _).2 ⟨h.1, h.2.1, hk.1, h.2.2.2.1, ?_, ?_, h.2.2.2.2.2.2⟩, rfl, rfl⟩
  · intro e; exact hk.2.1.trans (h.2.2.2.2.1 e)
  · intro e; exact hk.2.2.trans (h.2.2.2.2.2.1 e)
def protT (p : PT) (g c n : Int) : PT × Int := if rngV g c = 0 then (if n = 1 ∨ n = 3 then chgT p g c (fun x => x.r != n) (prT n) else (.E, 1)) else (.E, rngV g c)
def lockT (p : PT) (g c : Int) (on : Bool) : PT × Int := if rngV g c = 0 then chgT p g c (fun x => (bits .and .i64 x.f 4 != 0) != on) lkT else (.E, rngV g c)

attribute [local irreducible] Wp WL WO fin finB rnd Exit.then Exit.inBlock G GD LT Rd Fn FnB FvB Iter
attribute [local go_sem] RV.row TD.row
theorem protect_P {p : PT} (hp : ASP p) (g c n : Int) : Fn Try.prog 13 [.st p.td.row, .s (.int .i64 g), .s (.int .i64 c), .s (.int .i64 n)] (· = resD (protT p g c n)) := by
  have hrp := range_P (acheck_P hp) g c
  by_cases h0 : rngV g c = 0
  · have hb : (rngV g c != 0) = false := by simp [h0]
    by_cases hn : n = 1 ∨ n = 3
    · rw [show protT p g c n = chgT p g c (fun x => x.r != n) (prT n) by unfold protT; rw [if_pos h0, if_pos hn]]
      have hc := change_P hp g c h0 _ _ _ _ (fun x => x.r != n) (prT n) (prot1_F n) (prot2_F n) (prT_keeps hn)
      unfold resD at hc
      have hb2 : ((n != 1) && (n != 3)) = false := by rcases hn with rfl | rfl <;> rfl
      refine Fn.of Try.func13 Try.ntmps13 rfl (by kernel_rfl) (fun w o => ?_)
      (repeat (first | ((repeat (revert hK; revert K)); refine wkS ?_; repeat intro K hK) | refine wkg ?_))
      refine G.frzP (ds := [.s (.int .i64 n)]) 7 ?_
      (refine G.k (by assumption) ?_; clear hK K)
      (repeat (first | refine G.cW (hrp) ?_ | refine G.cgW (hrp) ?_ | refine GD.cW (hrp) ?_ | refine GD.cgW (hrp) ?_ | refine G.cW (hc) ?_ | refine G.cgW (hc) ?_ | refine GD.cW (hc) ?_ | refine GD.cgW (hc) ?_ | ((repeat (revert hK; revert K)); refine wk ?_; repeat intro K hK) | refine wkg ?_))
      refine G.fin2 (by first | exact rvOk.tmp | exact rvOk.cellS | exact rvOk.cell1 | fail) (by first | exact rvOk.tmp | exact rvOk.cellS | exact rvOk.cell1 | fail) rfl ?_
      rfl
    · rw [show protT p g c n = (.E, 1) by unfold protT; rw [if_pos h0, if_neg hn]]
      have hb2 : ((n != 1) && (n != 3)) = true := by simp; omega
      refine Fn.of Try.func13 Try.ntmps13 rfl (by kernel_rfl) (fun w o => ?_)
      (repeat (first | ((repeat (revert hK; revert K)); refine wkS ?_; repeat intro K hK) | refine wkg ?_))
      refine G.frzP (ds := [.s (.int .i64 n)]) 7 ?_
      (refine G.k (by assumption) ?_; clear hK K)
      (repeat (first | refine G.cW (hrp) ?_ | refine G.cgW (hrp) ?_ | refine GD.cW (hrp) ?_ | refine GD.cgW (hrp) ?_ | ((repeat (revert hK; revert K)); refine wk ?_; repeat intro K hK) | refine wkg ?_))
      refine G.leB 2 PT.E.td.row le_EL ?_
      refine G.fin2 (by first | exact rvOk.tmp | exact rvOk.cellS | exact rvOk.cell1 | fail) (by first | exact rvOk.tmp | exact rvOk.cellS | exact rvOk.cell1 | fail) rfl ?_
      rfl
  · have hb : (rngV g c != 0) = true := by simp [h0]
    rw [show protT p g c n = (.E, rngV g c) by unfold protT; rw [if_neg h0]]
    refine Fn.of Try.func13 Try.ntmps13 rfl (by kernel_rfl) (fun w o => ?_)
    (repeat (first | refine G.cW (hrp) ?_ | refine G.cgW (hrp) ?_ | refine GD.cW (hrp) ?_ | refine GD.cgW (hrp) ?_ | ((repeat (revert hK; revert K)); refine wk ?_; repeat intro K hK) | refine wkg ?_))
    refine G.leB 2 PT.E.td.row le_EL ?_
    refine G.fin2 (by first | exact rvOk.tmp | exact rvOk.cellS | exact rvOk.cell1 | fail) (by first | exact rvOk.tmp | exact rvOk.cellS | exact rvOk.cell1 | fail) rfl ?_
    rfl
theorem protect_E {t : TD} {e : Int} (he : e ≠ 0) (hc : Fn Try.prog 25 [.st t.row] (· = .s (.int .i64 e))) (g c n : Int) : Fn Try.prog 13 [.st t.row, .s (.int .i64 g), .s (.int .i64 c), .s (.int .i64 n)] (· = resD (.E, e)) := by
  have hb : (e != 0) = true := by simpa using he
  have hrp := range_E he hc g c
  refine Fn.of Try.func13 Try.ntmps13 rfl (by kernel_rfl) (fun w o => ?_)
  (repeat (first | refine G.cW (hrp) ?_ | refine G.cgW (hrp) ?_ | refine GD.cW (hrp) ?_ | refine GD.cgW (hrp) ?_ | ((repeat (revert hK; revert K)); refine wk ?_; repeat intro K hK) | refine wkg ?_))
  refine G.leB 2 PT.E.td.row le_EL ?_
  refine G.fin2 (by first | exact rvOk.tmp | exact rvOk.cellS | exact rvOk.cell1 | fail) (by first | exact rvOk.tmp | exact rvOk.cellS | exact rvOk.cell1 | fail) rfl ?_
  rfl
theorem lock_P {p : PT} (hp : ASP p) (g c : Int) (on : Bool) : Fn Try.prog 23 [.st p.td.row, .s (.int .i64 g), .s (.int .i64 c), .s (.bool on)] (· = resD (lockT p g c on)) := by
  have hrp := range_P (acheck_P hp) g c
  by_cases h0 : rngV g c = 0
  · have hb : (rngV g c != 0) = false := by simp [h0]
    rw [show lockT p g c on = chgT p g c (fun x => (bits .and .i64 x.f 4 != 0) != on) lkT by unfold lockT; rw [if_pos h0]]
    have hc := change_P hp g c h0 _ _ _ _ (fun x => (bits .and .i64 x.f 4 != 0) != on) lkT (lock1_F on) lock2_F lkT_keeps
    unfold resD at hc
    refine Fn.of Try.func23 Try.ntmps23 rfl (by kernel_rfl) (fun w o => ?_)
    (repeat (first | ((repeat (revert hK; revert K)); refine wkS ?_; repeat intro K hK) | refine wkg ?_))
    refine G.frzP (ds := [.s (.bool on)]) 7 ?_
    (refine G.k (by assumption) ?_; clear hK K)
    (repeat (first | refine G.cW (hrp) ?_ | refine G.cgW (hrp) ?_ | refine GD.cW (hrp) ?_ | refine GD.cgW (hrp) ?_ | (show G _ _ _ _ (WL _ _ _ _ (⟨some _, .call _, _, _, _, none⟩ :: _)); refine G.w1 ?_ (by first | exact LT.cfW (hc) | fail)) | (show G _ _ _ _ (WL _ _ _ _ (⟨some _, .call _, _, _, _, some _⟩ :: _)); refine G.gC ?_ (by first | (refine gi ?_; intros; exact LT.cfW (hc)) | fail) rfl rfl) | (show GD _ _ _ _ _ _ _ _ _ _ (⟨some _, .call _, _, _, _, none⟩ :: _); refine GD.w1 ?_ (by first | exact LT.cfW (hc) | fail)) | (show GD _ _ _ _ _ _ _ _ _ _ (⟨some _, .call _, _, _, _, some _⟩ :: _); refine GD.gC ?_ (by first | (refine gi ?_; intros; exact LT.cfW (hc)) | fail) rfl rfl) | ((repeat (revert hK; revert K)); refine wk ?_; repeat intro K hK) | refine wkg ?_))
    refine G.fin2 (by first | exact rvOk.tmp | exact rvOk.cellS | exact rvOk.cell1 | fail) (by first | exact rvOk.tmp | exact rvOk.cellS | exact rvOk.cell1 | fail) rfl ?_
    rfl
  · have hb : (rngV g c != 0) = true := by simp [h0]
    rw [show lockT p g c on = (.E, rngV g c) by unfold lockT; rw [if_neg h0]]
    refine Fn.of Try.func23 Try.ntmps23 rfl (by kernel_rfl) (fun w o => ?_)
    (repeat (first | refine G.cW (hrp) ?_ | refine G.cgW (hrp) ?_ | refine GD.cW (hrp) ?_ | refine GD.cgW (hrp) ?_ | ((repeat (revert hK; revert K)); refine wk ?_; repeat intro K hK) | refine wkg ?_))
    refine G.leB 2 PT.E.td.row le_EL ?_
    refine G.fin2 (by first | exact rvOk.tmp | exact rvOk.cellS | exact rvOk.cell1 | fail) (by first | exact rvOk.tmp | exact rvOk.cellS | exact rvOk.cell1 | fail) rfl ?_
    rfl
theorem lock_E {t : TD} {e : Int} (he : e ≠ 0) (hc : Fn Try.prog 25 [.st t.row] (· = .s (.int .i64 e))) (g c : Int) (on : Bool) : Fn Try.prog 23 [.st t.row, .s (.int .i64 g), .s (.int .i64 c), .s (.bool on)] (· = resD (.E, e)) := by
  have hb : (e != 0) = true := by simpa using he
  have hrp := range_E he hc g c
  refine Fn.of Try.func23 Try.ntmps23 rfl (by kernel_rfl) (fun w o => ?_)
  (repeat (first | refine G.cW (hrp) ?_ | refine G.cgW (hrp) ?_ | refine GD.cW (hrp) ?_ | refine GD.cgW (hrp) ?_ | ((repeat (revert hK; revert K)); refine wk ?_; repeat intro K hK) | refine wkg ?_))
  refine G.leB 2 PT.E.td.row le_EL ?_
  refine G.fin2 (by first | exact rvOk.tmp | exact rvOk.cellS | exact rvOk.cell1 | fail) (by first | exact rvOk.tmp | exact rvOk.cellS | exact rvOk.cell1 | fail) rfl ?_
  rfl
theorem place_P {p : PT} (hp : ASP p) (n : Int) : Fn Try.prog 17 [.st p.td.row, .s (.int .i64 n)] (· = .s (.int .i64 (GapF p 0 512 n))) := by
  have hc := acheck_P hp
  have hg := pGap_P hp.g 0 512 n
  refine Fn.of Try.func17 Try.ntmps17 rfl (by kernel_rfl) (fun w o => ?_)
  (repeat (first | refine G.cW (hc) ?_ | refine G.cgW (hc) ?_ | refine GD.cW (hc) ?_ | refine GD.cgW (hc) ?_ | refine G.cW (hg) ?_ | refine G.cgW (hg) ?_ | refine GD.cW (hg) ?_ | refine GD.cgW (hg) ?_ | ((repeat (revert hK; revert K)); refine wk ?_; repeat intro K hK) | refine wkg ?_))
  refine G.fin1 (by first | exact rvOk.tmp | exact rvOk.cellS | exact rvOk.cell1 | fail) rfl ?_
  rfl
theorem place_E {t : TD} {e : Int} (he : e ≠ 0) (hc : Fn Try.prog 25 [.st t.row] (· = .s (.int .i64 e))) (n : Int) : Fn Try.prog 17 [.st t.row, .s (.int .i64 n)] (· = .s (.int .i64 (-1))) := by
  have hb : (e != 0) = true := by simpa using he
  refine Fn.of Try.func17 Try.ntmps17 rfl (by kernel_rfl) (fun w o => ?_)
  (repeat (first | refine G.cW (hc) ?_ | refine G.cgW (hc) ?_ | refine GD.cW (hc) ?_ | refine GD.cgW (hc) ?_ | ((repeat (revert hK; revert K)); refine wk ?_; repeat intro K hK) | refine wkg ?_))
  refine G.fin1 (by first | exact rvOk.tmp | exact rvOk.cellS | exact rvOk.cell1 | fail) rfl ?_
  rfl
theorem count_P {p : PT} (hp : ASP p) : Fn Try.prog 18 [.st p.td.row] (· = .s (.int .i64 p.flat.length)) := by
  have hc := acheck_P hp
  have hl := plist_P hp.g
  refine Fn.of Try.func18 Try.ntmps18 rfl (by kernel_rfl) (fun w o => ?_)
  (repeat (first | refine G.cW (hc) ?_ | refine G.cgW (hc) ?_ | refine GD.cW (hc) ?_ | refine GD.cgW (hc) ?_ | refine G.cW (hl) ?_ | refine G.cgW (hl) ?_ | refine GD.cW (hl) ?_ | refine GD.cgW (hl) ?_ | ((repeat (revert hK; revert K)); refine wk ?_; repeat intro K hK) | refine wkg ?_))
  refine G.fin1 (by first | exact rvOk.tmp | exact rvOk.cellS | exact rvOk.cell1 | fail) rfl ?_
  rw [rws_len]
theorem count_E {t : TD} {e : Int} (he : e ≠ 0) (hc : Fn Try.prog 25 [.st t.row] (· = .s (.int .i64 e))) : Fn Try.prog 18 [.st t.row] (· = .s (.int .i64 0)) := by
  have hb : (e != 0) = true := by simpa using he
  refine Fn.of Try.func18 Try.ntmps18 rfl (by kernel_rfl) (fun w o => ?_)
  (repeat (first | refine G.cW (hc) ?_ | refine G.cgW (hc) ?_ | refine GD.cW (hc) ?_ | refine GD.cgW (hc) ?_ | ((repeat (revert hK; revert K)); refine wk ?_; repeat intro K hK) | refine wkg ?_))
  refine G.fin1 (by first | exact rvOk.tmp | exact rvOk.cellS | exact rvOk.cell1 | fail) rfl ?_
  rfl
end Go.Proofs.Ytmajkjkakciaiaa
