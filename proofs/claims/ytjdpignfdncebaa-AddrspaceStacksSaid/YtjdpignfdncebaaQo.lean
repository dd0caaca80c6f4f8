/- Address spaces, the reference's side: List, Count, Find, within. -/
/- Address spaces, the reference's side: normal, tree. -/
/- Address spaces, the reference's side: normal. -/
/- Address spaces, the reference's side: Unmap. -/
import Derived.Test.YtjdpignfdncebaaVaM
set_option linter.unusedSimpArgs false
set_option linter.unusedVariables false
namespace Go.Proofs.Ytjdpignfdncebaa
open Go.RowKit

theorem find_no {l : List RV} {g : Int} (h : (findV l g).2 = false) : findV l g = (RV.z, false) := by
  unfold findV at h ⊢
  cases hc : (!(nextV l g).2 || decide (g < (nextV l g).1.s)) with
  | true => rfl
  | false => rw [hc] at h; cases h
theorem find_yes {l : List RV} (h : okl l) {g : Int} {x : RV} (hx : x ∈ l) (hg : x.s ≤ g ∧ g < x.s + x.p) : findV l g = (x, true) := by
  have h2 := (find_iff h g).2 ⟨x, hx, hg⟩
  obtain ⟨h3, h4⟩ := (find_spec g l h).1 h2
  obtain ⟨i, hi⟩ := List.mem_iff_getElem?.1 hx
  obtain ⟨j, hj⟩ := List.mem_iff_getElem?.1 h3
  have e : (findV l g).1 = x := by
    rcases Nat.lt_trichotomy i j with hij | hij | hij
    · have := sorted_get h hi hj hij; omega
    · subst hij; rw [hi] at hj; cases hj; rfl
    · have := sorted_get h hj hi hij; omega
  exact Prod.ext e h2
theorem has_iff {x : RV} (hx : chkV x = 0) (g : Int) : hasV x g = true ↔ x.s ≤ g ∧ g < x.s + x.p := by
  simp [hasV, hx]

attribute [local irreducible] Wp WL WO fin finB rnd Exit.then Exit.inBlock G GD LT Rd Fn FnB FvB Iter
attribute [local go_sem] RV.row TD.row
theorem rl_P {p : PT} (hp : ASP p) : Fn Try.prog 51 [.st p.td.row] (· = .l (rws p.flat)) := by
  have hc := bcheck_P hp
  have hl := rlist_P hp.g
  refine Fn.of Try.func51 Try.ntmps51 rfl (by kernel_rfl) (fun w o => ?_)
  (repeat (first | refine G.cW (hc) ?_ | refine G.cgW (hc) ?_ | refine GD.cW (hc) ?_ | refine GD.cgW (hc) ?_ | refine G.cW (hl) ?_ | refine G.cgW (hl) ?_ | refine GD.cW (hl) ?_ | refine GD.cgW (hl) ?_ | ((repeat (revert hK; revert K)); refine wk ?_; repeat intro K hK) | refine wkg ?_))
  refine G.fin1 (by first | exact rvOk.tmp | exact rvOk.cellS | exact rvOk.cell1 | fail) rfl ?_
  rfl
theorem rl_E {t : TD} {e : Int} (he : e ≠ 0) (hc : Fn Try.prog 27 [.st t.row] (· = .s (.int .i64 e))) : Fn Try.prog 51 [.st t.row] (· = .s (.slice none 0 0)) := by
  have hb : (e != 0) = true := by simpa using he
  refine Fn.of Try.func51 Try.ntmps51 rfl (by kernel_rfl) (fun w o => ?_)
  (repeat (first | refine G.cW (hc) ?_ | refine G.cgW (hc) ?_ | refine GD.cW (hc) ?_ | refine GD.cgW (hc) ?_ | ((repeat (revert hK; revert K)); refine wk ?_; repeat intro K hK) | refine wkg ?_))
  refine G.fin1 (by first | exact rvOk.tmp | exact rvOk.cellS | exact rvOk.cell1 | fail) rfl ?_
  rfl
theorem rcount_P {p : PT} (hp : ASP p) : Fn Try.prog 29 [.st p.td.row] (· = .s (.int .i64 p.flat.length)) := by
  have hl := rl_P hp
  refine Fn.of Try.func29 Try.ntmps29 rfl (by kernel_rfl) (fun w o => ?_)
  (repeat (first | refine G.cW (hl) ?_ | refine G.cgW (hl) ?_ | refine GD.cW (hl) ?_ | refine GD.cgW (hl) ?_ | ((repeat (revert hK; revert K)); refine wk ?_; repeat intro K hK) | refine wkg ?_))
  refine G.fin1 (by first | exact rvOk.tmp | exact rvOk.cellS | exact rvOk.cell1 | fail) rfl ?_
  rw [rws_len]
def rfI (p : PT) (g : Int) (i : Nat) : List (Nat × AV) × Bs := ([(7, .d (.s (.int .i64 (i : Int)))), (6, .d (.l (rws p.flat))), (1, .d (.s (.int .i64 g))), (4, .p 1 0)], [(1, some (23, RV.z.row.map .d))])
theorem rfind2_P {p : PT} (hp : ASP p) (g : Int) : Fn Try.prog 25 [.st p.td.row, .s (.int .i64 g)] (· = .tup [.st (findV p.flat g).1.row, .s (.bool (findV p.flat g).2)]) := by
  have hl := rl_P hp
  have h12 := hp.n
  have hlen : ((rws p.flat).length : Int) = p.flat.length := by rw [rws_len]
  refine Fn.of Try.func25 Try.ntmps25 rfl (by kernel_rfl) (fun w o => ?_)
  (repeat (first | refine G.cW (hl) ?_ | refine G.cgW (hl) ?_ | refine GD.cW (hl) ?_ | refine GD.cgW (hl) ?_ | ((repeat (revert hK; revert K)); refine wk ?_; repeat intro K hK) | refine wkg ?_))
  refine G.loop (rfI p g) (fun i => i ≤ p.flat.length ∧ ∀ j x, j < i → p.flat[j]? = some x → hasV x g = false) (fun i => p.flat.length - i) ?_ ?_
  · exact G.at 0 [(1, 1)] ⟨Nat.zero_le _, fun j x h => absurd h (Nat.not_lt_zero _)⟩ (by repeat (first | exact trivial | refine ⟨⟨rfl, rfl⟩, ?_⟩)) (by repeat (first | exact trivial | refine ⟨⟨rfl, rfl, rfl⟩, ?_⟩ | refine ⟨⟨rfl, by rw [renL_d]; rfl, kbL_d _ _⟩, ?_⟩ | refine ⟨rfl, ?_⟩)) (by decide)
  · rintro i ⟨hi, hno⟩
    dsimp only [rfI]
    by_cases h : i < p.flat.length
    · have hr := rws_get p.flat i h
      have hg : p.flat[i]? = some p.flat[i] := List.getElem?_eq_getElem h
      have hc := hp.l.c _ (List.mem_of_getElem? hg)
      have hh := rhas_F p.flat[i] g
      cases hq : hasV p.flat[i] g with
      | true =>
        rw [hq] at hh
        (repeat (first | refine G.cW (hh) ?_ | refine G.cgW (hh) ?_ | refine GD.cW (hh) ?_ | refine GD.cgW (hh) ?_ | (show G _ _ _ _ (WL _ _ _ _ (⟨some _, .indexAddr _ _ _, _, _, _, none⟩ :: _)); refine G.w1 ?_ (by first | exact LT.rd (Rd.ixv i (hr)) rfl | fail)) | (show G _ _ _ _ (WL _ _ _ _ (⟨some _, .indexAddr _ _ _, _, _, _, some _⟩ :: _)); refine G.gC ?_ (by first | (refine gi ?_; intros; exact LT.rd (Rd.ixv i (hr)) rfl) | fail) rfl rfl) | (show GD _ _ _ _ _ _ _ _ _ _ (⟨some _, .indexAddr _ _ _, _, _, _, none⟩ :: _); refine GD.w1 ?_ (by first | exact LT.rd (Rd.ixv i (hr)) rfl | fail)) | (show GD _ _ _ _ _ _ _ _ _ _ (⟨some _, .indexAddr _ _ _, _, _, _, some _⟩ :: _); refine GD.gC ?_ (by first | (refine gi ?_; intros; exact LT.rd (Rd.ixv i (hr)) rfl) | fail) rfl rfl) | ((repeat (revert hK; revert K)); refine wk ?_; repeat intro K hK) | refine wkg ?_))
        refine G.fin2 (by first | exact rvOk.tmp | exact rvOk.cellS | exact rvOk.cell1 | fail) (by first | exact rvOk.tmp | exact rvOk.cellS | exact rvOk.cell1 | fail) rfl ?_
        rw [find_yes hp.l (List.mem_of_getElem? hg) ((has_iff hc g).1 hq)]
      | false =>
        rw [hq] at hh
        (repeat (first | refine G.cW (hh) ?_ | refine G.cgW (hh) ?_ | refine GD.cW (hh) ?_ | refine GD.cgW (hh) ?_ | (show G _ _ _ _ (WL _ _ _ _ (⟨some _, .indexAddr _ _ _, _, _, _, none⟩ :: _)); refine G.w1 ?_ (by first | exact LT.rd (Rd.ixv i (hr)) rfl | fail)) | (show G _ _ _ _ (WL _ _ _ _ (⟨some _, .indexAddr _ _ _, _, _, _, some _⟩ :: _)); refine G.gC ?_ (by first | (refine gi ?_; intros; exact LT.rd (Rd.ixv i (hr)) rfl) | fail) rfl rfl) | (show GD _ _ _ _ _ _ _ _ _ _ (⟨some _, .indexAddr _ _ _, _, _, _, none⟩ :: _); refine GD.w1 ?_ (by first | exact LT.rd (Rd.ixv i (hr)) rfl | fail)) | (show GD _ _ _ _ _ _ _ _ _ _ (⟨some _, .indexAddr _ _ _, _, _, _, some _⟩ :: _); refine GD.gC ?_ (by first | (refine gi ?_; intros; exact LT.rd (Rd.ixv i (hr)) rfl) | fail) rfl rfl) | ((repeat (revert hK; revert K)); refine wk ?_; repeat intro K hK) | refine wkg ?_))
        refine G.at (i + 1) [(1, 1)] ⟨⟨h, fun j x hj hx => ?_⟩, by omega⟩ (by repeat (first | exact trivial | refine ⟨⟨rfl, rfl⟩, ?_⟩)) (by repeat (first | exact trivial | refine ⟨⟨rfl, rfl, rfl⟩, ?_⟩ | refine ⟨⟨rfl, by rw [renL_d]; rfl, kbL_d _ _⟩, ?_⟩ | refine ⟨rfl, ?_⟩)) (by decide)
        by_cases e : j = i
        · subst e; rw [hg] at hx; cases hx; exact hq
        · exact hno j x (by omega) hx
    · have e : i = p.flat.length := by omega
      subst e
      have hf : (findV p.flat g).2 = false := by
        rw [← Bool.not_eq_true, find_iff hp.l]
        rintro ⟨x, hx, hx2⟩
        obtain ⟨j, hj⟩ := List.mem_iff_getElem?.1 hx
        have := hno j x (List.getElem?_eq_some_iff.1 hj).1 hj
        rw [(has_iff (hp.l.c x hx) g).2 hx2] at this
        cases this
      (repeat (first | ((repeat (revert hK; revert K)); refine wk ?_; repeat intro K hK) | refine wkg ?_))
      refine G.fin2 (by first | exact rvOk.tmp | exact rvOk.cellS | exact rvOk.cell1 | fail) (by first | exact rvOk.tmp | exact rvOk.cellS | exact rvOk.cell1 | fail) rfl ?_
      rw [find_no hf]
      rfl
theorem within_F (g c : Int) : Fn Try.prog 58 [.s (.int .i64 g), .s (.int .i64 c)] (· = .s (.int .i64 (rngV g c))) := by
  by_cases h1 : c < 1
  · have hb1 : decide (c < 1) = true := by simpa using h1
    refine Fn.of Try.func58 Try.ntmps58 rfl (by kernel_rfl) (fun w o => ?_)
    (repeat (first | ((repeat (revert hK; revert K)); refine wk ?_; repeat intro K hK) | refine wkg ?_))
    refine G.fin1 (by first | exact rvOk.tmp | exact rvOk.cellS | exact rvOk.cell1 | fail) rfl ?_
    simp only [rngV, hb1, cond_true]
  · have hb1 : decide (c < 1) = false := by simpa using h1
    by_cases h2 : g < 0 ∨ 512 < c ∨ 512 - c < g
    · have hb2 : ((decide (g < 0) || decide (512 < c)) || decide (512 - c < g)) = true := by simp; omega
      have hb3 : ((decide (g < 0) || decide (512 < g)) || decide (512 - g < c)) = true := by simp; omega
      refine Fn.of Try.func58 Try.ntmps58 rfl (by kernel_rfl) (fun w o => ?_)
      (repeat (first | ((repeat (revert hK; revert K)); refine wk ?_; repeat intro K hK) | refine wkg ?_))
      refine G.fin1 (by first | exact rvOk.tmp | exact rvOk.cellS | exact rvOk.cell1 | fail) rfl ?_
      simp only [rngV, hb1, hb3, cond_true, cond_false]
    · have hb2 : ((decide (g < 0) || decide (512 < c)) || decide (512 - c < g)) = false := by simp; omega
      have hb3 : ((decide (g < 0) || decide (512 < g)) || decide (512 - g < c)) = false := by simp; omega
      refine Fn.of Try.func58 Try.ntmps58 rfl (by kernel_rfl) (fun w o => ?_)
      (repeat (first | ((repeat (revert hK; revert K)); refine wk ?_; repeat intro K hK) | refine wkg ?_))
      refine G.fin1 (by first | exact rvOk.tmp | exact rvOk.cellS | exact rvOk.cell1 | fail) rfl ?_
      simp only [rngV, hb1, hb3, cond_true, cond_false]

end Go.Proofs.Ytjdpignfdncebaa

set_option linter.unusedSimpArgs false
set_option linter.unusedVariables false
namespace Go.Proofs.Ytjdpignfdncebaa
open Go.RowKit

attribute [local irreducible] Wp WL WO fin finB rnd Exit.then Exit.inBlock G GD LT Rd Fn FnB FvB Iter
attribute [local go_sem] RV.row TD.row
theorem rtree_N {l : List RV} (h : okl l) (hn : Fn Try.prog 91 [.l (rws l)] (· = .l (rws (normL l)))) : Fn Try.prog 53 [.l (rws l)] (· = resD (resT l)) := by
  have hlen : ((rws (normL l)).length : Int) = (normL l).length := by rw [rws_len]
  have hle := (normL_ok h).1.le
  by_cases h1 : 12 < (normL l).length
  · rw [show resT l = (.E, 9) by unfold resT; rw [if_pos h1]]
    refine Fn.of Try.func53 Try.ntmps53 rfl (by kernel_rfl) (fun w o => ?_)
    (repeat (first | refine G.cW (hn) ?_ | refine G.cgW (hn) ?_ | refine GD.cW (hn) ?_ | refine GD.cgW (hn) ?_ | ((repeat (revert hK; revert K)); refine wk ?_; repeat intro K hK) | refine wkg ?_))
    refine G.leB 0 PT.E.td.row le_EL ?_
    refine G.fin2 (by first | exact rvOk.tmp | exact rvOk.cellS | exact rvOk.cell1 | fail) (by first | exact rvOk.tmp | exact rvOk.cellS | exact rvOk.cell1 | fail) rfl ?_
    rfl
  · have hb := rbuild_P _ (normL_ok h).1.ord
    rw [show resT l = (bldT (normL l), 0) by unfold resT; rw [if_neg h1]]
    refine Fn.of Try.func53 Try.ntmps53 rfl (by kernel_rfl) (fun w o => ?_)
    (repeat (first | refine G.cW (hn) ?_ | refine G.cgW (hn) ?_ | refine GD.cW (hn) ?_ | refine GD.cgW (hn) ?_ | refine G.cW (hb) ?_ | refine G.cgW (hb) ?_ | refine GD.cW (hb) ?_ | refine GD.cgW (hb) ?_ | ((repeat (revert hK; revert K)); refine wk ?_; repeat intro K hK) | refine wkg ?_))
    refine G.fin2 (by first | exact rvOk.tmp | exact rvOk.cellS | exact rvOk.cell1 | fail) (by first | exact rvOk.tmp | exact rvOk.cellS | exact rvOk.cell1 | fail) rfl ?_
    rfl

end Go.Proofs.Ytjdpignfdncebaa

set_option linter.unusedSimpArgs false
set_option linter.unusedVariables false
namespace Go.Proofs.Ytjdpignfdncebaa
open Go.RowKit

attribute [local irreducible] Wp WL WO fin finB rnd Exit.then Exit.inBlock G GD LT Rd Fn FnB FvB Iter
attribute [local go_sem] RV.row TD.row
def nmI (l : List RV) (i : Nat) : List (Nat × AV) × Bs := ([(4, .d (.s (.int .i64 (i : Int)))), (0, .d (.l (rws l))), (3, .o 0 (rws (normS l i)).length)], [(0, some (23, (rws (normS l i)).flatten.map .d))])
set_option maxHeartbeats 1000000 in
theorem rnormal_F {l : List RV} (hl : okl l) : Fn Try.prog 91 [.l (rws l)] (· = .l (rws (normL l))) := by
  have hlen : ((rws l).length : Int) = l.length := by rw [rws_len]
  have h512 := hl.le
  refine Fn.of Try.func91 Try.ntmps91 rfl (by kernel_rfl) (fun w o => ?_)
  (repeat (first | ((repeat (revert hK; revert K)); refine wk ?_; repeat intro K hK) | refine wkg ?_))
  refine G.nilRow 3 23 ?_
  refine G.loop (nmI l) (fun i => i ≤ l.length) (fun i => l.length - i) ?_ ?_
  · exact G.at 0 [(0, 0)] (Nat.zero_le _) (by repeat (first | exact trivial | refine ⟨⟨rfl, rfl⟩, ?_⟩)) (by repeat (first | exact trivial | refine ⟨⟨rfl, rfl, rfl⟩, ?_⟩ | refine ⟨⟨rfl, by rw [renL_d]; rfl, kbL_d _ _⟩, ?_⟩ | refine ⟨rfl, ?_⟩)) (by decide)
  · intro i hi
    dsimp only [nmI]
    by_cases h : i < l.length
    · have hr := rws_get l i h
      have hg : l[i]? = some l[i] := List.getElem?_eq_getElem h
      have hst := normS_step hg
      have hlen2 : (normS l i).length ≤ 900 := by
        have h1 := normL_len (l.take i)
        have h2 : (l.take i).length ≤ l.length := by simp; omega
        unfold normS
        omega
      have hx := hl.c _ (List.mem_of_getElem? hg)
      have hca : ∀ a, (normS l i).getLast? = some a → chkV a = 0 := fun a ha => by
        have hk : okl (l.take i) := ⟨fun y hy => hl.c y (List.mem_of_mem_take hy), hl.o.sublist (List.take_sublist _ _)⟩
        exact (normL_ok hk).1.c a (List.mem_of_getLast? ha)
      have hsum : ∀ k rs, (rws (stepN (normS l i) l[i])).length = k → rws (stepN (normS l i) l[i]) = rs → nmI l (i + 1) = ([(4, .d (.s (.int .i64 ((i + 1 : Nat) : Int)))), (0, .d (.l (rws l))), (3, .o 0 k)], [(0, some (23, rs.flatten.map .d))]) := fun k rs h1 h2 => by
        unfold nmI; rw [hst, h1, h2]
      generalize normS l i = out at *
      generalize l[i] = x at *
      have hol : (rws out).length = out.length := rws_len out
      by_cases h0 : out.length = 0
      · have hb : decide (0 < ((rws out).length : Int)) = false := by rw [decide_eq_false_iff_not]; omega
        rw [stepN_0 h0, rws_app] at hsum
        have hs2 := hsum ((rws out).length + 1) (rws out ++ [x.row]) (by rw [List.length_append]; rfl) rfl
        (repeat (first | (show G _ _ _ _ (WL _ _ _ _ (⟨some _, .indexAddr _ _ _, _, _, _, none⟩ :: _)); refine G.w1 ?_ (by first | exact LT.rd (Rd.ixv i (hr)) rfl | fail)) | (show G _ _ _ _ (WL _ _ _ _ (⟨some _, .indexAddr _ _ _, _, _, _, some _⟩ :: _)); refine G.gC ?_ (by first | (refine gi ?_; intros; exact LT.rd (Rd.ixv i (hr)) rfl) | fail) rfl rfl) | (show GD _ _ _ _ _ _ _ _ _ _ (⟨some _, .indexAddr _ _ _, _, _, _, none⟩ :: _); refine GD.w1 ?_ (by first | exact LT.rd (Rd.ixv i (hr)) rfl | fail)) | (show GD _ _ _ _ _ _ _ _ _ _ (⟨some _, .indexAddr _ _ _, _, _, _, some _⟩ :: _); refine GD.gC ?_ (by first | (refine gi ?_; intros; exact LT.rd (Rd.ixv i (hr)) rfl) | fail) rfl rfl) | ((repeat (revert hK; revert K)); refine wk ?_; repeat intro K hK) | refine wkg ?_))
        refine G.at (i + 1) [(0, 1)] ⟨by omega, by omega⟩ ?_ ?_ (by decide)
        · rw [hs2]; exact (by repeat (first | exact trivial | refine ⟨⟨rfl, rfl⟩, ?_⟩))
        · rw [hs2]; exact (by repeat (first | exact trivial | refine ⟨⟨rfl, rfl, rfl⟩, ?_⟩ | refine ⟨⟨rfl, by rw [renL_d]; rfl, kbL_d _ _⟩, ?_⟩ | refine ⟨rfl, ?_⟩))
      · have hb : decide (0 < ((rws out).length : Int)) = true := by rw [decide_eq_true_eq]; omega
        obtain ⟨a, ha⟩ : ∃ a, out.getLast? = some a := by
          cases hq : out.getLast? with
          | some a => exact ⟨a, rfl⟩
          | none => rw [List.getLast?_eq_none_iff] at hq; rw [hq] at h0; exact absurd rfl h0
        have hrow := rws_last ha
        have hj : out.length - 1 < (rws out).length := by omega
        have hi1 : ((rws out).length : Int) - 1 = ((out.length - 1 : Nat) : Int) := by omega
        have hac := hca a ha
        have hmg := rmrg_G a x
        have hme := rmerge_F a x
        have hmk := merge_ok hac hx
        cases hm : mrgV a x with
        | true =>
          rw [hm] at hmg
          rw [hm, if_pos rfl] at hmk
          rw [stepN_m ha (by rw [hmk]), hmk] at hsum
          have hs2 := hsum (rws out).length ((rws out).set (out.length - 1) (one2 a x).row) (by rw [← rws_set ha, List.length_set]) (rws_set ha).symm
          rw [hmk] at hme
          (repeat (first | refine G.cW (hmg) ?_ | refine G.cgW (hmg) ?_ | refine GD.cW (hmg) ?_ | refine GD.cgW (hmg) ?_ | refine G.cW (hme) ?_ | refine G.cgW (hme) ?_ | refine GD.cW (hme) ?_ | refine GD.cgW (hme) ?_ | (show G _ _ _ _ (WL _ _ _ _ (⟨some _, .indexAddr _ _ _, _, _, _, none⟩ :: _)); refine G.w1 ?_ (by first | exact LT.rd (Rd.ixv i (hr)) rfl | fail)) | (show G _ _ _ _ (WL _ _ _ _ (⟨some _, .indexAddr _ _ _, _, _, _, some _⟩ :: _)); refine G.gC ?_ (by first | (refine gi ?_; intros; exact LT.rd (Rd.ixv i (hr)) rfl) | fail) rfl rfl) | (show GD _ _ _ _ _ _ _ _ _ _ (⟨some _, .indexAddr _ _ _, _, _, _, none⟩ :: _); refine GD.w1 ?_ (by first | exact LT.rd (Rd.ixv i (hr)) rfl | fail)) | (show GD _ _ _ _ _ _ _ _ _ _ (⟨some _, .indexAddr _ _ _, _, _, _, some _⟩ :: _); refine GD.gC ?_ (by first | (refine gi ?_; intros; exact LT.rd (Rd.ixv i (hr)) rfl) | fail) rfl rfl) | (show G _ _ _ _ (WL _ _ _ _ (⟨some _, .indexAddr _ _ _, _, _, _, none⟩ :: _)); refine G.w1 ?_ (by first | exact LT.rd (Rd.ixov (out.length - 1) (hj)) rfl | fail)) | (show G _ _ _ _ (WL _ _ _ _ (⟨some _, .indexAddr _ _ _, _, _, _, some _⟩ :: _)); refine G.gC ?_ (by first | (refine gi ?_; intros; exact LT.rd (Rd.ixov (out.length - 1) (hj)) rfl) | fail) rfl rfl) | (show GD _ _ _ _ _ _ _ _ _ _ (⟨some _, .indexAddr _ _ _, _, _, _, none⟩ :: _); refine GD.w1 ?_ (by first | exact LT.rd (Rd.ixov (out.length - 1) (hj)) rfl | fail)) | (show GD _ _ _ _ _ _ _ _ _ _ (⟨some _, .indexAddr _ _ _, _, _, _, some _⟩ :: _); refine GD.gC ?_ (by first | (refine gi ?_; intros; exact LT.rd (Rd.ixov (out.length - 1) (hj)) rfl) | fail) rfl rfl) | (show G _ _ _ _ (WL _ _ _ _ (⟨some _, .load _ _, _, _, _, none⟩ :: _)); refine G.w1 ?_ (by first | exact LT.rd (Rd.ldR (out.length - 1) (hrow) (rws_row)) rfl | fail)) | (show G _ _ _ _ (WL _ _ _ _ (⟨some _, .load _ _, _, _, _, some _⟩ :: _)); refine G.gC ?_ (by first | (refine gi ?_; intros; exact LT.rd (Rd.ldR (out.length - 1) (hrow) (rws_row)) rfl) | fail) rfl rfl) | (show GD _ _ _ _ _ _ _ _ _ _ (⟨some _, .load _ _, _, _, _, none⟩ :: _); refine GD.w1 ?_ (by first | exact LT.rd (Rd.ldR (out.length - 1) (hrow) (rws_row)) rfl | fail)) | (show GD _ _ _ _ _ _ _ _ _ _ (⟨some _, .load _ _, _, _, _, some _⟩ :: _); refine GD.gC ?_ (by first | (refine gi ?_; intros; exact LT.rd (Rd.ldR (out.length - 1) (hrow) (rws_row)) rfl) | fail) rfl rfl) | (show G _ _ _ _ (WL _ _ _ _ (⟨none, .store _ _ _, _, _, _, none⟩ :: _)); refine G.w0 ?_ (by first | exact LT.stRv (out.length - 1) (rws_row) (hj) | fail)) | (show GD _ _ _ _ _ _ _ _ _ _ (⟨none, .store _ _ _, _, _, _, none⟩ :: _); refine GD.w0 ?_ (by first | exact LT.stRv (out.length - 1) (rws_row) (hj) | fail)) | ((repeat (revert hK; revert K)); refine wk ?_; repeat intro K hK) | refine wkg ?_))
          refine G.at (i + 1) [(0, 0)] ⟨by omega, by omega⟩ ?_ ?_ (by decide)
          · rw [hs2]; exact (by repeat (first | exact trivial | refine ⟨⟨rfl, rfl⟩, ?_⟩))
          · rw [hs2]; exact (by repeat (first | exact trivial | refine ⟨⟨rfl, rfl, rfl⟩, ?_⟩ | refine ⟨⟨rfl, by rw [renL_d]; rfl, kbL_d _ _⟩, ?_⟩ | refine ⟨rfl, ?_⟩))
        | false =>
          rw [hm] at hmg
          rw [hm, if_neg (by decide)] at hmk
          rw [stepN_n ha (by rw [hmk]; decide), rws_app] at hsum
          have hs2 := hsum ((rws out).length + 1) (rws out ++ [x.row]) (by rw [List.length_append]; rfl) rfl
          (repeat (first | refine G.cW (hmg) ?_ | refine G.cgW (hmg) ?_ | refine GD.cW (hmg) ?_ | refine GD.cgW (hmg) ?_ | (show G _ _ _ _ (WL _ _ _ _ (⟨some _, .indexAddr _ _ _, _, _, _, none⟩ :: _)); refine G.w1 ?_ (by first | exact LT.rd (Rd.ixv i (hr)) rfl | fail)) | (show G _ _ _ _ (WL _ _ _ _ (⟨some _, .indexAddr _ _ _, _, _, _, some _⟩ :: _)); refine G.gC ?_ (by first | (refine gi ?_; intros; exact LT.rd (Rd.ixv i (hr)) rfl) | fail) rfl rfl) | (show GD _ _ _ _ _ _ _ _ _ _ (⟨some _, .indexAddr _ _ _, _, _, _, none⟩ :: _); refine GD.w1 ?_ (by first | exact LT.rd (Rd.ixv i (hr)) rfl | fail)) | (show GD _ _ _ _ _ _ _ _ _ _ (⟨some _, .indexAddr _ _ _, _, _, _, some _⟩ :: _); refine GD.gC ?_ (by first | (refine gi ?_; intros; exact LT.rd (Rd.ixv i (hr)) rfl) | fail) rfl rfl) | (show G _ _ _ _ (WL _ _ _ _ (⟨some _, .indexAddr _ _ _, _, _, _, none⟩ :: _)); refine G.w1 ?_ (by first | exact LT.rd (Rd.ixov (out.length - 1) (hj)) rfl | fail)) | (show G _ _ _ _ (WL _ _ _ _ (⟨some _, .indexAddr _ _ _, _, _, _, some _⟩ :: _)); refine G.gC ?_ (by first | (refine gi ?_; intros; exact LT.rd (Rd.ixov (out.length - 1) (hj)) rfl) | fail) rfl rfl) | (show GD _ _ _ _ _ _ _ _ _ _ (⟨some _, .indexAddr _ _ _, _, _, _, none⟩ :: _); refine GD.w1 ?_ (by first | exact LT.rd (Rd.ixov (out.length - 1) (hj)) rfl | fail)) | (show GD _ _ _ _ _ _ _ _ _ _ (⟨some _, .indexAddr _ _ _, _, _, _, some _⟩ :: _); refine GD.gC ?_ (by first | (refine gi ?_; intros; exact LT.rd (Rd.ixov (out.length - 1) (hj)) rfl) | fail) rfl rfl) | (show G _ _ _ _ (WL _ _ _ _ (⟨some _, .load _ _, _, _, _, none⟩ :: _)); refine G.w1 ?_ (by first | exact LT.rd (Rd.ldR (out.length - 1) (hrow) (rws_row)) rfl | fail)) | (show G _ _ _ _ (WL _ _ _ _ (⟨some _, .load _ _, _, _, _, some _⟩ :: _)); refine G.gC ?_ (by first | (refine gi ?_; intros; exact LT.rd (Rd.ldR (out.length - 1) (hrow) (rws_row)) rfl) | fail) rfl rfl) | (show GD _ _ _ _ _ _ _ _ _ _ (⟨some _, .load _ _, _, _, _, none⟩ :: _); refine GD.w1 ?_ (by first | exact LT.rd (Rd.ldR (out.length - 1) (hrow) (rws_row)) rfl | fail)) | (show GD _ _ _ _ _ _ _ _ _ _ (⟨some _, .load _ _, _, _, _, some _⟩ :: _); refine GD.gC ?_ (by first | (refine gi ?_; intros; exact LT.rd (Rd.ldR (out.length - 1) (hrow) (rws_row)) rfl) | fail) rfl rfl) | ((repeat (revert hK; revert K)); refine wk ?_; repeat intro K hK) | refine wkg ?_))
          refine G.at (i + 1) [(0, 1)] ⟨by omega, by omega⟩ ?_ ?_ (by decide)
          · rw [hs2]; exact (by repeat (first | exact trivial | refine ⟨⟨rfl, rfl⟩, ?_⟩))
          · rw [hs2]; exact (by repeat (first | exact trivial | refine ⟨⟨rfl, rfl, rfl⟩, ?_⟩ | refine ⟨⟨rfl, by rw [renL_d]; rfl, kbL_d _ _⟩, ?_⟩ | refine ⟨rfl, ?_⟩))
    · have e : i = l.length := by omega
      subst e
      have e2 : normS l l.length = normL l := by simp [normS]
      rw [e2]
      (repeat (first | ((repeat (revert hK; revert K)); refine wk ?_; repeat intro K hK) | refine wkg ?_))
      refine G.frz (T := 23) (m := 6) (b := 0) (k := (rws (normL l)).length) (rows := rws (normL l)) 2 ?_ rws_row rfl
      refine G.fin1 (by first | exact rvOk.tmp | exact rvOk.cellS | exact rvOk.cell1 | fail) rfl ?_
      rfl

end Go.Proofs.Ytjdpignfdncebaa

set_option linter.unusedSimpArgs false
set_option linter.unusedVariables false
namespace Go.Proofs.Ytjdpignfdncebaa
open Go.RowKit

/-- append of a list of regions to a row of one's own. -/
theorem LT.apR {P : Program} {X : Cx} {al : List (Nat × AV)} {bs : Bs} {t e bytes n b k d : Nat} {x y : Operand} {rows0 : List (List D)} (l : List RV) (h63 : ∀ m, rows0.length = m → m + l.length ≤ 100000) [hT : TAp P t e 6 bytes] (hx : ev al x = some (.o b n) := by rfl) (hy : ev al y = some (.d (.l (rws l))) := by rfl) (hb : lk bs b = some (some (e, rows0.flatten.map .d)) := by rfl) (hn : rows0.length = n := by rfl) (hby : Nat.ble bytes 1000000 = true := by rfl) (hk : bs.length = k := by simp only [List.length_cons, List.length_nil, Nat.reduceAdd]; rfl) (hf : lk bs k = none := by rfl) (hd : Nat.blt d X.N = true := by rfl) :
    LT P X al bs (.call { callee := .builtin .append, args := #[x, y], argTypes := #[t, t] }) (some d) [b, k] [(d, .o k (n + (rws l).length))] [(k, some (e, (rows0 ++ rws l).flatten.map .d)), (b, none)] :=
  LT.ap rws_row (rws_flat_cell l) (by rw [rws_len]; exact h63 n hn) hby hk hf hx hy hb hd
theorem rtree_P {l : List RV} (h : okl l) : Fn Try.prog 53 [.l (rws l)] (· = resD (resT l)) := rtree_N h (rnormal_F h)

attribute [local irreducible] Wp WL WO fin finB rnd Exit.then Exit.inBlock G GD LT Rd Fn FnB FvB Iter
attribute [local go_sem] RV.row TD.row
def ruI (p : PT) (g c : Int) (i : Nat) : List (Nat × AV) × Bs := ([(12, .d (.s (.int .i64 (i : Int)))), (10, .d (.l (rws p.flat))), (11, .o 0 (rws (cutA g c (p.flat.take i))).length), (1, .d (.s (.int .i64 g))), (2, .d (.s (.int .i64 c))), (6, .p 1 0)], [(0, some (23, (rws (cutA g c (p.flat.take i))).flatten.map .d)), (1, some (26, zDs.map .d))])
theorem cat_len (f : RV → List RV) (hf : ∀ x, (f x).length ≤ 2) : ∀ l : List RV, (cat f l).length ≤ 2 * l.length
  | [] => Nat.zero_le _
  | x :: l => by
    have := hf x
    have := cat_len f hf l
    show (f x ++ cat f l).length ≤ _
    simp only [List.length_append, List.length_cons]
    omega
theorem runmap_P {p : PT} (hp : ASP p) (g c : Int) : Fn Try.prog 21 [.st p.td.row, .s (.int .i64 g), .s (.int .i64 c)] (· = resD (unmapT p g c)) := by
  have hc := bcheck_P hp
  have hw := within_F g c
  have hl := rl_P hp
  have h12 := hp.n
  have hlen : ((rws p.flat).length : Int) = p.flat.length := by rw [rws_len]
  by_cases h0 : rngV g c = 0
  · have hb : (rngV g c != 0) = false := by simp [h0]
    have hk : okl (cutA g c p.flat) := okl_cat hp.l (fun x hx => cut_part (hp.l.c x hx) h0)
    have htr := rtree_P hk
    unfold resD at htr
    rw [show unmapT p g c = resT (cutA g c p.flat) by unfold unmapT; rw [if_pos h0]]
    refine Fn.of Try.func21 Try.ntmps21 rfl (by kernel_rfl) (fun w o => ?_)
    (repeat (first | refine G.cW (hc) ?_ | refine G.cgW (hc) ?_ | refine GD.cW (hc) ?_ | refine GD.cgW (hc) ?_ | refine G.cW (hw) ?_ | refine G.cgW (hw) ?_ | refine GD.cW (hw) ?_ | refine GD.cgW (hw) ?_ | refine G.cW (hl) ?_ | refine G.cgW (hl) ?_ | refine GD.cW (hl) ?_ | refine GD.cgW (hl) ?_ | ((repeat (revert hK; revert K)); refine wk ?_; repeat intro K hK) | refine wkg ?_))
    refine G.nilRow 11 23 ?_
    refine G.loop (ruI p g c) (fun i => i ≤ p.flat.length) (fun i => p.flat.length - i) ?_ ?_
    · exact G.at 0 [(0, 2), (1, 1)] (Nat.zero_le _) (by repeat (first | exact trivial | refine ⟨⟨rfl, rfl⟩, ?_⟩)) (by repeat (first | exact trivial | refine ⟨⟨rfl, rfl, rfl⟩, ?_⟩ | refine ⟨⟨rfl, by rw [renL_d]; rfl, kbL_d _ _⟩, ?_⟩ | refine ⟨rfl, ?_⟩)) (by decide)
    · intro i hi
      dsimp only [ruI]
      by_cases h : i < p.flat.length
      · have hr := rws_get p.flat i h
        have hcu := rcut_F p.flat[i] g c
        have hs : cutA g c (p.flat.take (i + 1)) = cutA g c (p.flat.take i) ++ (cutV p.flat[i] g c).1 := by
          unfold cutA cat
          rw [take_snoc (List.getElem?_eq_getElem h), List.flatMap_append]
          simp
        have hcl := cat_len (fun r => (cutV r g c).1) (fun x => cut_le x g c) (p.flat.take i)
        have htl : (p.flat.take i).length ≤ 12 := by simp; omega
        have hle : (cutA g c (p.flat.take i)).length ≤ 24 := by
          have : (cutA g c (p.flat.take i)).length ≤ 2 * (p.flat.take i).length := hcl
          omega
        have h2 := cut_le p.flat[i] g c
        have h63 : ∀ m, (rws (cutA g c (p.flat.take i))).length = m → m + (cutV p.flat[i] g c).1.length ≤ 100000 := fun m hm => by rw [rws_len] at hm; omega
        have hs2 : ruI p g c (i + 1) = ([(12, .d (.s (.int .i64 ((i + 1 : Nat) : Int)))), (10, .d (.l (rws p.flat))), (11, .o 0 ((rws (cutA g c (p.flat.take i))).length + (rws (cutV p.flat[i] g c).1).length)), (1, .d (.s (.int .i64 g))), (2, .d (.s (.int .i64 c))), (6, .p 1 0)], [(0, some (23, (rws (cutA g c (p.flat.take i)) ++ rws (cutV p.flat[i] g c).1).flatten.map .d)), (1, some (26, zDs.map .d))]) := by
          unfold ruI; rw [hs, rws_app, List.length_append]
        (repeat (first | refine G.cW (hcu) ?_ | refine G.cgW (hcu) ?_ | refine GD.cW (hcu) ?_ | refine GD.cgW (hcu) ?_ | (show G _ _ _ _ (WL _ _ _ _ (⟨some _, .indexAddr _ _ _, _, _, _, none⟩ :: _)); refine G.w1 ?_ (by first | exact LT.rd (Rd.ixv i (hr)) rfl | fail)) | (show G _ _ _ _ (WL _ _ _ _ (⟨some _, .indexAddr _ _ _, _, _, _, some _⟩ :: _)); refine G.gC ?_ (by first | (refine gi ?_; intros; exact LT.rd (Rd.ixv i (hr)) rfl) | fail) rfl rfl) | (show GD _ _ _ _ _ _ _ _ _ _ (⟨some _, .indexAddr _ _ _, _, _, _, none⟩ :: _); refine GD.w1 ?_ (by first | exact LT.rd (Rd.ixv i (hr)) rfl | fail)) | (show GD _ _ _ _ _ _ _ _ _ _ (⟨some _, .indexAddr _ _ _, _, _, _, some _⟩ :: _); refine GD.gC ?_ (by first | (refine gi ?_; intros; exact LT.rd (Rd.ixv i (hr)) rfl) | fail) rfl rfl) | (show G _ _ _ _ (WL _ _ _ _ (⟨some _, .call _, _, _, _, none⟩ :: _)); refine G.w3 ?_ (by first | exact LT.apR _ (h63) | fail)) | ((repeat (revert hK; revert K)); refine wk ?_; repeat intro K hK) | refine wkg ?_))
        refine G.at (i + 1) [(0, 2), (1, 1)] ⟨by omega, by omega⟩ ?_ ?_ (by decide)
        · rw [hs2]; exact (by repeat (first | exact trivial | refine ⟨⟨rfl, rfl⟩, ?_⟩))
        · rw [hs2]; exact (by repeat (first | exact trivial | refine ⟨⟨rfl, rfl, rfl⟩, ?_⟩ | refine ⟨⟨rfl, by rw [renL_d]; rfl, kbL_d _ _⟩, ?_⟩ | refine ⟨rfl, ?_⟩))
      · have e : i = p.flat.length := by omega
        subst e
        rw [List.take_length]
        (repeat (first | ((repeat (revert hK; revert K)); refine wk ?_; repeat intro K hK) | refine wkg ?_))
        refine G.frz (T := 23) (m := 6) (b := 0) (k := (rws (cutA g c p.flat)).length) (rows := rws (cutA g c p.flat)) 49 ?_ rws_row rfl
        (repeat (first | refine G.cW (htr) ?_ | refine G.cgW (htr) ?_ | refine GD.cW (htr) ?_ | refine GD.cgW (htr) ?_ | ((repeat (revert hK; revert K)); refine wk ?_; repeat intro K hK) | refine wkg ?_))
        refine G.fin2 (by first | exact rvOk.tmp | exact rvOk.cellS | exact rvOk.cell1 | fail) (by first | exact rvOk.tmp | exact rvOk.cellS | exact rvOk.cell1 | fail) rfl ?_
        rfl
  · have hb : (rngV g c != 0) = true := by simp [h0]
    rw [show unmapT p g c = (.E, rngV g c) by unfold unmapT; rw [if_neg h0]]
    refine Fn.of Try.func21 Try.ntmps21 rfl (by kernel_rfl) (fun w o => ?_)
    (repeat (first | refine G.cW (hc) ?_ | refine G.cgW (hc) ?_ | refine GD.cW (hc) ?_ | refine GD.cgW (hc) ?_ | refine G.cW (hw) ?_ | refine G.cgW (hw) ?_ | refine GD.cW (hw) ?_ | refine GD.cgW (hw) ?_ | ((repeat (revert hK; revert K)); refine wk ?_; repeat intro K hK) | refine wkg ?_))
    refine G.leB 1 PT.E.td.row le_EL ?_
    refine G.fin2 (by first | exact rvOk.tmp | exact rvOk.cellS | exact rvOk.cell1 | fail) (by first | exact rvOk.tmp | exact rvOk.cellS | exact rvOk.cell1 | fail) rfl ?_
    rfl

end Go.Proofs.Ytjdpignfdncebaa
