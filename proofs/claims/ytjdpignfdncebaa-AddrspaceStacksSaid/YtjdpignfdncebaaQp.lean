/- Address spaces, the reference's side: Map. -/
/- Address spaces, the reference's side: Map. -/
/- Address spaces, the reference's side: covered. -/
/- Trees of regions, the reference's side: Same of a tree and itself. -/
import Derived.Test.YtjdpignfdncebaaQo
set_option linter.unusedSimpArgs false
set_option linter.unusedVariables false
namespace Go.Proofs.Ytjdpignfdncebaa
open Go.RowKit

def rmS (r : RV) (z : List RV × Bool) (x : RV) : List RV × Bool := if (!z.2 && decide (r.s < x.s)) = true then (z.1 ++ [r] ++ [x], true) else (z.1 ++ [x], z.2)
def rmT (l : List RV) (r : RV) (i : Nat) : List RV × Bool := (l.take i).foldl (rmS r) ([], false)
theorem rmT_step {l : List RV} {r : RV} {i : Nat} {x : RV} (h : l[i]? = some x) : rmT l r (i + 1) = rmS r (rmT l r i) x := by
  simp only [rmT]
  rw [take_snoc h, List.foldl_append]
  rfl
theorem rmS_len (r : RV) (z : List RV × Bool) (x : RV) : (rmS r z x).1.length ≤ z.1.length + 2 := by
  unfold rmS; split <;> simp
theorem rmT_len (l : List RV) (r : RV) : ∀ i, (rmT l r i).1.length ≤ 2 * i
  | 0 => by simp [rmT]
  | i + 1 => by
    have ih := rmT_len l r i
    cases h : l[i]? with
    | some x => rw [rmT_step h]; have := rmS_len r (rmT l r i) x; omega
    | none =>
      have : l.take (i + 1) = l.take i := by
        have := List.getElem?_eq_none_iff.1 h
        rw [List.take_of_length_le (by omega), List.take_of_length_le this]
      unfold rmT at ih ⊢
      rw [this]; omega
theorem rm_true (r : RV) : ∀ (l o : List RV), l.foldl (rmS r) (o, true) = (o ++ l, true)
  | [], o => by simp
  | x :: l, o => by
    rw [List.foldl_cons, show rmS r (o, true) x = (o ++ [x], true) from rfl, rm_true r l]
    simp
theorem rm_false (r : RV) : ∀ (l o : List RV), (bif (l.foldl (rmS r) (o, false)).2 then (l.foldl (rmS r) (o, false)).1 else (l.foldl (rmS r) (o, false)).1 ++ [r]) = o ++ insL l r
  | [], o => rfl
  | x :: l, o => by
    rw [List.foldl_cons]
    by_cases h : r.s < x.s
    · rw [show rmS r (o, false) x = (o ++ [r] ++ [x], true) by simp [rmS, h], rm_true, insL, if_pos h]
      simp
    · rw [show rmS r (o, false) x = (o ++ [x], false) by simp [rmS, h], rm_false r l, insL, if_neg h]
      simp
theorem insL_at {r : RV} : ∀ (A B : List RV), (∀ a ∈ A, ¬ r.s < a.s) → (∀ b ∈ B, r.s < b.s) → insL (A ++ B) r = A ++ r :: B
  | [], [], _, _ => rfl
  | [], b :: B, _, h => by show insL (b :: B) r = _; rw [insL, if_pos (h b (by simp))]; rfl
  | a :: A, B, h, h2 => by
    show insL (a :: (A ++ B)) r = _
    rw [insL, if_neg (h a (by simp)), insL_at A B (fun y hy => h y (by simp [hy])) h2]
    rfl
theorem insL_insAt {l : List RV} {r : RV} (h : okl l) (hr : chkV r = 0) (hno : ∀ x ∈ l, ovlV x r = false) : insL l r = insAt l (atI l r.s l.length) r := by
  have hk := insAt_ok h hr hno
  unfold insAt at hk ⊢
  obtain ⟨k1, k2, k3⟩ := okl.app1 (l := l.take (atI l r.s l.length)) (m := r :: l.drop (atI l r.s l.length)) hk
  obtain ⟨_, _, k4⟩ := okl.app1 (l := [r]) (m := l.drop (atI l r.s l.length)) k2
  have br := chkV_bd hr
  conv => lhs; rw [← List.take_append_drop (atI l r.s l.length) l]
  refine insL_at _ _ (fun a ha => ?_) (fun b hb => ?_)
  · have := k3 a ha r (by simp)
    have := chkV_bd (k1.c a ha)
    unfold apart RV.e at *
    omega
  · have := k4 r (by simp) b hb
    unfold apart RV.e at this
    omega

attribute [local irreducible] Wp WL WO fin finB rnd Exit.then Exit.inBlock G GD LT Rd Fn FnB FvB Iter
attribute [local go_sem] RV.row TD.row
theorem rmap_bad {p : PT} (hp : ASP p) (r : RV) (hr : ¬ chkV r = 0) : Fn Try.prog 16 [.st p.td.row, .st r.row] (· = resD (.E, chkV r)) := by
  have hc := bcheck_P hp
  have hb : (chkV r != 0) = true := by simp [hr]
  refine Fn.of Try.func16 Try.ntmps16 rfl (by kernel_rfl) (fun w o => ?_)
  (repeat (first | refine G.cW (hc) ?_ | refine G.cgW (hc) ?_ | refine GD.cW (hc) ?_ | refine GD.cgW (hc) ?_ | refine G.cW (rchk_F _) ?_ | refine G.cgW (rchk_F _) ?_ | refine GD.cW (rchk_F _) ?_ | refine GD.cgW (rchk_F _) ?_ | ((repeat (revert hK; revert K)); refine wk ?_; repeat intro K hK) | refine wkg ?_))
  refine G.leB 2 PT.E.td.row le_EL ?_
  refine G.fin2 (by first | exact rvOk.tmp | exact rvOk.cellS | exact rvOk.cell1 | fail) (by first | exact rvOk.tmp | exact rvOk.cellS | exact rvOk.cell1 | fail) rfl ?_
  rfl
theorem rmap_E {t : TD} {e : Int} (he : e ≠ 0) (hc : Fn Try.prog 27 [.st t.row] (· = .s (.int .i64 e))) (r : RV) : Fn Try.prog 16 [.st t.row, .st r.row] (· = resD (.E, e)) := by
  have hb : (e != 0) = true := by simpa using he
  refine Fn.of Try.func16 Try.ntmps16 rfl (by kernel_rfl) (fun w o => ?_)
  (repeat (first | refine G.cW (hc) ?_ | refine G.cgW (hc) ?_ | refine GD.cW (hc) ?_ | refine GD.cgW (hc) ?_ | ((repeat (revert hK; revert K)); refine wk ?_; repeat intro K hK) | refine wkg ?_))
  refine G.leB 2 PT.E.td.row le_EL ?_
  refine G.fin2 (by first | exact rvOk.tmp | exact rvOk.cellS | exact rvOk.cell1 | fail) (by first | exact rvOk.tmp | exact rvOk.cellS | exact rvOk.cell1 | fail) rfl ?_
  rfl
theorem runmap_E {t : TD} {e : Int} (he : e ≠ 0) (hc : Fn Try.prog 27 [.st t.row] (· = .s (.int .i64 e))) (g c : Int) : Fn Try.prog 21 [.st t.row, .s (.int .i64 g), .s (.int .i64 c)] (· = resD (.E, e)) := by
  have hb : (e != 0) = true := by simpa using he
  refine Fn.of Try.func21 Try.ntmps21 rfl (by kernel_rfl) (fun w o => ?_)
  (repeat (first | refine G.cW (hc) ?_ | refine G.cgW (hc) ?_ | refine GD.cW (hc) ?_ | refine GD.cgW (hc) ?_ | ((repeat (revert hK; revert K)); refine wk ?_; repeat intro K hK) | refine wkg ?_))
  refine G.leB 1 PT.E.td.row le_EL ?_
  refine G.fin2 (by first | exact rvOk.tmp | exact rvOk.cellS | exact rvOk.cell1 | fail) (by first | exact rvOk.tmp | exact rvOk.cellS | exact rvOk.cell1 | fail) rfl ?_
  rfl

end Go.Proofs.Ytjdpignfdncebaa

set_option linter.unusedSimpArgs false
set_option linter.unusedVariables false
namespace Go.Proofs.Ytjdpignfdncebaa
open Go.RowKit

attribute [local irreducible] Wp WL WO fin finB rnd Exit.then Exit.inBlock G GD LT Rd Fn FnB FvB Iter
attribute [local go_sem] RV.row TD.row
def rmI (l : List RV) (r : RV) (i : Nat) : List (Nat × AV) × Bs := ([(11, .d (.s (.int .i64 (i : Int)))), (8, .d (.l (rws l))), (9, .o 0 (rws (rmT l r i).1).length), (10, .d (.s (.bool (rmT l r i).2))), (3, .p 1 0), (4, .p 2 0)], [(0, some (23, (rws (rmT l r i).1).flatten.map .d)), (1, some (23, r.row.map .d)), (2, some (26, zDs.map .d))])
set_option maxHeartbeats 1000000 in
theorem rmap_P {p : PT} (hp : ASP p) (r : RV) (hr : chkV r = 0) : Fn Try.prog 16 [.st p.td.row, .st r.row] (· = resD (mapT p r)) := by
  have hc := bcheck_P hp
  have hck := rchk_F r
  rw [hr] at hck
  have hl := rl_P hp
  have h12 := hp.n
  have hlen : ((rws p.flat).length : Int) = p.flat.length := by rw [rws_len]
  refine Fn.of Try.func16 Try.ntmps16 rfl (by kernel_rfl) (fun w o => ?_)
  (repeat (first | refine G.cW (hc) ?_ | refine G.cgW (hc) ?_ | refine GD.cW (hc) ?_ | refine GD.cgW (hc) ?_ | refine G.cW (hck) ?_ | refine G.cgW (hck) ?_ | refine GD.cW (hck) ?_ | refine GD.cgW (hck) ?_ | refine G.cW (hl) ?_ | refine G.cgW (hl) ?_ | refine GD.cW (hl) ?_ | refine GD.cgW (hl) ?_ | ((repeat (revert hK; revert K)); refine wk ?_; repeat intro K hK) | refine wkg ?_))
  refine G.nilRow 9 23 ?_
  refine G.loop (rmI p.flat r) (fun i => i ≤ p.flat.length ∧ ∀ j x, j < i → p.flat[j]? = some x → ovlV x r = false) (fun i => p.flat.length - i) ?_ ?_
  · exact G.at 0 [(0, 3), (1, 1), (2, 2)] ⟨Nat.zero_le _, fun j x h => absurd h (Nat.not_lt_zero _)⟩ (by repeat (first | exact trivial | refine ⟨⟨rfl, rfl⟩, ?_⟩)) (by repeat (first | exact trivial | refine ⟨⟨rfl, rfl, rfl⟩, ?_⟩ | refine ⟨⟨rfl, by rw [renL_d]; rfl, kbL_d _ _⟩, ?_⟩ | refine ⟨rfl, ?_⟩)) (by decide)
  · rintro i ⟨hi, hno⟩
    dsimp only [rmI]
    by_cases h : i < p.flat.length
    · have hrw := rws_get p.flat i h
      have hg : p.flat[i]? = some p.flat[i] := List.getElem?_eq_getElem h
      have hov := rovl_F p.flat[i] r
      have hst := rmT_step (r := r) hg
      have hln := rmT_len p.flat r i
      have hsum : ∀ k rs d, (rws (rmS r (rmT p.flat r i) p.flat[i]).1).length = k → rws (rmS r (rmT p.flat r i) p.flat[i]).1 = rs → (rmS r (rmT p.flat r i) p.flat[i]).2 = d → rmI p.flat r (i + 1) = ([(11, .d (.s (.int .i64 ((i + 1 : Nat) : Int)))), (8, .d (.l (rws p.flat))), (9, .o 0 k), (10, .d (.s (.bool d))), (3, .p 1 0), (4, .p 2 0)], [(0, some (23, rs.flatten.map .d)), (1, some (23, r.row.map .d)), (2, some (26, zDs.map .d))]) := fun k rs d h1 h2 h3 => by
        unfold rmI; rw [hst, h1, h2, h3]
      cases ho : ovlV p.flat[i] r with
      | true =>
        rw [ho] at hov
        have ha : p.flat.any (fun x => ovlV x r) = true := List.any_eq_true.2 ⟨_, List.mem_of_getElem? hg, ho⟩
        (repeat (first | refine G.cW (hov) ?_ | refine G.cgW (hov) ?_ | refine GD.cW (hov) ?_ | refine GD.cgW (hov) ?_ | (show G _ _ _ _ (WL _ _ _ _ (⟨some _, .indexAddr _ _ _, _, _, _, none⟩ :: _)); refine G.w1 ?_ (by first | exact LT.rd (Rd.ixv i (hrw)) rfl | fail)) | (show G _ _ _ _ (WL _ _ _ _ (⟨some _, .indexAddr _ _ _, _, _, _, some _⟩ :: _)); refine G.gC ?_ (by first | (refine gi ?_; intros; exact LT.rd (Rd.ixv i (hrw)) rfl) | fail) rfl rfl) | (show GD _ _ _ _ _ _ _ _ _ _ (⟨some _, .indexAddr _ _ _, _, _, _, none⟩ :: _); refine GD.w1 ?_ (by first | exact LT.rd (Rd.ixv i (hrw)) rfl | fail)) | (show GD _ _ _ _ _ _ _ _ _ _ (⟨some _, .indexAddr _ _ _, _, _, _, some _⟩ :: _); refine GD.gC ?_ (by first | (refine gi ?_; intros; exact LT.rd (Rd.ixv i (hrw)) rfl) | fail) rfl rfl) | ((repeat (revert hK; revert K)); refine wk ?_; repeat intro K hK) | refine wkg ?_))
        refine G.leB 2 PT.E.td.row le_EL ?_
        refine G.fin2 (by first | exact rvOk.tmp | exact rvOk.cellS | exact rvOk.cell1 | fail) (by first | exact rvOk.tmp | exact rvOk.cellS | exact rvOk.cell1 | fail) rfl ?_
        rw [show mapT p r = (.E, 7) by unfold mapT; rw [if_pos hr, if_pos ha]]
        rfl
      | false =>
        rw [ho] at hov
        have hno' : ∀ j x, j < i + 1 → p.flat[j]? = some x → ovlV x r = false := fun j x hj hx => by
          by_cases e : j = i
          · subst e; rw [hg] at hx; cases hx; exact ho
          · exact hno j x (by omega) hx
        generalize rmT p.flat r i = z at *
        obtain ⟨out, d⟩ := z
        dsimp only at *
        have hol : (rws out).length = out.length := rws_len out
        generalize p.flat[i] = x at *
        by_cases hs : (!d && decide (r.s < x.s)) = true
        · have e : rmS r (out, d) x = (out ++ [r] ++ [x], true) := by unfold rmS; rw [if_pos hs]
          rw [e] at hsum
          have hs2 := hsum ((rws out).length + 1 + 1) (rws out ++ [r.row] ++ [x.row]) true (by simp [rws]) (by simp [rws]) rfl
          (repeat (first | refine G.cW (hov) ?_ | refine G.cgW (hov) ?_ | refine GD.cW (hov) ?_ | refine GD.cgW (hov) ?_ | (show G _ _ _ _ (WL _ _ _ _ (⟨some _, .indexAddr _ _ _, _, _, _, none⟩ :: _)); refine G.w1 ?_ (by first | exact LT.rd (Rd.ixv i (hrw)) rfl | fail)) | (show G _ _ _ _ (WL _ _ _ _ (⟨some _, .indexAddr _ _ _, _, _, _, some _⟩ :: _)); refine G.gC ?_ (by first | (refine gi ?_; intros; exact LT.rd (Rd.ixv i (hrw)) rfl) | fail) rfl rfl) | (show GD _ _ _ _ _ _ _ _ _ _ (⟨some _, .indexAddr _ _ _, _, _, _, none⟩ :: _); refine GD.w1 ?_ (by first | exact LT.rd (Rd.ixv i (hrw)) rfl | fail)) | (show GD _ _ _ _ _ _ _ _ _ _ (⟨some _, .indexAddr _ _ _, _, _, _, some _⟩ :: _); refine GD.gC ?_ (by first | (refine gi ?_; intros; exact LT.rd (Rd.ixv i (hrw)) rfl) | fail) rfl rfl) | ((repeat (revert hK; revert K)); refine wk ?_; repeat intro K hK) | refine wkg ?_))
          refine G.at (i + 1) [(0, 5), (1, 1), (2, 2)] ⟨⟨h, hno'⟩, by omega⟩ ?_ ?_ (by decide)
          · rw [hs2]; exact (by repeat (first | exact trivial | refine ⟨⟨rfl, rfl⟩, ?_⟩))
          · rw [hs2]; exact (by repeat (first | exact trivial | refine ⟨⟨rfl, rfl, rfl⟩, ?_⟩ | refine ⟨⟨rfl, by rw [renL_d]; rfl, kbL_d _ _⟩, ?_⟩ | refine ⟨rfl, ?_⟩))
        · have hs0 : (!d && decide (r.s < x.s)) = false := by simpa using hs
          have e : rmS r (out, d) x = (out ++ [x], d) := by unfold rmS; rw [if_neg hs]
          rw [e] at hsum
          have hs2 := hsum ((rws out).length + 1) (rws out ++ [x.row]) d (by simp [rws]) (by simp [rws]) rfl
          (repeat (first | refine G.cW (hov) ?_ | refine G.cgW (hov) ?_ | refine GD.cW (hov) ?_ | refine GD.cgW (hov) ?_ | (show G _ _ _ _ (WL _ _ _ _ (⟨some _, .indexAddr _ _ _, _, _, _, none⟩ :: _)); refine G.w1 ?_ (by first | exact LT.rd (Rd.ixv i (hrw)) rfl | fail)) | (show G _ _ _ _ (WL _ _ _ _ (⟨some _, .indexAddr _ _ _, _, _, _, some _⟩ :: _)); refine G.gC ?_ (by first | (refine gi ?_; intros; exact LT.rd (Rd.ixv i (hrw)) rfl) | fail) rfl rfl) | (show GD _ _ _ _ _ _ _ _ _ _ (⟨some _, .indexAddr _ _ _, _, _, _, none⟩ :: _); refine GD.w1 ?_ (by first | exact LT.rd (Rd.ixv i (hrw)) rfl | fail)) | (show GD _ _ _ _ _ _ _ _ _ _ (⟨some _, .indexAddr _ _ _, _, _, _, some _⟩ :: _); refine GD.gC ?_ (by first | (refine gi ?_; intros; exact LT.rd (Rd.ixv i (hrw)) rfl) | fail) rfl rfl) | ((repeat (revert hK; revert K)); refine wk ?_; repeat intro K hK) | refine wkg ?_))
          refine G.at (i + 1) [(0, 3), (1, 1), (2, 2)] ⟨⟨h, hno'⟩, by omega⟩ ?_ ?_ (by decide)
          · rw [hs2]; exact (by repeat (first | exact trivial | refine ⟨⟨rfl, rfl⟩, ?_⟩))
          · rw [hs2]; exact (by repeat (first | exact trivial | refine ⟨⟨rfl, rfl, rfl⟩, ?_⟩ | refine ⟨⟨rfl, by rw [renL_d]; rfl, kbL_d _ _⟩, ?_⟩ | refine ⟨rfl, ?_⟩))
    · have e : i = p.flat.length := by omega
      subst e
      have hno2 : ∀ x ∈ p.flat, ovlV x r = false := fun x hx => by
        obtain ⟨j, hj⟩ := List.mem_iff_getElem?.1 hx
        exact hno j x (List.getElem?_eq_some_iff.1 hj).1 hj
      have ha : ¬ p.flat.any (fun x => ovlV x r) = true := by
        rw [List.any_eq_true]
        rintro ⟨x, hx, hx2⟩
        rw [hno2 x hx] at hx2
        cases hx2
      have hok := insAt_ok hp.l hr hno2
      have hmt : mapT p r = resT (insAt p.flat (atI p.flat r.s p.flat.length) r) := by unfold mapT; rw [if_pos hr, if_neg ha]
      have hfin := rm_false r p.flat []
      rw [List.nil_append, insL_insAt hp.l hr hno2] at hfin
      have hrt : rmT p.flat r p.flat.length = p.flat.foldl (rmS r) ([], false) := by unfold rmT; rw [List.take_length]
      rw [← hrt] at hfin
      have hln := rmT_len p.flat r p.flat.length
      generalize rmT p.flat r p.flat.length = z at *
      obtain ⟨out, d⟩ := z
      dsimp only at *
      have hol : (rws out).length = out.length := rws_len out
      have htr := rtree_P hok
      unfold resD at htr
      cases d with
      | true =>
        simp only [cond_true] at hfin
        subst hfin
        (repeat (first | ((repeat (revert hK; revert K)); refine wk ?_; repeat intro K hK) | refine wkg ?_))
        refine G.frz (T := 23) (m := 6) (b := 0) (k := (rws _).length) (rows := rws _) 68 ?_ rws_row rfl
        (repeat (first | refine G.cW (htr) ?_ | refine G.cgW (htr) ?_ | refine GD.cW (htr) ?_ | refine GD.cgW (htr) ?_ | ((repeat (revert hK; revert K)); refine wk ?_; repeat intro K hK) | refine wkg ?_))
        refine G.fin2 (by first | exact rvOk.tmp | exact rvOk.cellS | exact rvOk.cell1 | fail) (by first | exact rvOk.tmp | exact rvOk.cellS | exact rvOk.cell1 | fail) rfl ?_
        rw [hmt]
        rfl
      | false =>
        simp only [cond_false] at hfin
        (repeat (first | ((repeat (revert hK; revert K)); refine wk ?_; repeat intro K hK) | refine wkg ?_))
        refine G.frz (T := 23) (m := 6) (b := 3) (k := (rws out).length + 1) (rows := rws out ++ [r.row]) 68 ?_ (by rw [show [r.row] = rws [r] from rfl, ← rws_app]; exact rws_row) (by simp)
        rw [show rws out ++ [r.row] = rws (out ++ [r]) by simp [rws], hfin]
        (repeat (first | refine G.cW (htr) ?_ | refine G.cgW (htr) ?_ | refine GD.cW (htr) ?_ | refine GD.cgW (htr) ?_ | ((repeat (revert hK; revert K)); refine wk ?_; repeat intro K hK) | refine wkg ?_))
        refine G.fin2 (by first | exact rvOk.tmp | exact rvOk.cellS | exact rvOk.cell1 | fail) (by first | exact rvOk.tmp | exact rvOk.cellS | exact rvOk.cell1 | fail) rfl ?_
        rw [hmt]
        rfl

end Go.Proofs.Ytjdpignfdncebaa

set_option linter.unusedSimpArgs false
set_option linter.unusedVariables false
namespace Go.Proofs.Ytjdpignfdncebaa
open Go.RowKit

attribute [local irreducible] Wp WL WO fin finB rnd Exit.then Exit.inBlock G GD LT Rd Fn FnB FvB Iter
attribute [local go_sem] RV.row TD.row
def rcI (p : PT) (g c : Int) (i : Nat) : List (Nat × AV) × Bs := ([(7, .d (.s (.int .i64 (g + i)))), (1, .d (.s (.int .i64 g))), (2, .d (.s (.int .i64 c))), (3, .p 0 0)], [(0, some (26, p.td.row.map .d))])
theorem rcovered_P {p : PT} (hp : ASP p) (g c : Int) (hr : rngV g c = 0) : Fn Try.prog 70 [.st p.td.row, .s (.int .i64 g), .s (.int .i64 c)] (· = .s (.bool (covV p.flat g c))) := by
  have b := rngV_ok hr
  refine Fn.of Try.func70 Try.ntmps70 rfl (by kernel_rfl) (fun w o => ?_)
  (repeat (first | ((repeat (revert hK; revert K)); refine wk ?_; repeat intro K hK) | refine wkg ?_))
  refine G.loop (rcI p g c) (fun i => (i : Int) ≤ c ∧ ∀ q, g ≤ q → q < g + i → (findV p.flat q).2 = true) (fun i => c.toNat - i) ?_ ?_
  · refine G.at 0 [(0, 0)] ⟨by simp; omega, fun q h1 h2 => by simp at h2; omega⟩ ?_ (by repeat (first | exact trivial | refine ⟨⟨rfl, rfl, rfl⟩, ?_⟩ | refine ⟨⟨rfl, by rw [renL_d]; rfl, kbL_d _ _⟩, ?_⟩ | refine ⟨rfl, ?_⟩)) (by decide)
    dsimp only [rcI]
    rw [show g + ((0 : Nat) : Int) = g by simp]
    exact (by repeat (first | exact trivial | refine ⟨⟨rfl, rfl⟩, ?_⟩))
  · rintro i ⟨h1, h2⟩
    dsimp only [rcI]
    have hf := rfind2_P hp (g + i)
    by_cases h : (i : Int) < c
    · cases hq : (findV p.flat (g + i)).2 with
      | false =>
        rw [hq] at hf
        (repeat (first | refine G.cW (hf) ?_ | refine G.cgW (hf) ?_ | refine GD.cW (hf) ?_ | refine GD.cgW (hf) ?_ | ((repeat (revert hK; revert K)); refine wk ?_; repeat intro K hK) | refine wkg ?_))
        refine G.fin1 (by first | exact rvOk.tmp | exact rvOk.cellS | exact rvOk.cell1 | fail) rfl ?_
        have : covV p.flat g c = false := by
          rw [← Bool.not_eq_true, covV_iff]
          intro hh
          rw [hh (g + i) (by omega) (by omega)] at hq
          cases hq
        rw [this]
      | true =>
        rw [hq] at hf
        (repeat (first | refine G.cW (hf) ?_ | refine G.cgW (hf) ?_ | refine GD.cW (hf) ?_ | refine GD.cgW (hf) ?_ | ((repeat (revert hK; revert K)); refine wk ?_; repeat intro K hK) | refine wkg ?_))
        refine G.at (i + 1) [(0, 0)] ⟨⟨by omega, fun q g1 g2 => ?_⟩, by omega⟩ ?_ (by repeat (first | exact trivial | refine ⟨⟨rfl, rfl, rfl⟩, ?_⟩ | refine ⟨⟨rfl, by rw [renL_d]; rfl, kbL_d _ _⟩, ?_⟩ | refine ⟨rfl, ?_⟩)) (by decide)
        · by_cases e : q = g + i
          · subst e; exact hq
          · exact h2 q g1 (by omega)
        · dsimp only [rcI]
          rw [show g + ((i + 1 : Nat) : Int) = g + i + 1 by omega]
          exact (by repeat (first | exact trivial | refine ⟨⟨rfl, rfl⟩, ?_⟩))
    · (repeat (first | ((repeat (revert hK; revert K)); refine wk ?_; repeat intro K hK) | refine wkg ?_))
      refine G.fin1 (by first | exact rvOk.tmp | exact rvOk.cellS | exact rvOk.cell1 | fail) rfl ?_
      have : covV p.flat g c = true := (covV_iff _ _ _).2 (fun q g1 g2 => h2 q g1 (by omega))
      rw [this]

end Go.Proofs.Ytjdpignfdncebaa

set_option linter.unusedSimpArgs false
set_option linter.unusedVariables false
namespace Go.Proofs.Ytjdpignfdncebaa
open Go.RowKit

theorem eqR_self (x : RV) : eqR x x = true := (eqR_iff x x).2 rfl
attribute [local simp] eqR_self
attribute [local irreducible] Wp WL WO fin finB rnd Exit.then Exit.inBlock G GD LT Rd Fn FnB FvB Iter
attribute [local go_sem] RV.row TD.row
def tsI (t : TD) (i : Nat) : List (Nat × AV) × Bs := ([(5, .d (.s (.int .i64 (i : Int)))), (2, .p 0 0), (3, .p 1 0)], [(0, some (26, t.row.map .d)), (1, some (26, t.row.map .d))])
theorem tsame_F (t : TD) (ks : List TD) (hkk : t.k = ks.map TD.row) (hk : t.k.length ≤ 1000) (h : ∀ (i : Nat) (k : TD), ks[i]? = some k → Fn Try.prog 17 [.st k.row, .st k.row] (· = .s (.bool true))) : Fn Try.prog 17 [.st t.row, .st t.row] (· = .s (.bool true)) := by
  refine Fn.of Try.func17 Try.ntmps17 rfl (by kernel_rfl) (fun w o => ?_)
  (repeat (first | (show G _ _ _ _ (WL _ _ _ _ (⟨some _, .binOp .eql _ _ _ _, _, _, _, none⟩ :: _)); refine G.w1 ?_ (by first | exact LT.eqW (t.x) (t.x) | fail)) | (show G _ _ _ _ (WL _ _ _ _ (⟨some _, .binOp .eql _ _ _ _, _, _, _, some _⟩ :: _)); refine G.gC ?_ (by first | (refine gi ?_; intros; exact LT.eqW (t.x) (t.x)) | fail) rfl rfl) | (show GD _ _ _ _ _ _ _ _ _ _ (⟨some _, .binOp .eql _ _ _ _, _, _, _, none⟩ :: _); refine GD.w1 ?_ (by first | exact LT.eqW (t.x) (t.x) | fail)) | (show GD _ _ _ _ _ _ _ _ _ _ (⟨some _, .binOp .eql _ _ _ _, _, _, _, some _⟩ :: _); refine GD.gC ?_ (by first | (refine gi ?_; intros; exact LT.eqW (t.x) (t.x)) | fail) rfl rfl) | (show G _ _ _ _ (WL _ _ _ _ (⟨some _, .binOp .neq _ _ _ _, _, _, _, none⟩ :: _)); refine G.w1 ?_ (by first | exact LT.neW (t.x) (t.x) | fail)) | (show G _ _ _ _ (WL _ _ _ _ (⟨some _, .binOp .neq _ _ _ _, _, _, _, some _⟩ :: _)); refine G.gC ?_ (by first | (refine gi ?_; intros; exact LT.neW (t.x) (t.x)) | fail) rfl rfl) | (show GD _ _ _ _ _ _ _ _ _ _ (⟨some _, .binOp .neq _ _ _ _, _, _, _, none⟩ :: _); refine GD.w1 ?_ (by first | exact LT.neW (t.x) (t.x) | fail)) | (show GD _ _ _ _ _ _ _ _ _ _ (⟨some _, .binOp .neq _ _ _ _, _, _, _, some _⟩ :: _); refine GD.gC ?_ (by first | (refine gi ?_; intros; exact LT.neW (t.x) (t.x)) | fail) rfl rfl) | ((repeat (revert hK; revert K)); refine wk ?_; repeat intro K hK) | refine wkg ?_))
  refine G.loop (tsI t) (fun i => i ≤ t.k.length) (fun i => t.k.length - i) ?_ ?_
  · exact G.at 0 [(0, 0), (1, 1)] (Nat.zero_le _) (by repeat (first | exact trivial | refine ⟨⟨rfl, rfl⟩, ?_⟩)) (by repeat (first | exact trivial | refine ⟨⟨rfl, rfl, rfl⟩, ?_⟩ | refine ⟨⟨rfl, by rw [renL_d]; rfl, kbL_d _ _⟩, ?_⟩ | refine ⟨rfl, ?_⟩)) (by decide)
  · intro i hi
    dsimp only [tsI]
    by_cases hlt : i < t.k.length
    · have hlt2 : i < ks.length := by rw [hkk, List.length_map] at hlt; exact hlt
      have hg2 : ks[i]? = some ks[i] := List.getElem?_eq_getElem hlt2
      have hg : t.k[i]? = some ks[i].row := by rw [hkk, List.getElem?_map, hg2]; rfl
      have hs := h i _ hg2
      generalize ks[i] = k0 at hg hs
      (repeat (first | refine G.cW (hs) ?_ | refine G.cgW (hs) ?_ | refine GD.cW (hs) ?_ | refine GD.cgW (hs) ?_ | (show G _ _ _ _ (WL _ _ _ _ (⟨some _, .indexAddr _ _ _, _, _, _, none⟩ :: _)); refine G.w1 ?_ (by first | exact LT.rd (Rd.ixv i (hg)) rfl | fail)) | (show G _ _ _ _ (WL _ _ _ _ (⟨some _, .indexAddr _ _ _, _, _, _, some _⟩ :: _)); refine G.gC ?_ (by first | (refine gi ?_; intros; exact LT.rd (Rd.ixv i (hg)) rfl) | fail) rfl rfl) | (show GD _ _ _ _ _ _ _ _ _ _ (⟨some _, .indexAddr _ _ _, _, _, _, none⟩ :: _); refine GD.w1 ?_ (by first | exact LT.rd (Rd.ixv i (hg)) rfl | fail)) | (show GD _ _ _ _ _ _ _ _ _ _ (⟨some _, .indexAddr _ _ _, _, _, _, some _⟩ :: _); refine GD.gC ?_ (by first | (refine gi ?_; intros; exact LT.rd (Rd.ixv i (hg)) rfl) | fail) rfl rfl) | ((repeat (revert hK; revert K)); refine wk ?_; repeat intro K hK) | refine wkg ?_))
      refine G.at (i + 1) [(0, 0), (1, 1)] ⟨by omega, by omega⟩ (by repeat (first | exact trivial | refine ⟨⟨rfl, rfl⟩, ?_⟩)) (by repeat (first | exact trivial | refine ⟨⟨rfl, rfl, rfl⟩, ?_⟩ | refine ⟨⟨rfl, by rw [renL_d]; rfl, kbL_d _ _⟩, ?_⟩ | refine ⟨rfl, ?_⟩)) (by decide)
    · (repeat (first | ((repeat (revert hK; revert K)); refine wk ?_; repeat intro K hK) | refine wkg ?_))
      refine G.fin1 (by first | exact rvOk.tmp | exact rvOk.cellS | exact rvOk.cell1 | fail) rfl ?_
      rfl
theorem psame_P : ∀ p : PT, Fn Try.prog 17 [.st p.td.row, .st p.td.row] (· = .s (.bool true))
  | .E => tsame_F _ [] rfl (by decide) (fun i k hk => by simp at hk)
  | .N l x r => by
    have hl := psame_P l
    have hr := psame_P r
    refine tsame_F _ [l.td, r.td] rfl (by simp [PT.td, PT.kids]) (fun i k hk => ?_)
    match i, hk with
    | 0, hk => cases hk; exact hl
    | 1, hk => cases hk; exact hr

end Go.Proofs.Ytjdpignfdncebaa
