/- Layer 22: End, Overlap, Mergeable, Merge, Split of a region, of the program and of the reference. -/
import Derived.Test.YtmajkjkakciaiaaSaM
set_option linter.unusedSimpArgs false
set_option linter.unusedVariables false
namespace Go.Proofs.Ytmajkjkakciaiaa
open Go.RowKit

theorem eqFr_step {P : Program} {d : Nat} {xs ys : Array Value} {f : Field} {fs : List Field} {w : World} {a b : Value} {x y : Bool} (hn : f.name ≠ "_") (hx : (part f.type xs f.offset).run P w = .ok a w) (hy : (part f.type ys f.offset).run P w = .ok b w)
    (he : (Op.equalIn d f.type a b).run P w = .ok x w) (hr : (Op.eqFields d xs ys fs).run P w = .ok y w) : (Op.eqFields d xs ys (f :: fs)).run P w = .ok (x && y) w := by
  simp only [Op.eqFields, Sem.run_ite, Sem.run_bind, hx, hy, he, hr, Result.andThen_ok, if_pos hn]
  cases x <;> rfl
theorem eqFr_last {P : Program} {d : Nat} {xs ys : Array Value} {f : Field} {w : World} {a b : Value} {x : Bool} (hn : f.name ≠ "_") (hx : (part f.type xs f.offset).run P w = .ok a w) (hy : (part f.type ys f.offset).run P w = .ok b w)
    (he : (Op.equalIn d f.type a b).run P w = .ok x w) : (Op.eqFields d xs ys [f]).run P w = .ok x w := by
  have := eqFr_step (fs := []) (y := true) hn hx hy he (by rfl)
  simpa using this
def RV.cs (x : RV) : List Value := [.int .i64 x.s, .int .i64 x.p, .int .i64 x.r, .int .i64 x.f, .int .i64 x.i, .int .i64 x.x]
def eqR (x y : RV) : Bool := x.s == y.s && (x.p == y.p && (x.r == y.r && (x.f == y.f && (x.i == y.i && x.x == y.x))))
theorem eqR_iff (x y : RV) : eqR x y = true ↔ x = y := by
  obtain ⟨a, b, c, d, e, f⟩ := x
  obtain ⟨a', b', c', d', e', f'⟩ := y
  simp [eqR]
theorem run_eqR (x y : RV) (w : World) : (Op.equalIn 10000 23 (.agg x.cs.toArray) (.agg y.cs.toArray)).run Try.prog w = .ok (eqR x y) w := by
  rw [run_equalIn_agg w 9999 _ _ _ (by rw [Program.fieldsOf, Try.underlying23]) (by kernel_rfl)]
  rw [Program.fieldsOf, Try.underlying23]
  unfold eqR
  refine eqFr_step (by decide) rfl rfl (run_equalIn_int w _ _ _ .i64 _ _ (by kernel_rfl)) ?_
  refine eqFr_step (by decide) rfl rfl (run_equalIn_int w _ _ _ .i64 _ _ (by kernel_rfl)) ?_
  refine eqFr_step (by decide) rfl rfl (run_equalIn_int w _ _ _ .i64 _ _ (by kernel_rfl)) ?_
  refine eqFr_step (by decide) rfl rfl (run_equalIn_int w _ _ _ .i64 _ _ (by kernel_rfl)) ?_
  refine eqFr_step (by decide) rfl rfl (run_equalIn_int w _ _ _ .i64 _ _ (by kernel_rfl)) ?_
  exact eqFr_last (by decide) rfl rfl (run_equalIn_int w _ _ _ .i64 _ _ (by kernel_rfl))
theorem RL.region {own : Nat → Prop} {W : World} {vs : List Value} {x : RV} (h : RL own W vs x.row) : vs = x.cs := by
  have key : ∀ {vs : List Value} {us : List Value}, RL own W vs (us.map .s) → vs = us := by
    intro vs
    induction vs with
    | nil => intro us h; cases us with
      | nil => rfl
      | cons u us => cases h
    | cons v vs ih =>
      intro us h
      cases us with
      | nil => cases h
      | cons u us =>
        cases h with
        | cons h t =>
          cases h with
          | s h => rw [ih t]
  exact key (us := x.cs) h
section
variable {X : Cx} {al : List (Nat × AV)} {bs : Bs} {x y : Operand} {u v : RV}
/-- Two regions are compared. -/
theorem Rd.eqR {ds es : List D} (hx : Evd al x (.d (.st ds))) (hy : Evd al y (.d (.st es))) (hu : ds = u.row) (hv : es = v.row) : Rd Try.prog X al bs [] (.binOp .eql 23 x y 23) (.d (.s (.bool (Proofs.Ytmajkjkakciaiaa.eqR u v)))) := fun al2 bs2 hl hB E a W h => by
  subst hu
  subst hv
  have h1 := h.evd (hl.evd hx (by simp [Op.operands]))
  have h2 := h.evd (hl.evd hy (by simp [Op.operands]))
  refine ⟨_, .d (.s rfl), ?_⟩
  intro op ho
  have hG : Try.prog.eqGuardType Try.prog.depth 23 = false := by kernel_rfl
  generalize hp : a.eval x = p at h1
  generalize hq : a.eval y = q at h2
  cases h1 with
  | d h1 =>
    cases h2 with
    | d h2 =>
      cases h1 with
      | st h1 =>
        cases h2 with
        | st h2 =>
          rw [h1.region] at hp
          rw [h2.region] at hq
          unfold execOp
          simp only [ho, hp, hq, Sem.run_bind, run_eqGuard_agg W .eql 23 _ _ _ _ hG, Result.andThen_ok, run_eql_struct, run_eqR, Sem.run_pure]
theorem Rd.neqR {ds es : List D} (hx : Evd al x (.d (.st ds))) (hy : Evd al y (.d (.st es))) (hu : ds = u.row) (hv : es = v.row) : Rd Try.prog X al bs [] (.binOp .neq 23 x y 23) (.d (.s (.bool (!(Proofs.Ytmajkjkakciaiaa.eqR u v))))) := fun al2 bs2 hl hB E a W h => by
  subst hu
  subst hv
  have h1 := h.evd (hl.evd hx (by simp [Op.operands]))
  have h2 := h.evd (hl.evd hy (by simp [Op.operands]))
  refine ⟨_, .d (.s rfl), ?_⟩
  intro op ho
  have hG : Try.prog.eqGuardType Try.prog.depth 23 = false := by kernel_rfl
  generalize hp : a.eval x = p at h1
  generalize hq : a.eval y = q at h2
  cases h1 with
  | d h1 =>
    cases h2 with
    | d h2 =>
      cases h1 with
      | st h1 =>
        cases h2 with
        | st h2 =>
          rw [h1.region] at hp
          rw [h2.region] at hq
          unfold execOp
          simp only [ho, hp, hq, Sem.run_bind, run_eqGuard_agg W .neq 23 _ _ _ _ hG, Result.andThen_ok, run_neq_struct, run_eqR, Sem.run_pure]
theorem LT.eqW {d : Nat} {ds es : List D} (u v : RV) (hx : Evd al x (.d (.st ds)) := by exact ⟨_, rfl, by (try (apply Und.gd; assumption; try (apply Und.gd; assumption; try (apply Und.gd; assumption)))); exact Und.refl _⟩) (hy : Evd al y (.d (.st es)) := by exact ⟨_, rfl, by (try (apply Und.gd; assumption; try (apply Und.gd; assumption; try (apply Und.gd; assumption)))); exact Und.refl _⟩) (hu : ds = u.row := by rfl) (hv : es = v.row := by rfl) (hd : Nat.blt d X.N = true := by rfl) : LT Try.prog X al bs (.binOp .eql 23 x y 23) (some d) [] [(d, .d (.s (.bool (Proofs.Ytmajkjkakciaiaa.eqR u v))))] [] := LT.rd (Rd.eqR hx hy hu hv) hd
theorem LT.neW {d : Nat} {ds es : List D} (u v : RV) (hx : Evd al x (.d (.st ds)) := by exact ⟨_, rfl, by (try (apply Und.gd; assumption; try (apply Und.gd; assumption; try (apply Und.gd; assumption)))); exact Und.refl _⟩) (hy : Evd al y (.d (.st es)) := by exact ⟨_, rfl, by (try (apply Und.gd; assumption; try (apply Und.gd; assumption; try (apply Und.gd; assumption)))); exact Und.refl _⟩) (hu : ds = u.row := by rfl) (hv : es = v.row := by rfl) (hd : Nat.blt d X.N = true := by rfl) : LT Try.prog X al bs (.binOp .neq 23 x y 23) (some d) [] [(d, .d (.s (.bool (!(Proofs.Ytmajkjkakciaiaa.eqR u v)))))] [] := LT.rd (Rd.neqR hx hy hu hv) hd
end

attribute [local irreducible] Wp WL WO fin finB rnd Exit.then Exit.inBlock G GD LT Rd Fn FnB FvB Iter
def endV (x : RV) : Int := bif chkV x != 0 then 0 else x.s + x.p
theorem end_F (x : RV) : Fn Try.prog 57 [.st x.row] (· = .s (.int .i64 (endV x))) := by
  by_cases h : chkV x = 0
  · have hb := chkV_bd h
    have h0 : (chkV x != 0) = false := by rw [h]; rfl
    refine Fn.of Try.func57 Try.ntmps57 rfl (by kernel_rfl) (fun w o => ?_)
    (repeat (first | refine G.cW (chk_F _) ?_ | refine G.cgW (chk_F _) ?_ | refine GD.cW (chk_F _) ?_ | refine GD.cgW (chk_F _) ?_ | ((repeat (revert hK; revert K)); refine wk ?_; repeat intro K hK) | refine wkg ?_))
    refine G.fin1 (by first | exact rvOk.tmp | exact rvOk.cellS | exact rvOk.cell1 | fail) rfl ?_
    simp only [endV, h0, cond_false]
  · have h0 : (chkV x != 0) = true := by simp [h]
    refine Fn.of Try.func57 Try.ntmps57 rfl (by kernel_rfl) (fun w o => ?_)
    (repeat (first | refine G.cW (chk_F _) ?_ | refine G.cgW (chk_F _) ?_ | refine GD.cW (chk_F _) ?_ | refine GD.cgW (chk_F _) ?_ | ((repeat (revert hK; revert K)); refine wk ?_; repeat intro K hK) | refine wkg ?_))
    refine G.fin1 (by first | exact rvOk.tmp | exact rvOk.cellS | exact rvOk.cell1 | fail) rfl ?_
    simp only [endV, h0, cond_true]
def ovlV (a b : RV) : Bool := chkV a == 0 && chkV b == 0 && decide (a.s < endV b) && decide (b.s < endV a)
set_option maxHeartbeats 1000000 in
theorem ovl_F (a b : RV) : Fn Try.prog 28 [.st a.row, .st b.row] (· = .s (.bool (ovlV a b))) := by
  refine Fn.of Try.func28 Try.ntmps28 rfl (by kernel_rfl) (fun w o => ?_)
  (repeat (first | refine G.cW (chk_F _) ?_ | refine G.cgW (chk_F _) ?_ | refine GD.cW (chk_F _) ?_ | refine GD.cgW (chk_F _) ?_ | refine G.cW (end_F _) ?_ | refine G.cgW (end_F _) ?_ | refine GD.cW (end_F _) ?_ | refine GD.cgW (end_F _) ?_ | ((repeat (revert hK; revert K)); refine wk ?_; repeat intro K hK) | refine wkg ?_))
  refine G.fin1 (by first | exact rvOk.tmp | exact rvOk.cellS | exact rvOk.cell1 | fail) rfl ?_
  rfl
/-- Mergeable: b is what follows a. -/
def nxtV (a b : RV) : RV := ⟨a.s + a.p, b.p, a.r, a.f, a.i, if a.i = -1 then a.x else a.x + a.p⟩
def mrgV (a b : RV) : Bool := !(chkV a != 0 || chkV b != 0 || bits .and .i64 a.f 2 != 0 || bits .and .i64 b.f 2 != 0) && eqR (nxtV a b) b
set_option maxHeartbeats 4000000 in
theorem mrg_F (a b : RV) : Fn Try.prog 53 [.st a.row, .st b.row] (· = .s (.bool (mrgV a b))) := by
  by_cases h : (chkV a != 0 || chkV b != 0 || bits .and .i64 a.f 2 != 0 || bits .and .i64 b.f 2 != 0) = true
  · refine Fn.of Try.func53 Try.ntmps53 rfl (by kernel_rfl) (fun w o => ?_)
    (repeat (first | refine G.cW (chk_F _) ?_ | refine G.cgW (chk_F _) ?_ | refine GD.cW (chk_F _) ?_ | refine GD.cgW (chk_F _) ?_ | refine G.cW (has_F _ _) ?_ | refine G.cgW (has_F _ _) ?_ | refine GD.cW (has_F _ _) ?_ | refine GD.cgW (has_F _ _) ?_ | ((repeat (revert hK; revert K)); refine wk ?_; repeat intro K hK) | refine wkg ?_))
    refine G.fin1 (by first | exact rvOk.tmp | exact rvOk.cellS | exact rvOk.cell1 | fail) rfl ?_
    simp [mrgV, h]
  · have h := Bool.eq_false_iff.2 h
    have ha : chkV a = 0 := by simp at h; omega
    have hb := chkV_bd ha
    refine Fn.of Try.func53 Try.ntmps53 rfl (by kernel_rfl) (fun w o => ?_)
    by_cases hi : a.i = -1
    · (repeat (first | refine G.cW (chk_F _) ?_ | refine G.cgW (chk_F _) ?_ | refine GD.cW (chk_F _) ?_ | refine GD.cgW (chk_F _) ?_ | refine G.cW (has_F _ _) ?_ | refine G.cgW (has_F _ _) ?_ | refine GD.cW (has_F _ _) ?_ | refine GD.cgW (has_F _ _) ?_ | ((repeat (revert hK; revert K)); refine wk ?_; repeat intro K hK) | refine wkg ?_))
      (first | refine G.w1 ?_ (LT.rd (Rd.eqR (u := nxtV a b) (v := b) (.of rfl) (.of rfl) (by simp [nxtV, RV.row, hi]) rfl) rfl) | refine G.w1 ?_ (LT.rd (Rd.neqR (u := nxtV a b) (v := b) (.of rfl) (.of rfl) (by simp [nxtV, RV.row, hi]) rfl) rfl))
      (repeat (first | ((repeat (revert hK; revert K)); refine wk ?_; repeat intro K hK) | refine wkg ?_))
      refine G.fin1 (by first | exact rvOk.tmp | exact rvOk.cellS | exact rvOk.cell1 | fail) rfl ?_
      simp [mrgV, h]
    · (repeat (first | refine G.cW (chk_F _) ?_ | refine G.cgW (chk_F _) ?_ | refine GD.cW (chk_F _) ?_ | refine GD.cgW (chk_F _) ?_ | refine G.cW (has_F _ _) ?_ | refine G.cgW (has_F _ _) ?_ | refine GD.cW (has_F _ _) ?_ | refine GD.cgW (has_F _ _) ?_ | ((repeat (revert hK; revert K)); refine wk ?_; repeat intro K hK) | refine wkg ?_))
      (first | refine G.w1 ?_ (LT.rd (Rd.eqR (u := nxtV a b) (v := b) (.of rfl) (.of rfl) (by simp [nxtV, RV.row, hi]) rfl) rfl) | refine G.w1 ?_ (LT.rd (Rd.neqR (u := nxtV a b) (v := b) (.of rfl) (.of rfl) (by simp [nxtV, RV.row, hi]) rfl) rfl))
      (repeat (first | ((repeat (revert hK; revert K)); refine wk ?_; repeat intro K hK) | refine wkg ?_))
      refine G.fin1 (by first | exact rvOk.tmp | exact rvOk.cellS | exact rvOk.cell1 | fail) rfl ?_
      simp [mrgV, h]
/-- What Merge answers. -/
def mergeV (a b : RV) : RV × Int := bif chkV a != 0 then (RV.z, chkV a) else bif chkV b != 0 then (RV.z, chkV b) else bif !mrgV a b then (RV.z, 11) else (⟨a.s, a.p + b.p, a.r, a.f, a.i, a.x⟩, 0)
set_option maxHeartbeats 4000000 in
theorem merge_F (a b : RV) : Fn Try.prog 59 [.st a.row, .st b.row] (· = .tup [.st (mergeV a b).1.row, .s (.int .i64 (mergeV a b).2)]) := by
  by_cases ha : chkV a = 0
  · have hba := chkV_bd ha
    by_cases hb : chkV b = 0
    · have hbb := chkV_bd hb
      by_cases hm : mrgV a b = true
      · refine Fn.of Try.func59 Try.ntmps59 rfl (by kernel_rfl) (fun w o => ?_)
        (repeat (first | refine G.cW (chk_F _) ?_ | refine G.cgW (chk_F _) ?_ | refine GD.cW (chk_F _) ?_ | refine GD.cgW (chk_F _) ?_ | refine G.cW (mrg_F _ _) ?_ | refine G.cgW (mrg_F _ _) ?_ | refine GD.cW (mrg_F _ _) ?_ | refine GD.cgW (mrg_F _ _) ?_ | ((repeat (revert hK; revert K)); refine wk ?_; repeat intro K hK) | refine wkg ?_))
        refine G.fin2 (by first | exact rvOk.tmp | exact rvOk.cellS | exact rvOk.cell1 | fail) (by first | exact rvOk.tmp | exact rvOk.cellS | exact rvOk.cell1 | fail) rfl ?_
        simp [mergeV, ha, hb, hm, RV.row]
      · have hm := Bool.eq_false_iff.2 hm
        refine Fn.of Try.func59 Try.ntmps59 rfl (by kernel_rfl) (fun w o => ?_)
        (repeat (first | refine G.cW (chk_F _) ?_ | refine G.cgW (chk_F _) ?_ | refine GD.cW (chk_F _) ?_ | refine GD.cgW (chk_F _) ?_ | refine G.cW (mrg_F _ _) ?_ | refine G.cgW (mrg_F _ _) ?_ | refine GD.cW (mrg_F _ _) ?_ | refine GD.cgW (mrg_F _ _) ?_ | ((repeat (revert hK; revert K)); refine wk ?_; repeat intro K hK) | refine wkg ?_))
        refine G.fin2 (by first | exact rvOk.tmp | exact rvOk.cellS | exact rvOk.cell1 | fail) (by first | exact rvOk.tmp | exact rvOk.cellS | exact rvOk.cell1 | fail) rfl ?_
        simp [mergeV, ha, hb, hm, RV.row, RV.z]
    · refine Fn.of Try.func59 Try.ntmps59 rfl (by kernel_rfl) (fun w o => ?_)
      (repeat (first | refine G.cW (chk_F _) ?_ | refine G.cgW (chk_F _) ?_ | refine GD.cW (chk_F _) ?_ | refine GD.cgW (chk_F _) ?_ | refine G.cW (mrg_F _ _) ?_ | refine G.cgW (mrg_F _ _) ?_ | refine GD.cW (mrg_F _ _) ?_ | refine GD.cgW (mrg_F _ _) ?_ | ((repeat (revert hK; revert K)); refine wk ?_; repeat intro K hK) | refine wkg ?_))
      refine G.fin2 (by first | exact rvOk.tmp | exact rvOk.cellS | exact rvOk.cell1 | fail) (by first | exact rvOk.tmp | exact rvOk.cellS | exact rvOk.cell1 | fail) rfl ?_
      have h1 : (chkV a != 0) = false := by simp [ha]
      have h2 : (chkV b != 0) = true := by simp [hb]
      simp only [mergeV, h1, h2, cond_true, cond_false]
      rfl
  · refine Fn.of Try.func59 Try.ntmps59 rfl (by kernel_rfl) (fun w o => ?_)
    (repeat (first | refine G.cW (chk_F _) ?_ | refine G.cgW (chk_F _) ?_ | refine GD.cW (chk_F _) ?_ | refine GD.cgW (chk_F _) ?_ | refine G.cW (mrg_F _ _) ?_ | refine G.cgW (mrg_F _ _) ?_ | refine GD.cW (mrg_F _ _) ?_ | refine GD.cgW (mrg_F _ _) ?_ | ((repeat (revert hK; revert K)); refine wk ?_; repeat intro K hK) | refine wkg ?_))
    refine G.fin2 (by first | exact rvOk.tmp | exact rvOk.cellS | exact rvOk.cell1 | fail) (by first | exact rvOk.tmp | exact rvOk.cellS | exact rvOk.cell1 | fail) rfl ?_
    have h1 : (chkV a != 0) = true := by simp [ha]
    simp only [mergeV, h1, cond_true]
    rfl

end Go.Proofs.Ytmajkjkakciaiaa
