/- Rangetree: equality of regions, and of lists of them. -/
import Derived.Test.YtnbohogkfdeddaaRue
import Derived.Laws.StructEq
set_option linter.unusedSimpArgs false
set_option linter.unusedVariables false
namespace Go.Proofs.Ytnbohogkfdeddaa
open Go.RowKit

theorem eqFr_step {P : Program} {d : Nat} {xs ys : Array Value} {f : Field} {fs : List Field} {w : World} {a b : Value} {x y : Bool} (hn : f.name ≠ "_") (hx : (part f.type xs f.offset).run P w = .ok a w) (hy : (part f.type ys f.offset).run P w = .ok b w)
    (he : (Op.equalIn d f.type a b).run P w = .ok x w) (hr : (Op.eqFields d xs ys fs).run P w = .ok y w) : (Op.eqFields d xs ys (f :: fs)).run P w = .ok (x && y) w := by
  simp only [Op.eqFields, Sem.run_ite, Sem.run_bind, hx, hy, he, hr, Result.andThen_ok, if_pos hn]
  cases x <;> rfl
theorem eqFr_last {P : Program} {d : Nat} {xs ys : Array Value} {f : Field} {w : World} {a b : Value} {x : Bool} (hn : f.name ≠ "_") (hx : (part f.type xs f.offset).run P w = .ok a w) (hy : (part f.type ys f.offset).run P w = .ok b w)
    (he : (Op.equalIn d f.type a b).run P w = .ok x w) : (Op.eqFields d xs ys [f]).run P w = .ok x w := by
  have := eqFr_step (fs := []) (y := true) hn hx hy he (by rfl)
  simpa using this
def eqR (x y : RV) : Bool := x.s == y.s && (x.p == y.p && (x.r == y.r && (x.f == y.f && (x.i == y.i && x.x == y.x))))
theorem eqR_iff (x y : RV) : eqR x y = true ↔ x = y := by
  obtain ⟨a, b, c, d, e, f⟩ := x
  obtain ⟨a', b', c', d', e', f'⟩ := y
  simp [eqR]
theorem run_eqR (x y : RV) (w : World) : (Op.equalIn 10000 25 (.agg x.cs.toArray) (.agg y.cs.toArray)).run Try.prog w = .ok (eqR x y) w := by
  rw [run_equalIn_agg w 9999 _ _ _ (by rw [Program.fieldsOf, Try.underlying25]) (by kernel_rfl)]
  rw [Program.fieldsOf, Try.underlying25]
  unfold eqR
  refine eqFr_step (by decide) rfl rfl (run_equalIn_int w _ _ _ .i64 _ _ (by kernel_rfl)) ?_
  refine eqFr_step (by decide) rfl rfl (run_equalIn_int w _ _ _ .i64 _ _ (by kernel_rfl)) ?_
  refine eqFr_step (by decide) rfl rfl (run_equalIn_int w _ _ _ .i64 _ _ (by kernel_rfl)) ?_
  refine eqFr_step (by decide) rfl rfl (run_equalIn_int w _ _ _ .i64 _ _ (by kernel_rfl)) ?_
  refine eqFr_step (by decide) rfl rfl (run_equalIn_int w _ _ _ .i64 _ _ (by kernel_rfl)) ?_
  exact eqFr_last (by decide) rfl rfl (run_equalIn_int w _ _ _ .i64 _ _ (by kernel_rfl))
theorem exec_neqR {op : Oper} {a : Act} {w : World} (x y : Operand) (ho : op.op = .binOp .neq 25 x y 25) {u v : RV} (hx : a.eval x = .agg u.cs.toArray) (hy : a.eval y = .agg v.cs.toArray) :
    (execOp a.eval op).run Try.prog w = .ok (.value (.bool (!(eqR u v)))) w := by
  have hG : Try.prog.eqGuardType Try.prog.depth 25 = false := by kernel_rfl
  unfold execOp
  simp only [ho, hx, hy, Sem.run_bind, run_eqGuard_agg w .neq 25 _ _ _ _ hG, Result.andThen_ok, run_neq_struct, run_eqR, Sem.run_pure]
theorem wp_neqR {op : Oper} {a : Act} {W : World} {K : Act → World → Prop} {Q : Exit → Act → World → Prop} (x y : Operand) (ho : op.op = .binOp .neq 25 x y 25) {u v : RV} (hx : a.eval x = .agg u.cs.toArray) (hy : a.eval y = .agg v.cs.toArray)
    (h : K (a.put op.dst (.bool (!(eqR u v)))) W) : op.wp Try.prog a W K Q := by
  unfold Oper.wp
  rw [exec_neqR x y ho hx hy]
  exact h
theorem exec_eqlR {op : Oper} {a : Act} {w : World} (x y : Operand) (ho : op.op = .binOp .eql 25 x y 25) {u v : RV} (hx : a.eval x = .agg u.cs.toArray) (hy : a.eval y = .agg v.cs.toArray) :
    (execOp a.eval op).run Try.prog w = .ok (.value (.bool (eqR u v))) w := by
  have hG : Try.prog.eqGuardType Try.prog.depth 25 = false := by kernel_rfl
  unfold execOp
  simp only [ho, hx, hy, Sem.run_bind, run_eqGuard_agg w .eql 25 _ _ _ _ hG, Result.andThen_ok, run_eql_struct, run_eqR, Sem.run_pure]
theorem wp_eqlR {op : Oper} {a : Act} {W : World} {K : Act → World → Prop} {Q : Exit → Act → World → Prop} (x y : Operand) (ho : op.op = .binOp .eql 25 x y 25) {u v : RV} (hx : a.eval x = .agg u.cs.toArray) (hy : a.eval y = .agg v.cs.toArray)
    (h : K (a.put op.dst (.bool (eqR u v))) W) : op.wp Try.prog a W K Q := by
  unfold Oper.wp
  rw [exec_eqlR x y ho hx hy]
  exact h
def sameL : List RV → List RV → Bool
  | [], [] => true
  | x :: a, y :: b => eqR x y && sameL a b
  | _, _ => false
theorem sameL_iff : ∀ a b : List RV, sameL a b = true ↔ a = b
  | [], [] => by simp [sameL]
  | x :: a, y :: b => by simp only [sameL, Bool.and_eq_true, eqR_iff, sameL_iff a b, List.cons.injEq]
  | [], y :: b => by simp [sameL]
  | x :: a, [] => by simp [sameL]
theorem sameL_len {a b : List RV} (h : a.length ≠ b.length) : sameL a b = false := by
  cases hs : sameL a b with
  | false => rfl
  | true => exact absurd (congrArg List.length ((sameL_iff a b).1 hs)) h
theorem sameL_drop {a b : List RV} {k : Nat} (ha : k < a.length) (hb : k < b.length) : sameL (a.drop k) (b.drop k) = (eqR a[k] b[k] && sameL (a.drop (k + 1)) (b.drop (k + 1))) := by
  rw [List.drop_eq_getElem_cons ha, List.drop_eq_getElem_cons hb]
  rfl

set_option maxRecDepth 100000 in
set_option maxHeartbeats 4000000 in
theorem lsame_any (a b : List RV) (va vb : Value) (w : World) (ha : isSl w va 6 a.length (rF a)) (hb : isSl w vb 6 b.length (rF b)) (hl : a.length ≤ 100000) (hl2 : b.length ≤ 100000) :
    Calls Try.prog 16 #[va, vb] w fun e w' => e = .returned (.bool (sameL a b)) ∧ Ext w w' := by
  obtain ⟨aa, ca, rfl⟩ := sl_shape ha
  obtain ⟨ab, cb, rfl⟩ := sl_shape hb
  have HA : Hid (isSl w (.slice aa a.length ca) 6 a.length (rF a)) := ha
  have HB : Hid (isSl w (.slice ab b.length cb) 6 b.length (rF b)) := hb
  clear ha hb
  by_cases hn : a.length = b.length
  · have hnb : ((a.length : Int) != (b.length : Int)) = false := by simp [hn]
    replace hn : Hid _ := hn
    go_enter Try.func16, Try.ntmps16
    go_upto_region 3 with fail
    go_upto_region 4 with fail
    have hE : Ext w w := Ext.refl w
    go_loopw [5, 13] (fun v5 vi wr => ∃ k : Nat, vi = .int .i64 k ∧ k ≤ a.length ∧ sameL a b = sameL (a.drop k) (b.drop k) ∧ Ext w wr) (fun _ vi _ => a.length - (intOf vi).toNat)
    case atStart => exact ⟨0, rfl, by omega, by simp, hE⟩
    case round =>
      clear hE
      obtain ⟨k, rfl, hk, hs, hE⟩ := hrel
      obtain ⟨W0, rfl⟩ : ∃ W0, W0 = wr := ⟨_, rfl⟩
      replace hs : Hid _ := hs
      by_cases hlt : k < a.length
      · have hltb : k < b.length := by have := hn.out; omega
        obtain ⟨pa, oa, rfl, ha1, ha2, hga0, hra⟩ := sl_at HA.out hlt
        obtain ⟨pb, ob, rfl, hb1, hb2, hgb0, hrb⟩ := sl_at HB.out hltb
        have hga : pa < W0.heap.size := Nat.lt_of_lt_of_le hga0 hE.below.size
        have hgb : pb < W0.heap.size := Nat.lt_of_lt_of_le hgb0 hE.below.size
        replace hra := rangeAt.ext hra hga0 hE
        replace hrb := rangeAt.ext hrb hgb0 hE
        have hd := sameL_drop hlt hltb
        replace hd : Hid _ := hd
        go_upto_region 6 with fail
        have y1 := hra
        have y2 := hrb
        have hy1 := hga
        have hy2 := hgb
        have hS : GrownX W0 [] W0 := GrownX.refl _ _
        refine wp_region_S (GrownX W0 []) (by kernel_rfl) ?_
        refine name_wd (fun W101 hW => ?_)
        have hx : Ext W0 W101 := by rw [hW]; exact ext_drew _
        clear hW
        replace hS := hS.ext hx
        replace hra := rangeAt.ext hra hga hx
        replace hrb := rangeAt.ext hrb hgb hx
        replace hga := Nat.lt_of_lt_of_le hga hx.below.size
        replace hgb := Nat.lt_of_lt_of_le hgb hx.below.size
        replace hE := hE.trans hx
        clear hx
        refine wpAnyD_takeSL (i := 0) rfl (by kernel_rfl) (fun _ _ _ _ h => h) hS ?_
        apply Exists.intro
        refine ⟨Or.inl ⟨by rfl, ?_⟩, ?_⟩
        (focus (intro wz hz; go_simp; (try with_reducible rfl); done))
        (try simp only [Act.put, Zs, Zz, Zc])
        refine wpAnyD_takeSL (i := 1) rfl (by kernel_rfl) (fun _ _ _ _ h => h) hS ?_
        apply Exists.intro
        refine ⟨Or.inl ⟨by rfl, ?_⟩, ?_⟩
        (focus (intro wz hz; go_simp; (try with_reducible rfl); done))
        (try simp only [Act.put, Zs, Zz, Zc])
        refine wpAnyD_takeSL (i := 2) rfl (by kernel_rfl) (fun _ _ _ _ h => h) hS ?_
        apply Exists.intro
        refine ⟨Or.inl ⟨by rfl, ?_⟩, ?_⟩
        (focus (intro wz hz; go_simp; (try with_reducible rfl); done))
        (try simp only [Act.put, Zs, Zz, Zc])
        refine wpAnyD_takeSL (i := 3) rfl (by kernel_rfl) (fun _ _ _ _ h => h) hS ?_
        apply Exists.intro
        refine ⟨Or.inl ⟨by rfl, ?_⟩, ?_⟩
        (focus (intro wz hz; (first | exact exec_ld 25 _ rfl rfl (GrownX.range hz (y1) (hy1) (by first | decide | (simp; done) | (simp; omega) | omega)) Try.underlying25 rfl (by exact Try.infoR) | exact exec_ld 25 _ rfl rfl (GrownX.range hz (y2) (hy2) (by first | decide | (simp; done) | (simp; omega) | omega)) Try.underlying25 rfl (by exact Try.infoR))))
        (try simp only [Act.put, Zs, Zz, Zc])
        refine wpAnyD_takeSL (i := 4) rfl (by kernel_rfl) (fun _ _ _ _ h => h) hS ?_
        apply Exists.intro
        refine ⟨Or.inl ⟨by rfl, ?_⟩, ?_⟩
        (focus (intro wz hz; go_simp; (try with_reducible rfl); done))
        (try simp only [Act.put, Zs, Zz, Zc])
        refine wpAnyD_takeSL (i := 5) rfl (by kernel_rfl) (fun _ _ _ _ h => h) hS ?_
        apply Exists.intro
        refine ⟨Or.inl ⟨by rfl, ?_⟩, ?_⟩
        (focus (intro wz hz; go_simp; (try with_reducible rfl); done))
        (try simp only [Act.put, Zs, Zz, Zc])
        refine wpAnyD_takeSL (i := 6) rfl (by kernel_rfl) (fun _ _ _ _ h => h) hS ?_
        apply Exists.intro
        refine ⟨Or.inl ⟨by rfl, ?_⟩, ?_⟩
        (focus (intro wz hz; go_simp; (try with_reducible rfl); done))
        (try simp only [Act.put, Zs, Zz, Zc])
        refine wpAnyD_takeSL (i := 7) rfl (by kernel_rfl) (fun _ _ _ _ h => h) hS ?_
        apply Exists.intro
        refine ⟨Or.inl ⟨by rfl, ?_⟩, ?_⟩
        (focus (intro wz hz; (first | exact exec_ld 25 _ rfl rfl (GrownX.range hz (y1) (hy1) (by first | decide | (simp; done) | (simp; omega) | omega)) Try.underlying25 rfl (by exact Try.infoR) | exact exec_ld 25 _ rfl rfl (GrownX.range hz (y2) (hy2) (by first | decide | (simp; done) | (simp; omega) | omega)) Try.underlying25 rfl (by exact Try.infoR))))
        (try simp only [Act.put, Zs, Zz, Zc])
        refine wpAnyD_takeSL (i := 8) rfl (by kernel_rfl) (fun _ _ _ _ h => h) hS ?_
        apply Exists.intro
        refine ⟨Or.inl ⟨by rfl, ?_⟩, ?_⟩
        (focus (intro wz hz; exact exec_neqR _ _ (by rfl) (by rfl) (by rfl)))
        (try simp only [Act.put, Zs, Zz, Zc])
        refine wpAnyD_done (by kernel_rfl) ?_ _
        clear hS 
        cases hc : eqR a[k] b[k] with
        | false =>
          go_upto_region 7 with fail
          refine wp_region_lit ?_
          refine wpList_plain rfl (fun K hK => ?_); go_simp; (try dsimp only); refine hK _ _ ?_; clear hK K; (try simp only [Act.put, Zs, Zz, Zc])
          refine wpList_nil ?_
          go_wp2_with fail
          go_ret
          exact ⟨ret_b (by rw [hs.out, hd.out, hc]; rfl), hE⟩
        | true =>
          go_upto_region 8 with fail
          refine wp_region_lit ?_
          refine wpList_plain rfl (fun K hK => ?_); go_simp; (try simp (disch := omega) only [Yq, Yr]); (try dsimp only); refine hK _ _ ?_; clear hK K; (try simp only [Act.put, Zs, Zz, Zc])
          refine wpList_plain rfl (fun K hK => ?_); go_simp; (try dsimp only); refine hK _ _ ?_; clear hK K; (try simp only [Act.put, Zs, Zz, Zc])
          refine wpList_nil ?_
          go_wp2_with fail
          go_roundw
          case rel => exact ⟨k + 1, by go_num, by omega, by rw [hs.out, hd.out, hc]; rfl, hE⟩
          case measure => simp [intOf]; omega
      · go_upto_region 9 with fail
        go_wp2_with fail
        go_ret
        exact ⟨ret_b (by rw [hs.out, List.drop_of_length_le (show a.length ≤ k by omega), List.drop_of_length_le (show b.length ≤ k by have := hn.out; omega)]; rfl), hE⟩
  · have hnb : ((a.length : Int) != (b.length : Int)) = true := by simp; omega
    go_enter Try.func16, Try.ntmps16
    go_wp2_with fail
    go_ret
    exact ⟨ret_b (by rw [sameL_len hn]), by (exact Ext.of_below (by (repeat' (first | (with_reducible exact Below.refl _ _) | (with_reducible assumption) | (with_reducible refine Below.alloc ?_ ?_ _) | (with_reducible refine Below.wext ?_ ?_ _ _) | (with_reducible refine Below.drew ?_) | (with_reducible refine Below.setCell ?_ ?_ _) | (with_reducible exact Nat.le_refl _) | (with_reducible refine Below.drewN' ?_ _) | (simp; omega) | (simp; done)))))⟩

end Go.Proofs.Ytnbohogkfdeddaa
