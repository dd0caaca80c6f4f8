/- Layer 26: ranges of cells, read and stored whole. -/
import Derived.Test.YtcbadcbahmclpaaFpk
import Derived.Test.YtcbadcbahmclpaaTail
import Derived.Deep.WholeRow
import Derived.Laws.StructEq
set_option linter.unusedSimpArgs false
set_option linter.unusedVariables false
namespace Go.Proofs.Ytcbadcbahmclpaa
open Go.RowKit

section
variable {w : World} {b o n b' i : Nat} {cs l : List Value} {v : Value}
theorem R_wext (h : w.rangeAt b o cs) (os : Array Obj) (m : Nat) : (wext w os m).rangeAt b o cs := fun j v hv => by
  have := h j v hv
  have hb : LtD b w.heap.size := World.block_lt_of_cell? w _ this
  rw [wext_cell _ _ _ _ _ hb]; exact this
theorem R_alloc (h : w.rangeAt b o cs) (ob : Obj) : (w.alloc ob).rangeAt b o cs := World.rangeAt_alloc h ob
theorem R_drew (h : w.rangeAt b o cs) : w.drew.rangeAt b o cs := by simpa using h
theorem R_new (w : World) (C : Array Value) (t : TypeId) (h : C.toList = cs) : (w.alloc (.cells C t)).rangeAt w.heap.size 0 cs := fun j v hv => by
  rw [Nat.zero_add, World.cell?_alloc_new, ← Array.getElem?_toList, h]; exact hv
theorem R_newAt {w : World} {C : Array Value} {t : TypeId} (hb : b = w.heap.size) (h : C.toList = cs) : (w.alloc (.cells C t)).rangeAt b 0 cs := by
  subst hb; exact R_new w C t h
theorem R_set (h : w.rangeAt b 0 l) (hi : i < l.length) : (w.setCell ⟨b, i, none⟩ v).rangeAt b 0 (l.set i v) := fun j u hu => by
  rw [Nat.zero_add]
  by_cases e : i = j
  · subst e
    have h1 := h i _ (List.getElem?_eq_getElem hi)
    rw [Nat.zero_add] at h1
    rw [World.cell?_setCell_same _ _ _ h1, ← hu, List.getElem?_set_self hi]
  · rw [List.getElem?_set_ne e] at hu
    have h1 := h j u hu
    rw [Nat.zero_add] at h1
    rw [World.cell?_setCell_other _ _ _ _ (by intro h2; injection h2; omega)]
    exact h1
theorem R_other (h : w.rangeAt b 0 l) (hb : b' ≠ b) : (w.setCell ⟨b', i, none⟩ v).rangeAt b 0 l := fun j u hu => by
  rw [World.cell?_setCell_other _ _ _ _ (by intro h2; injection h2; omega)]
  exact h j u hu
theorem T_wext (h : w.there b o n) (os : Array Obj) (m : Nat) : (wext w os m).there b o n := fun j hj => by
  obtain ⟨h1, h2⟩ := h j hj
  obtain ⟨u, hu⟩ := Option.isSome_iff_exists.1 h1
  have hb : LtD b w.heap.size := World.block_lt_of_cell? w _ hu
  exact ⟨by rw [wext_cell _ _ _ _ _ hb]; exact h1, by rw [wext_frozen _ _ _ _ _ hb]; exact h2⟩
theorem T_drew (h : w.there b o n) : w.drew.there b o n := by simpa using h
theorem T_new (w : World) (C : Array Value) (t : TypeId) (h : n = C.size) : (w.alloc (.cells C t)).there w.heap.size 0 n := fun j hj => by
  subst h
  rw [Nat.zero_add, World.cell?_alloc_new, World.frozen?_alloc_new]
  exact ⟨by rw [Array.getElem?_eq_getElem hj]; rfl, rfl⟩
theorem T_newAt {w : World} {C : Array Value} {t : TypeId} (hb : b = w.heap.size) (h : n = C.size) : (w.alloc (.cells C t)).there b 0 n := by
  subst hb; exact T_new w C t h
theorem T_alloc (h : w.there b o n) (ob : Obj) : (w.alloc ob).there b o n := fun j hj => by
  obtain ⟨h1, h2⟩ := h j hj
  obtain ⟨u, hu⟩ := Option.isSome_iff_exists.1 h1
  have hb : LtD b w.heap.size := World.block_lt_of_cell? w _ hu
  exact ⟨by rw [World.cell?_alloc_past ob b (o + j) hb]; exact h1, by rw [World.frozen?_alloc_past ob b (o + j) hb]; exact h2⟩
theorem T_set (h : w.there b o n) : (w.setCell ⟨b', i, none⟩ v).there b o n := fun j hj => by
  obtain ⟨h1, h2⟩ := h j hj
  exact ⟨World.isSome_setCells b' [v] i w _ h1, by rw [World.frozen?_setCell]; exact h2⟩
end

/-- Whether two cases are the same. -/
def eqFC (c d : FC) : Bool := c.wr == d.wr && (c.rg == d.rg && (c.pt == d.pt && (c.sh == d.sh && (c.fl == d.fl && (c.bh == d.bh && (c.bz == d.bz && (c.en == d.en && (c.wb == d.wb && (c.tr == d.tr && (c.ow == d.ow && (c.on == d.on && (c.ca == d.ca && (c.bk == d.bk && (c.di == d.di && (c.fu == d.fu && c.mi == d.mi)))))))))))))))
theorem eqFC_refl (c : FC) : eqFC c c = true := by simp [eqFC]
theorem eqFC_iff (c d : FC) : eqFC c d = true ↔ c = d := by
  cases c; cases d
  simp [eqFC]

theorem eqF_step {P : Program} {d : Nat} {xs ys : Array Value} {f : Field} {fs : List Field} {w : World} {a b : Value} {x y : Bool} (hn : f.name ≠ "_") (hx : (part f.type xs f.offset).run P w = .ok a w) (hy : (part f.type ys f.offset).run P w = .ok b w)
    (he : (Op.equalIn d f.type a b).run P w = .ok x w) (hr : (Op.eqFields d xs ys fs).run P w = .ok y w) : (Op.eqFields d xs ys (f :: fs)).run P w = .ok (x && y) w := by
  simp only [Op.eqFields, Sem.run_ite, Sem.run_bind, hx, hy, he, hr, Result.andThen_ok, if_pos hn]
  cases x <;> rfl
theorem eqF_last {P : Program} {d : Nat} {xs ys : Array Value} {f : Field} {w : World} {a b : Value} {x : Bool} (hn : f.name ≠ "_") (hx : (part f.type xs f.offset).run P w = .ok a w) (hy : (part f.type ys f.offset).run P w = .ok b w)
    (he : (Op.equalIn d f.type a b).run P w = .ok x w) : (Op.eqFields d xs ys [f]).run P w = .ok x w := by
  have := eqF_step (fs := []) (y := true) hn hx hy he (by rfl)
  simpa using this

set_option maxHeartbeats 4000000 in
theorem run_eqfc (c d : FC) (w : World) : (binOp .eql 23 (.agg (caseL c).toArray) (.agg (caseL d).toArray)).run Try.prog w = .ok (.bool (eqFC c d)) w := by
  rw [run_eql_struct, run_equalIn_agg w 9999 _ _ _ (by rw [Program.fieldsOf, Try.underlying23]) (by kernel_rfl)]
  have e : (Op.eqFields 9999 (caseL c).toArray (caseL d).toArray (Try.prog.fieldsOf 23).toList).run Try.prog w = .ok (eqFC c d) w := by
    rw [Program.fieldsOf, Try.underlying23]
    simp only [eqFC]
    iterate 16 refine eqF_step (by decide) rfl rfl (by first | (exact run_equalIn_bool' w _ _ _ _ (by kernel_rfl)) | (exact run_equalIn_int w _ _ _ .i64 _ _ (by kernel_rfl))) ?_
    exact eqF_last (by decide) rfl rfl (run_equalIn_int w _ _ _ .i64 _ _ (by kernel_rfl))
  rw [e]; rfl

section
variable {C : World → Prop} {ops : Array Oper} {Q : Act → Prop} {rest : List Oper} {a : Act} {o : Oper}
theorem wpQuiet_eqfc (c d : FC) {n m : Nat} (hg : o.guard = none) (ho : o.op = .binOp .eql 23 (.tmp n) (.tmp m) 23) (hx : a.tmps.toList[n]? = some (.agg (caseL c).toArray)) (hy : a.tmps.toList[m]? = some (.agg (caseL d).toArray))
    (h : wpQuiet Try.prog ops C Q rest (a.put o.dst (.bool (eqFC c d)))) : wpQuiet Try.prog ops C Q (o :: rest) a := by
  refine wpQuiet_step fun K hK => ?_
  rw [if_pos (by unfold Region.wanted; rw [hg])]
  refine ⟨_, qa_binOp_tt ho (by rw [← Array.getElem?_toList]; exact hx) (by rw [← Array.getElem?_toList]; exact hy) ?_, hK _ h⟩
  intro w hw
  have hG : Try.prog.eqGuardType Try.prog.depth 23 = false := by kernel_rfl
  simp only [Sem.run_bind, run_eqGuard_agg w .eql 23 _ _ _ _ hG, Result.andThen_ok, run_eqfc]
  exact ⟨rfl, rfl⟩
end

theorem results_c3 {fn : Func} {t u v b : Nat} {ty : TypeId} {cs : List Value} {d : TypeDesc} (h : fn.results = #[.cell t ty, .tmp u, .tmp v]) (tmps : Array Value) (P : Program) (w : World) (hp : tmps.toList[t]? = some (.pointer (some ⟨b, 0, none⟩)))
    (hc : w.rangeAt b 0 cs) (hu : P.underlying ty = some d) (hd : d.isRow = true) (hi : (P.info? ty).map (·.size) = some cs.length) :
    (results fn tmps).run P w = .ok (.tuple #[.agg cs.toArray, tmps.getD u undef, tmps.getD v undef]) w := by
  rw [Array.getElem?_toList] at hp
  simp [results, h, asAddr, run_loadVar_mid w b 0 ty cs d hc hu hd hi, hp]

/-- The contract of Plan. -/
def PlanOK (f : FuncId) : Prop := ∀ (c : FC) (w : World), Calls Try.prog f #[.agg #[.bool c.wr, .bool c.rg, .int .i64 c.pt, .bool c.sh, .bool c.fl, .bool c.bh, .bool c.bz, .int .i64 c.en, .bool c.wb, .bool c.tr, .bool c.ow, .bool c.on, .bool c.ca, .bool c.bk, .bool c.di, .bool c.fu, .int .i64 c.mi]] w fun e w' => e = .returned (.tuple #[.agg #[.int .i64 (planF c).a, .int .i64 (planF c).e, .int .i64 (planF c).w, .int .i64 (planF c).k, .int .i64 (planF c).u], .int .i64 (chkF c)]) ∧ Ext w w'

end Go.Proofs.Ytcbadcbahmclpaa
