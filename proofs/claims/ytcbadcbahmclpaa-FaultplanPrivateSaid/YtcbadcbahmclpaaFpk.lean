/- Layer 26: the load of a whole case, in one step. -/
import Derived.Test.YtcbadcbahmclpaaFpf
import Derived.Deep.MidRow
import Derived.Laws.EntriesVeiled
set_option linter.unusedSimpArgs false
set_option linter.unusedVariables false
namespace Go.Proofs.Ytcbadcbahmclpaa
open Go.RowKit

theorem Try.info_fc : (Try.prog.info? 23).map (·.size) = some 17 := by kernel_rfl
theorem case_new (w : World) (c : FC) : caseAt (w.alloc (.cells #[.bool c.wr, .bool c.rg, .int .i64 c.pt, .bool c.sh, .bool c.fl, .bool c.bh, .bool c.bz, .int .i64 c.en, .bool c.wb, .bool c.tr, .bool c.ow, .bool c.on, .bool c.ca, .bool c.bk, .bool c.di, .bool c.fu, .int .i64 c.mi] 23)) w.heap.size c := by
  refine ⟨by simp, fun i hi => ?_⟩
  rw [World.cell?_alloc_new, ← Array.getElem?_toList]
  rfl
theorem caseAt.range {W W' : World} {b : Nat} {c : FC} (h : caseAt W b c) (hE : Ext W W') : W'.rangeAt b 0 (caseL c) := by
  intro j v hv
  have hj : j < 17 := by
    have := (List.getElem?_eq_some_iff.1 hv).1
    simpa [caseL] using this
  rw [Nat.zero_add, (h.ext hE).2 j hj, hv]

theorem Try.info_rule : (Try.prog.info? 36).map (·.size) = some 6 := by kernel_rfl
theorem rule_range {W : World} {bs b1 b3 b4 b5 : Nat} {c : FC} (h : RulesAt W bs b1 b3 b4 b5 c) (o : Nat) (ho : o + 6 ≤ 96) (cs : List Value) (hcs : ∀ j, j < cs.length → (ruleL c b1 b3 b4 b5)[o + j]? = cs[j]?) (hl : cs.length = 6) : W.rangeAt bs o cs := by
  intro j v hv
  have hj : j < cs.length := (List.getElem?_eq_some_iff.1 hv).1
  rw [h.cells (o + j) (by omega), hcs j hj, hv]

theorem oneAt_new (W : World) (v : Bool) (T : TypeId) : oneAt (W.alloc (.cells #[.bool v] T)) W.heap.size v := ⟨by simp, by rw [World.cell?_alloc_new]; rfl⟩
theorem rules_fin {c : FC} {w X : World} {osq : Array Obj} {nq b1 b3 b4 b5 : Nat} (h1 : caseAt X b1 c) (h3 : oneAt X b3 (copB c)) (h4 : oneAt X b4 (c.en == 1)) (h5 : oneAt X b5 (c.en == 2)) (hE : Ext w X) :
    rulesPost c w (.returned (.slice (some ⟨X.heap.size + osq.size, 0, none⟩) 16 16)) ((wext X osq nq).alloc (.cells (ruleL c b1 b3 b4 b5).toArray 36)) := by
  have hX : Ext X ((wext X osq nq).alloc (.cells (ruleL c b1 b3 b4 b5).toArray 36)) := by (exact Ext.of_below (by (repeat' (first | (with_reducible exact Below.refl _ _) | (with_reducible assumption) | (with_reducible refine Below.alloc ?_ ?_ _) | (with_reducible refine Below.wext ?_ ?_ _ _) | (with_reducible refine Below.drew ?_) | (with_reducible refine Below.setCell ?_ ?_ _) | (with_reducible exact Nat.le_refl _) | (simp; omega) | (simp; done)))))
  refine ⟨_, b1, b3, b4, b5, rfl, ⟨h1.ext hX, h3.ext hX, h4.ext hX, h5.ext hX, by simp, fun j hj => ?_⟩, hE.trans hX⟩
  rw [World.cell?_alloc_at _ _ _ _ (by simp), ← Array.getElem?_toList]

section
variable {P : Program} {C : World → Prop} {ops : Array Oper} {Q : Act → Prop} {rest : List Oper} {a : Act} {o : Oper}
theorem quiet_ld {t : TypeId} {n b : Nat} {cs : List Value} {d : TypeDesc} (ho : o.op = .load t (.tmp n)) (hx : a.tmps.toList[n]? = some (.pointer (some ⟨b, 0, none⟩))) (hr : ∀ w, C w → w.rangeAt b 0 cs)
    (hu : P.underlying t = some d) (hd : d.isRow = true) (hi : (P.info? t).map (·.size) = some cs.length) : ∀ w, C w → o.quietAt P a C w (.agg cs.toArray) := by
  intro w hw
  have hx' : a.eval (.tmp n) = .pointer (some ⟨b, 0, none⟩) := ev_tmp (by rw [← Array.getElem?_toList]; exact hx)
  unfold Oper.quietAt execOp
  simp only [ho, hx', Sem.run_bind, run_loadAt_mid w b 0 t cs d (hr w hw) hu hd hi]
  exact ⟨rfl, rfl⟩
theorem wpQuiet_ld {t : TypeId} {n b : Nat} {cs : List Value} {d : TypeDesc} (hg : o.guard = none) (ho : o.op = .load t (.tmp n)) (hx : a.tmps.toList[n]? = some (.pointer (some ⟨b, 0, none⟩))) (hr : ∀ w, C w → w.rangeAt b 0 cs)
    (hu : P.underlying t = some d) (hd : d.isRow = true) (hi : (P.info? t).map (·.size) = some cs.length) (h : wpQuiet P ops C Q rest (a.put o.dst (.agg cs.toArray))) : wpQuiet P ops C Q (o :: rest) a := by
  refine wpQuiet_step fun K hK => ?_
  rw [if_pos (by unfold Region.wanted; rw [hg])]
  exact ⟨_, quiet_ld ho hx hr hu hd hi, hK _ h⟩
theorem wpQuiet_gld {g0 : Bool} {t : TypeId} {n b : Nat} {cs : List Value} {d : TypeDesc} (hw : Region.wanted o (yielded ops a.tmps) = g0) (ho : o.op = .load t (.tmp n)) (hx : a.tmps.toList[n]? = some (.pointer (some ⟨b, 0, none⟩))) (hr : ∀ w, C w → w.rangeAt b 0 cs)
    (hu : P.underlying t = some d) (hd : d.isRow = true) (hi : (P.info? t).map (·.size) = some cs.length) (h : wpQuiet P ops C Q rest (a.put o.dst (gv g0 (.agg cs.toArray)))) : wpQuiet P ops C Q (o :: rest) a :=
  wpQuiet_lift hw (fun e => quiet_ld ho hx hr hu hd hi) h
end

end Go.Proofs.Ytcbadcbahmclpaa
