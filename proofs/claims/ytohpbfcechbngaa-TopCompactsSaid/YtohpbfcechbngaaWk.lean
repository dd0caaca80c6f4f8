/- Walks over blocks that are known whole. -/
import Derived.Test.YtohpbfcechbngaaLib
import Derived.Test.YtohpbfcechbngaaSl
import Derived.Test.YtohpbfcechbngaaTail
import Derived.Test.YtohpbfcechbngaaReg
import Derived.Deep.MidRow
import Derived.Deep.DeepCutAuto
set_option linter.unusedSimpArgs false
set_option linter.unusedVariables false
namespace Go.Proofs.Ytohpbfcechbngaa
open Go.RowKit

theorem name_wX {P : Program} {c : Code} {Q : Exit → Act → World → Prop} {a : Act} {w : World} (h : ∀ X, X = w → c.wp P Q a X) : c.wp P Q a w := h w rfl
/-- The block r of w holds these cells. -/
def Blk (w : World) (r : Nat) (T : TypeId) (cs : List Value) : Prop := w.heap[r]? = some (.cells cs.toArray T (0, 0))
theorem Blk.lt {w : World} {r : Nat} {T : TypeId} {cs : List Value} (h : Blk w r T cs) : LtD r w.heap.size := (Array.getElem?_eq_some_iff.1 h).1
theorem Blk.cell {w : World} {r : Nat} {T : TypeId} {cs : List Value} (h : Blk w r T cs) (j : Nat) : w.cell? ⟨r, j, none⟩ = cs[j]? := by
  rw [cell_of_row w r j _ _ _ h]
  simp
theorem Blk.frozen {w : World} {r : Nat} {T : TypeId} {cs : List Value} (h : Blk w r T cs) (j : Nat) : w.frozen? ⟨r, j, none⟩ = false := frozen_of_row w r j _ _ h
theorem Blk.kept {w w' : World} {r : Nat} {T : TypeId} {cs : List Value} {k : Option Nat} (h : Blk w r T cs) (hg : w.grownBy w' k) (hk : some r ≠ k) : Blk w' r T cs := (hg.block r h.lt hk).trans h
theorem Blk.ext {w w' : World} {r : Nat} {T : TypeId} {cs : List Value} (h : Blk w r T cs) (hE : Ext w w') : Blk w' r T cs := (hE.below.block r h.lt).trans h
theorem Blk.newAt {w : World} {r : Nat} {T : TypeId} {cs : List Value} (hr : r = w.heap.size) : Blk (w.alloc (.cells cs.toArray T)) r T cs := by subst hr; exact heap_alloc_new w _
theorem Blk.alloc {w : World} {r : Nat} {T : TypeId} {cs : List Value} (h : Blk w r T cs) (o : Obj) : Blk (w.alloc o) r T cs := by
  unfold Blk World.alloc at *
  have hl : r < w.heap.size := (Array.getElem?_eq_some_iff.1 h).1
  simp only [Array.getElem?_push]
  rw [if_neg (by omega)]
  exact h
theorem Blk.wx {w : World} {r : Nat} {T : TypeId} {cs : List Value} (h : Blk w r T cs) (os : Array Obj) (n : Nat) : Blk (wext w os n) r T cs := h.ext ⟨os, n, rfl⟩
theorem Blk.dr {w : World} {r : Nat} {T : TypeId} {cs : List Value} (h : Blk w r T cs) : Blk w.drew r T cs := h
theorem Blk.set {w : World} {r : Nat} {T : TypeId} {cs : List Value} (h : Blk w r T cs) (j : Nat) (u : Value) : Blk (w.setCell ⟨r, j, none⟩ u) r T (cs.set j u) := by
  unfold Blk
  rw [heap_setCell_same w r j _ _ u h]
  simp
theorem Blk.range {w : World} {r : Nat} {T : TypeId} {cs : List Value} (h : Blk w r T cs) : w.rangeAt r 0 cs := by
  intro j v hv
  rw [Nat.zero_add, h.cell j, hv]
theorem Blk.rangeIn {w : World} {r : Nat} {T : TypeId} {cs : List Value} (h : Blk w r T cs) (o : Nat) (xs : List Value) (hx : ∀ j, j < xs.length → cs[o + j]? = xs[j]?) : w.rangeAt r o xs := by
  intro j v hv
  have hj : j < xs.length := (List.getElem?_eq_some_iff.1 hv).1
  rw [h.cell (o + j), hx j hj, hv]
theorem Blk.g {w : World} {r : Nat} {T : TypeId} {cs : List Value} (h : Blk w r T cs) (g : Grow) : (wext w g.os g.n).rangeAt r 0 cs := (h.ext ⟨g.os, g.n, rfl⟩).range
theorem rangeAt.ext {w w' : World} {g o : Nat} {cs : List Value} (h : w.rangeAt g o cs) (hg : g < w.heap.size) (hE : Ext w w') : w'.rangeAt g o cs := by
  intro j v hv
  exact (hE.below.cell (p := ⟨g, o + j, none⟩) hg).trans (h j v hv)
theorem rangeAt.g {w : World} {g o : Nat} {cs : List Value} (h : w.rangeAt g o cs) (hg : g < w.heap.size) (gz : Grow) : (wext w gz.os gz.n).rangeAt g o cs := rangeAt.ext h hg ⟨gz.os, gz.n, rfl⟩
theorem grown_set (w : World) (r i : Nat) (u : Value) : w.grownBy (w.setCell ⟨r, i, none⟩ u) (some r) :=
  ⟨rfl, rfl, rfl, by simp, fun k _ hk => heap_setCell_other w ⟨r, i, none⟩ k u (fun e => hk (by simp [e]))⟩
theorem grown_ext {w w' : World} (h : Ext w w') (k : Option Nat) : w.grownBy w' k := by
  have := h.below
  exact ⟨this.os, this.tape, this.output, this.size, fun j hj _ => this.block j hj⟩
theorem grown_trans {a b c : World} {k : Option Nat} (h : a.grownBy b k) (h' : b.grownBy c k) : a.grownBy c k :=
  ⟨h'.os.trans h.os, h'.tape.trans h.tape, h'.output.trans h.output, Nat.le_trans h.size h'.size, fun j hj hk => (h'.block j (Nat.lt_of_lt_of_le hj h.size) hk).trans (h.block j hj hk)⟩
theorem ext_grow {w X Y : World} {k : Option Nat} (hE : Ext w X) (hg : X.grownBy Y k) (hk : ∀ r, k = some r → w.heap.size ≤ r) : Ext w Y :=
  Ext.of_below (hE.below.trans (below_of_grown hg hE.below.size hk))
theorem ext_set {w X : World} {r i : Nat} {u : Value} (hE : Ext w X) (hr : w.heap.size ≤ r) : Ext w (X.setCell ⟨r, i, none⟩ u) :=
  ext_grow hE (grown_set X r i u) (fun k hk => by cases hk; exact hr)

section
variable {P : Program} {C : World → Prop} {ops : Array Oper} {Q : Act → Prop} {rest : List Oper} {a : Act} {o : Oper}
theorem quiet_ld {t : TypeId} {n b off : Nat} {cs : List Value} {d : TypeDesc} (ho : o.op = .load t (.tmp n)) (hx : a.tmps.toList[n]? = some (.pointer (some ⟨b, off, none⟩))) (hr : ∀ w, C w → w.rangeAt b off cs)
    (hu : P.underlying t = some d) (hd : d.isRow = true) (hi : (P.info? t).map (·.size) = some cs.length) : ∀ w, C w → o.quietAt P a C w (.agg cs.toArray) := by
  intro w hw
  have hx' : a.eval (.tmp n) = .pointer (some ⟨b, off, none⟩) := ev_tmp (by rw [← Array.getElem?_toList]; exact hx)
  unfold Oper.quietAt execOp
  simp only [ho, hx', Sem.run_bind, run_loadAt_mid w b off t cs d (hr w hw) hu hd hi]
  exact ⟨rfl, rfl⟩
theorem wpQuiet_ld {t : TypeId} {n b off : Nat} {cs : List Value} {d : TypeDesc} (hg : o.guard = none) (ho : o.op = .load t (.tmp n)) (hx : a.tmps.toList[n]? = some (.pointer (some ⟨b, off, none⟩))) (hr : ∀ w, C w → w.rangeAt b off cs)
    (hu : P.underlying t = some d) (hd : d.isRow = true) (hi : (P.info? t).map (·.size) = some cs.length) (h : wpQuiet P ops C Q rest (a.put o.dst (.agg cs.toArray))) : wpQuiet P ops C Q (o :: rest) a := by
  refine wpQuiet_step fun K hK => ?_
  rw [if_pos (by unfold Region.wanted; rw [hg])]
  exact ⟨_, quiet_ld ho hx hr hu hd hi, hK _ h⟩
theorem exec_ld {op : Oper} {w : World} (ty : TypeId) (x : Operand) {b off : Nat} {cs : List Value} {d : TypeDesc} (ho : op.op = .load ty x) (hx : a.eval x = .pointer (some ⟨b, off, none⟩)) (hc : w.rangeAt b off cs)
    (hu : P.underlying ty = some d) (hd : d.isRow = true) (hi : (P.info? ty).map (·.size) = some cs.length) : (execOp a.eval op).run P w = .ok (.value (.agg cs.toArray)) w := by
  unfold execOp
  simp only [ho, hx, Instr.loadAt, Instr.sureAddr, Sem.run_bind, Sem.run_pure, Result.andThen_ok, run_loadVar_mid w b off ty cs d hc hu hd hi]
end

section
variable {P : Program} {fn : Func} {tm : Array Value} {w : World}
/-- A result that lies in a box. -/
def GivesC (P : Program) (tm : Array Value) (w : World) (s : Nat) (T : TypeId) (v : Value) : Prop := ∃ r cs d, tm.getD s undef = .pointer (some ⟨r, 0, none⟩) ∧ w.rangeAt r 0 cs ∧ P.underlying T = some d ∧ d.isRow = true ∧ (P.info? T).map (·.size) = some cs.length ∧ v = .agg cs.toArray
theorem GivesC.run {s : Nat} {T : TypeId} {v : Value} (h : GivesC P tm w s T v) : ∃ ad, (asAddr (tm[s]?.getD undef)).run P w = .ok ad w ∧ (loadVar T ad).run P w = .ok v w := by
  obtain ⟨r, cs, d, h1, h2, h3, h4, h5, rfl⟩ := h
  refine ⟨⟨r, 0, none⟩, ?_, run_loadVar_mid w r 0 T cs d h2 h3 h4 h5⟩
  rw [Array.getD_eq_getD_getElem?] at h1
  rw [h1]
  rfl
theorem GivesC.of {s r : Nat} {T : TypeId} {cs : List Value} {d : TypeDesc} (h : Blk w r T cs) (h1 : tm.getD s undef = .pointer (some ⟨r, 0, none⟩)) (h3 : P.underlying T = some d) (h4 : d.isRow = true) (h5 : (P.info? T).map (·.size) = some cs.length) : GivesC P tm w s T (.agg cs.toArray) := ⟨r, cs, d, h1, h.range, h3, h4, h5, rfl⟩
theorem res_c {s : Nat} {T : TypeId} {v : Value} (hr : fn.results = #[.cell s T]) (h : GivesC P tm w s T v) : (results fn tm).run P w = .ok v w := by
  obtain ⟨ad, h1, h2⟩ := h.run
  simp [results, hr, h1, h2]
theorem res_ct {s n : Nat} {T : TypeId} {v u : Value} (hr : fn.results = #[.cell s T, .tmp n]) (h : GivesC P tm w s T v) (hu : tm.getD n undef = u) : (results fn tm).run P w = .ok (.tuple #[v, u]) w := by
  obtain ⟨ad, h1, h2⟩ := h.run
  rw [Array.getD_eq_getD_getElem?] at hu
  simp [results, hr, h1, h2, hu]
theorem res_ccc {s s' s'' : Nat} {T T' T'' : TypeId} {v v' v'' : Value} (hr : fn.results = #[.cell s T, .cell s' T', .cell s'' T'']) (h : GivesC P tm w s T v) (h' : GivesC P tm w s' T' v') (h'' : GivesC P tm w s'' T'' v'') : (results fn tm).run P w = .ok (.tuple #[v, v', v'']) w := by
  obtain ⟨ad, h1, h2⟩ := h.run
  obtain ⟨ad', h3, h4⟩ := h'.run
  obtain ⟨ad'', h5, h6⟩ := h''.run
  simp [results, hr, h1, h2, h3, h4, h5, h6]
end
/-- A box is filled whole. -/
theorem Blk.fillFrom {r : Nat} {T : TypeId} : ∀ (cs : List Value) (w : World) (pre old : List Value), Blk w r T (pre ++ old) → old.length = cs.length → Blk (w.setCells r pre.length cs) r T (pre ++ cs) ∧ w.grownBy (w.setCells r pre.length cs) (some r)
  | [], w, pre, old, h, hl => by
    obtain rfl : old = [] := List.length_eq_zero_iff.1 hl
    exact ⟨h, grown_ext (Ext.refl w) _⟩
  | v :: cs, w, pre, old, h, hl => by
    cases old with
    | nil => simp at hl
    | cons u old =>
      have h1 := h.set pre.length v
      rw [List.set_append_right _ _ (Nat.le_refl _), Nat.sub_self, List.set_cons_zero] at h1
      have h2 : Blk (w.setCell ⟨r, pre.length, none⟩ v) r T ((pre ++ [v]) ++ old) := by simpa using h1
      have := Blk.fillFrom cs _ (pre ++ [v]) old h2 (by simpa using hl)
      rw [List.length_append, List.append_assoc] at this
      exact ⟨this.1, grown_trans (grown_set _ _ _ _) this.2⟩
theorem Blk.fill {w : World} {r : Nat} {T : TypeId} {old cs : List Value} (h : Blk w r T old) (hl : old.length = cs.length) : Blk (w.setCells r 0 cs) r T cs := (Blk.fillFrom cs w [] old h hl).1
theorem Blk.fillGrown {w : World} {r : Nat} {T : TypeId} {old cs : List Value} (h : Blk w r T old) (hl : old.length = cs.length) : w.grownBy (w.setCells r 0 cs) (some r) := (Blk.fillFrom cs w [] old h hl).2
theorem Blk.there {w : World} {r : Nat} {T : TypeId} {cs : List Value} (h : Blk w r T cs) {n : Nat} (hn : n = cs.length) : w.there r 0 n := fun j hj => by
  rw [Nat.zero_add, h.cell j, List.getElem?_eq_getElem (by omega)]
  exact ⟨rfl, h.frozen j⟩
theorem Blk.keptFill {w : World} {r r' : Nat} {T T' : TypeId} {old cs cs' : List Value} (h : Blk w r' T' cs') (hb : Blk w r T old) (hl : old.length = cs.length) (hne : r' ≠ r) : Blk (w.setCells r 0 cs) r' T' cs' :=
  h.kept (hb.fillGrown hl) (fun e => hne (by cases e; rfl))
theorem ext_fill {w X : World} {r : Nat} {T : TypeId} {old cs : List Value} (hE : Ext w X) (hb : Blk X r T old) (hl : old.length = cs.length) (hr : w.heap.size ≤ r) : Ext w (X.setCells r 0 cs) :=
  ext_grow hE (hb.fillGrown hl) (fun k hk => by cases hk; exact hr)
theorem rangeAt.kept {w w' : World} {g o : Nat} {cs : List Value} {k : Option Nat} (h : w.rangeAt g o cs) (hg : g < w.heap.size) (hw : w.grownBy w' k) (hk : some g ≠ k) : w'.rangeAt g o cs := by
  intro j v hv
  have := h j v hv
  rw [← this]
  exact World.cell?_of_block (a := ⟨g, o + j, none⟩) (hw.block g hg hk)
theorem name_wp {P : Program} {op : Oper} {a : Act} {w : World} {K : Act → World → Prop} {Q : Exit → Act → World → Prop} (h : ∀ X, X = w → op.wp P a X K Q) : op.wp P a w K Q := h w rfl
theorem wp_store_box {P : Program} {op : Oper} {a : Act} {W : World} {K : Act → World → Prop} {Q : Exit → Act → World → Prop} (T : TypeId) (x y : Operand) (ho : op.op = .store T x y)
    {r : Nat} {old cs : List Value} (b : Blk W r T old) (hx : a.eval x = .pointer (some ⟨r, 0, none⟩)) (hy : a.eval y = .agg cs.toArray)
    (hi : (P.info? T).map (·.size) = some cs.length) (h1 : cs.toArray.all (·.oneCell') = true) (hl : old.length = cs.length)
    (h : ∀ Y, W.grownBy Y (some r) → Blk Y r T cs → K (a.put op.dst undef) Y) : op.wp P a W K Q :=
  wp_store_mid T x y ho r 0 cs.toArray hx hy (b.there (by simp [hl])) (by simpa using hi) h1 (h _ (b.fillGrown hl) (b.fill hl))
/-- w is X grown, but for the blocks of L, which may hold anything. -/
structure GrownX (X : World) (L : List Nat) (w : World) : Prop where
  os : w.os = X.os
  tape : w.tape = X.tape
  output : w.output = X.output
  size : X.heap.size ≤ w.heap.size
  block : ∀ b, b < X.heap.size → L.contains b = false → w.heap[b]? = X.heap[b]?
theorem GrownX.of_ext {X w : World} {L : List Nat} (h : Ext X w) : GrownX X L w := by
  have := h.below
  exact ⟨this.os, this.tape, this.output, this.size, fun b hb _ => this.block b hb⟩
theorem GrownX.ext {X w w' : World} {L : List Nat} (h : GrownX X L w) (hE : Ext w w') : GrownX X L w' := by
  have := hE.below
  exact ⟨this.os.trans h.os, this.tape.trans h.tape, this.output.trans h.output, Nat.le_trans h.size this.size, fun b hb hn => (this.block b (Nat.lt_of_lt_of_le hb h.size)).trans (h.block b hb hn)⟩
theorem GrownX.step {X w w' : World} {L : List Nat} {r : Nat} (h : GrownX X L w) (hg : w.grownBy w' (some r)) (hr : L.contains r = true) : GrownX X L w' :=
  ⟨hg.os.trans h.os, hg.tape.trans h.tape, hg.output.trans h.output, Nat.le_trans h.size hg.size, fun b hb hn => (hg.block b (Nat.lt_of_lt_of_le hb h.size) (fun e => by cases e; rw [hr] at hn; cases hn)).trans (h.block b hb hn)⟩
theorem GrownX.blk {X w : World} {L : List Nat} {r : Nat} {T : TypeId} {cs : List Value} (h : GrownX X L w) (b : Blk X r T cs) (hn : L.contains r = false) : Blk w r T cs := (h.block r b.lt hn).trans b
theorem GrownX.range {X w : World} {L : List Nat} {g o : Nat} {cs : List Value} (h : GrownX X L w) (b : X.rangeAt g o cs) (hg : g < X.heap.size) (hn : L.contains g = false) : w.rangeAt g o cs := by
  intro j v hv
  have := b j v hv
  rw [← this]
  exact World.cell?_of_block (a := ⟨g, o + j, none⟩) (h.block g hg hn)
theorem GrownX.cell {X w : World} {L : List Nat} {g j : Nat} {v : Value} (h : GrownX X L w) (b : X.cell? ⟨g, j, none⟩ = some v) (hg : g < X.heap.size) (hn : L.contains g = false) : w.cell? ⟨g, j, none⟩ = some v := by
  rw [← b]
  exact World.cell?_of_block (a := ⟨g, j, none⟩) (h.block g hg hn)
theorem wp_region_S {P : Program} {ops : Array Oper} {Q : Exit → Act → World → Prop} (S : World → Prop) {id : Nat} {a : Act} {w : World} (hm : P.follows .mixedOrders = true)
    (h : wpAnyD P .any ops Q S (fun _ => true) ops.size (Array.replicate ops.size false) a w.drew) : (Code.region id ops true).wp P Q a w :=
  wp_region_any hm (wpAny_of_D _ _ _ _ h)
theorem name_wl {P : Program} {ops : Array Oper} {Q : Exit → Act → World → Prop} {l : List Oper} {a : Act} {w : World} (h : ∀ X, X = w → wpList P ops Q l a X) : wpList P ops Q l a w := h w rfl
theorem name_wd {P : Program} {md : Region.Mode} {ops : Array Oper} {Q : Exit → Act → World → Prop} {S : World → Prop} {e : Nat → Bool} {fuel : Nat} {listed : Array Bool} {a : Act} {w : World} (h : ∀ X, X = w → wpAnyD P md ops Q S e fuel listed a X) : wpAnyD P md ops Q S e fuel listed a w := h w rfl
theorem GrownX.refl (X : World) (L : List Nat) : GrownX X L X := ⟨rfl, rfl, rfl, Nat.le_refl _, fun _ _ _ => rfl⟩
theorem GrownX.stepNew {X w w' : World} {L : List Nat} {r : Nat} (h : GrownX X L w) (hg : w.grownBy w' (some r)) (hr : X.heap.size ≤ r) : GrownX X L w' :=
  ⟨hg.os.trans h.os, hg.tape.trans h.tape, hg.output.trans h.output, Nat.le_trans h.size hg.size, fun b hb hn => (hg.block b (Nat.lt_of_lt_of_le hb h.size) (fun e => by cases e; omega)).trans (h.block b hb hn)⟩
theorem ext_alloc (w : World) (o : Obj) : Ext w (w.alloc o) := Ext.of_below ((Below.refl _ _).alloc (Nat.le_refl _) o)
theorem ext_drew (w : World) : Ext w w.drew := Ext.of_below (Below.refl _ _).drew
theorem size_alloc (w : World) (o : Obj) : (w.alloc o).heap.size = w.heap.size + 1 := by simp
theorem wp_ld {P : Program} {op : Oper} {a : Act} {W : World} {K : Act → World → Prop} {Q : Exit → Act → World → Prop} (T : TypeId) (x : Operand) {b off : Nat} {cs : List Value} {d : TypeDesc} (hc : W.rangeAt b off cs) (ho : op.op = .load T x) (hx : a.eval x = .pointer (some ⟨b, off, none⟩))
    (hu : P.underlying T = some d) (hd : d.isRow = true) (hi : (P.info? T).map (·.size) = some cs.length) (h : K (a.put op.dst (.agg cs.toArray)) W) : op.wp P a W K Q :=
  wp_load_mid T x ho b off hx cs d hc hu hd hi h

end Go.Proofs.Ytohpbfcechbngaa
