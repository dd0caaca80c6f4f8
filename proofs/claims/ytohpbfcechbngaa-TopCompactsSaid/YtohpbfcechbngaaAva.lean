/- Data that nobody changes, variables and rows of one's own: what a call's memory means. -/
import Derived.Test.YtohpbfcechbngaaWk
import Derived.Maps.AppendAt
import Derived.Deep.Upon
import Derived.RangeFuncLeaves
import Derived.RangeFuncNested
import Derived.RangeFuncCalls
import Derived.TacticsIn
import Derived.OrdersIn
import Derived.LoopIn
set_option linter.unusedSimpArgs false
set_option linter.unusedVariables false
namespace Go.Proofs.Ytohpbfcechbngaa
open Go.RowKit

/-- Every function may be called; the frame is a function's (none) or a round's. -/
def FR (ro : Option Nat) : Fence := { Fence.wide with round := ro }
theorem FR.fn (ro : Option Nat) (f : FuncId) : (FR ro).fn f := trivial
theorem FR.room (ro : Option Nat) (k : Nat) : (FR ro).room k := room_wide k
/-- From here on code, operations, one operation come to what Q says. -/
def Wp (P : Program) (ro : Option Nat) (c : Code) (Q : Exit → Act → World → Prop) (a : Act) (w : World) : Prop := c.wpIn (FR ro) 0 P Q a w
def WL (P : Program) (ro : Option Nat) (ops : Array Oper) (Q : Exit → Act → World → Prop) (l : List Oper) (a : Act) (w : World) : Prop := wpListIn (FR ro) 0 P ops Q l a w
def WO (P : Program) (ro : Option Nat) (o : Oper) (a : Act) (w : World) (K : Act → World → Prop) (Q : Exit → Act → World → Prop) : Prop := o.wpIn (FR ro) 0 P a w K Q
theorem WO.of {P : Program} {ro : Option Nat} {o : Oper} {a : Act} {w : World} {K : Act → World → Prop} {Q : Exit → Act → World → Prop} (hnd : ∀ c, o.op ≠ .defer c) (h : o.uponIn (FR ro) 0 P a K Q ((execOp a.eval o).run P w)) : WO P ro o a w K Q := by
  refine ⟨fun f _ => trivial, ?_⟩
  have : (FR ro).round = ro := rfl
  rw [this]
  cases ro with
  | none => exact h
  | some l => rw [Oper.semAt_some l a.eval o hnd]; exact h
section
variable {P : Program} {ro : Option Nat} {ops : Array Oper} {Q : Exit → Act → World → Prop} {a : Act} {w : World} {rest : List Oper} {o : Oper}
theorem WL.plain (hg : o.guard = none) (h : ∀ K : Act → World → Prop, (∀ a w, WL P ro ops Q rest a w → K a w) → WO P ro o a w K Q) : WL P ro ops Q (o :: rest) a w := wpListIn_plain hg h
theorem WL.yes (hw : Region.wanted o (yielded ops a.tmps) = true) (h : WO P ro o a w (WL P ro ops Q rest) Q) : WL P ro ops Q (o :: rest) a w := by
  unfold WL wpListIn
  rw [if_pos hw]
  exact h
theorem WL.no (hw : ¬ Region.wanted o (yielded ops a.tmps) = true) (h : WL P ro ops Q rest (a.put o.dst undef) w) : WL P ro ops Q (o :: rest) a w := by
  unfold WL wpListIn
  rw [if_neg hw]
  exact ⟨fun _ _ => trivial, h⟩
theorem WL.inv (hg : o.guard = none) (h : WL P ro ops Q (o :: rest) a w) : WO P ro o a w (WL P ro ops Q rest) Q := by
  unfold WL wpListIn at h
  rw [if_pos (by unfold Region.wanted; rw [hg])] at h
  exact h
/-- Operation i alone. -/
def WOp (P : Program) (ro : Option Nat) (ops : Array Oper) (Q : Exit → Act → World → Prop) (i : Nat) (K : Act → World → Prop) (a : Act) (w : World) : Prop := wpOpIn (FR ro) 0 P ops Q i K a w
theorem WOp.yes {i : Nat} {K : Act → World → Prop} (ho : ops[i]? = some o) (hw : Region.wanted o (yielded ops a.tmps) = true) (h : WO P ro o a w K Q) : WOp P ro ops Q i K a w := by
  unfold WOp wpOpIn
  simp only [ho]
  rw [if_pos hw]
  exact h
theorem WOp.no {i : Nat} {K : Act → World → Prop} (ho : ops[i]? = some o) (hw : ¬ Region.wanted o (yielded ops a.tmps) = true) (h : K (a.put o.dst undef) w) : WOp P ro ops Q i K a w := by
  unfold WOp wpOpIn
  simp only [ho]
  rw [if_neg hw]
  exact ⟨fun _ _ => trivial, h⟩
theorem Wp.mono {c : Code} {Q' : Exit → Act → World → Prop} (h : Wp P ro c Q a w) (hq : ∀ e a w, Q e a w → Q' e a w) : Wp P ro c Q' a w := wpIn_mono h hq
/-- A loop whose measure the proof bears. -/
theorem Wp.loopG {c : Code} (I : Nat → Act → World → Prop) (n₀ : Nat) (h₀ : I n₀ a w) (round : ∀ n a w, I n a w → Wp P ro c (Exit.then (fun a' w' => ∃ n', n' < n ∧ I n' a' w') Q) a w) : Wp P ro (Code.loop c) Q a w := by
  refine wpIn_loop (fun a w => ∃ n, I n a w) (fun a w => leastOf (fun n => I n a w)) ⟨n₀, h₀⟩ ?_
  intro a w hI
  refine wpIn_mono (round _ a w (leastOf_spec hI).1) ?_
  intro e a' w' hq
  cases e with
  | normal =>
    obtain ⟨n', hlt, hI'⟩ := hq
    exact show (∃ n, I n a' w') ∧ leastOf (fun n => I n a' w') < leastOf (fun n => I n a w) from ⟨⟨n', hI'⟩, Nat.lt_of_le_of_lt ((leastOf_spec ⟨n', hI'⟩).2 n' hI') hlt⟩
  | exit id => exact hq
  | goto l => exact hq
  | ret => exact hq
  | panic ch => exact hq
  | outgrown => exact hq
end
/-- From w to w' nothing has changed but blocks of m. -/
structure ExtM (m : Nat → Prop) (w w' : World) : Prop where
  os : w'.os = w.os
  tape : w'.tape = w.tape
  output : w'.output = w.output
  size : w.heap.size ≤ w'.heap.size
  blk : ∀ r, r < w.heap.size → ¬ m r → w'.heap[r]? = w.heap[r]?
theorem ExtM.refl (m : Nat → Prop) (w : World) : ExtM m w w := ⟨rfl, rfl, rfl, Nat.le_refl _, fun _ _ _ => rfl⟩
theorem ExtM.step {m m' : Nat → Prop} {w W W' : World} (h : ExtM m w W) (h' : ExtM m' W W') (hm : ∀ r, m' r → w.heap.size ≤ r ∨ m r) : ExtM m w W' :=
  ⟨h'.os.trans h.os, h'.tape.trans h.tape, h'.output.trans h.output, Nat.le_trans h.size h'.size, fun r hr hn => (h'.blk r (Nat.lt_of_lt_of_le hr h.size) (fun e => by rcases hm r e with h1 | h1; omega; exact hn h1)).trans (h.blk r hr hn)⟩
theorem ExtM.grow {m : Nat → Prop} {w W W' : World} {k : Option Nat} (h : ExtM m w W) (hg : W.grownBy W' k) (hk : ∀ r, k = some r → w.heap.size ≤ r ∨ m r) : ExtM m w W' :=
  h.step (m' := fun r => k = some r) ⟨hg.os, hg.tape, hg.output, hg.size, fun r hr hn => hg.block r hr (fun e => hn e.symm)⟩ hk
theorem ExtM.trans {m : Nat → Prop} {w W W' : World} (h : ExtM m w W) (hE : Ext W W') : ExtM m w W' := h.grow (grown_ext hE none) (fun r e => by cases e)
theorem ExtM.of_ext {m : Nat → Prop} {w W : World} (hE : Ext w W) : ExtM m w W := (ExtM.refl m w).trans hE
theorem ExtM.ext {w W : World} (h : ExtM (fun _ => False) w W) : Ext w W := Ext.of_below ⟨h.os, h.tape, h.output, h.size, fun r hr => h.blk r hr id⟩

/-- Plain data: a value without memory, a slice as the list of its rows, a struct as its cells, several results, a pointer into a row, a function value. -/
inductive D where
  | s (v : Value)
  | l (rows : List (List D))
  | st (cells : List D)
  | tup (vs : List D)
  | pe (row : List D) (off : Nat)
  | fn (K : Nat) (caps : List D)

mutual
/-- The value v means x in w; no block of 'own' has a part in it. -/
inductive RD (own : Nat → Prop) (W : World) : Value → D → Prop
  | s {v : Value} (h : v.oneCell' = true) : RD own W v (.s v)
  | nl {a : Option Addr} {c : Nat} : RD own W (.slice a 0 c) (.l [])
  | l {r o n c m : Nat} {rows : List (List D)} (f : Nat → List Value) (hn : n = rows.length) (hc : n ≤ c) (hm : c ≤ maxLen) (hr : r < W.heap.size) (ho : ¬ own r) (h1 : ∀ (i : Nat) (row : List D), rows[i]? = some row → row.length = m)
      (h2 : ∀ (i : Nat) (row : List D), rows[i]? = some row → W.rangeAt r (o + i * m) (f i)) (h3 : ∀ (i : Nat) (row : List D), rows[i]? = some row → RL own W (f i) row) : RD own W (.slice (some ⟨r, o, none⟩) n c) (.l rows)
  | st {vs : List Value} {ds : List D} (h : RL own W vs ds) : RD own W (.agg vs.toArray) (.st ds)
  | tup {vs : List Value} {ds : List D} (h : RL own W vs ds) : RD own W (.tuple vs.toArray) (.tup ds)
  | pe {r o off : Nat} {vs : List Value} {row : List D} (hr : r < W.heap.size) (ho : ¬ own r) (h1 : W.rangeAt r o vs) (h2 : RL own W vs row) : RD own W (.pointer (some ⟨r, o + off, none⟩)) (.pe row off)
  | fn {K : Nat} {vs : List Value} {ds : List D} (h : RL own W vs ds) : RD own W (.func (.func K) #[] vs.toArray) (.fn K ds)
inductive RL (own : Nat → Prop) (W : World) : List Value → List D → Prop
  | nil : RL own W [] []
  | cons {v : Value} {d : D} {vs : List Value} {ds : List D} (h : RD own W v d) (t : RL own W vs ds) : RL own W (v :: vs) (d :: ds)
end

/-- From W to W' nothing but blocks of 'own' has changed; own' has no old block that own had not. -/
structure Keeps (own own' : Nat → Prop) (W W' : World) : Prop where
  rg : ∀ r, r < W.heap.size → ¬ own r → ∀ (o : Nat) (vs : List Value), W.rangeAt r o vs → W'.rangeAt r o vs
  size : W.heap.size ≤ W'.heap.size
  own : ∀ r, r < W.heap.size → own' r → own r

theorem rangeAt.keeps {W W' : World} {r o : Nat} {vs : List Value} (h : W.rangeAt r o vs) (hb : W'.heap[r]? = W.heap[r]?) : W'.rangeAt r o vs := by
  intro j v hv
  rw [← h j v hv]
  exact World.cell?_of_block (a := ⟨r, o + j, none⟩) hb

theorem Keeps.of {own own' : Nat → Prop} {W W' : World} (hb : ∀ r, r < W.heap.size → ¬ own r → W'.heap[r]? = W.heap[r]?) (hs : W.heap.size ≤ W'.heap.size) (ho : ∀ r, r < W.heap.size → own' r → own r) : Keeps own own' W W' := ⟨fun r hr hn _ _ h => rangeAt.keeps h (hb r hr hn), hs, ho⟩
mutual
theorem RD.keeps {own own' : Nat → Prop} {W W' : World} (k : Keeps own own' W W') : ∀ {v : Value} {x : D}, RD own W v x → RD own' W' v x
  | _, _, .s h => .s h
  | _, _, .nl => .nl
  | _, _, .l f hn hc hm hr ho h1 h2 h3 => .l f hn hc hm (Nat.lt_of_lt_of_le hr k.size) (fun h => ho (k.own _ hr h)) h1 (fun i row hi => k.rg _ hr ho _ _ (h2 i row hi)) (fun i row hi => RL.keeps k (h3 i row hi))
  | _, _, .st h => .st (RL.keeps k h)
  | _, _, .tup h => .tup (RL.keeps k h)
  | _, _, .pe hr ho h1 h2 => .pe (Nat.lt_of_lt_of_le hr k.size) (fun h => ho (k.own _ hr h)) (k.rg _ hr ho _ _ h1) (RL.keeps k h2)
  | _, _, .fn h => .fn (RL.keeps k h)
theorem RL.keeps {own own' : Nat → Prop} {W W' : World} (k : Keeps own own' W W') : ∀ {vs : List Value} {ds : List D}, RL own W vs ds → RL own' W' vs ds
  | _, _, .nil => .nil
  | _, _, .cons h t => .cons (RD.keeps k h) (RL.keeps k t)
end

theorem RL.len {own : Nat → Prop} {W : World} : ∀ {vs : List Value} {ds : List D}, RL own W vs ds → vs.length = ds.length
  | _, _, .nil => rfl
  | _, _, .cons h t => by simp only [List.length_cons]; rw [RL.len t]
theorem RL.get {own : Nat → Prop} {W : World} : ∀ {vs : List Value} {ds : List D} (h : RL own W vs ds) (i : Nat) (d : D), ds[i]? = some d → ∃ v, vs[i]? = some v ∧ RD own W v d
  | _, _, .nil, i, d, hd => by simp at hd
  | _, _, .cons h t, 0, d, hd => by
    simp only [List.getElem?_cons_zero, Option.some.injEq] at hd
    subst hd
    exact ⟨_, rfl, h⟩
  | _, _, .cons h t, i + 1, d, hd => by
    simp only [List.getElem?_cons_succ] at hd ⊢
    exact RL.get t i d hd
theorem RL.app {own : Nat → Prop} {W : World} : ∀ {vs vs' : List Value} {ds ds' : List D}, RL own W vs ds → RL own W vs' ds' → RL own W (vs ++ vs') (ds ++ ds')
  | _, _, _, _, .nil, h => h
  | _, _, _, _, .cons h t, h' => .cons h (RL.app t h')
theorem RL.take {own : Nat → Prop} {W : World} : ∀ {vs : List Value} {ds : List D} (n : Nat), RL own W vs ds → RL own W (vs.take n) (ds.take n)
  | _, _, n, .nil => by simp only [List.take_nil]; exact .nil
  | _, _, 0, .cons h t => .nil
  | _, _, n + 1, .cons h t => .cons h (RL.take n t)
theorem RL.drop {own : Nat → Prop} {W : World} : ∀ {vs : List Value} {ds : List D} (n : Nat), RL own W vs ds → RL own W (vs.drop n) (ds.drop n)
  | _, _, n, .nil => by simp only [List.drop_nil]; exact .nil
  | _, _, 0, .cons h t => .cons h t
  | _, _, n + 1, .cons h t => RL.drop n t

/-- What a slot may hold: data; a pointer into a block of one's own; a row of one's own; a part of such a row; a struct, a function value that hold such; what holds only if a test says so; anything. -/
inductive AV where
  | d (x : D)
  | p (b off : Nat)
  | o (b n : Nat)
  | vw (b off n : Nat) (f : Bool)
  | st (cells : List AV)
  | tup (cells : List AV)
  | fn (K : Nat) (caps : List AV)
  | gd (t want : Bool) (x : AV)
  | any
abbrev AV.e (row : List D) (off : Nat) : AV := .d (.pe row off)

/-- Where one's own blocks lie, and the slices that stand for them. -/
structure Env where
  A : Nat → Nat
  V : Nat → Value
  nl : Nat → Bool

mutual
inductive RA (E : Env) (dm : Nat → Prop) (own : Nat → Prop) (W : World) : Value → AV → Prop
  | d {v : Value} {x : D} (h : RD own W v x) : RA E dm own W v (.d x)
  | p {b off : Nat} (hb : dm b) (hn : E.nl b = false) : RA E dm own W (.pointer (some ⟨E.A b, off, none⟩)) (.p b off)
  | o {b n c : Nat} {p : Option Addr} (hb : dm b) (hv : E.V b = .slice p n c) : RA E dm own W (.slice p n c) (.o b n)
  | vw {b off n c : Nat} {f : Bool} (hb : dm b) (hn : E.nl b = false) (hc : n ≤ c) (hm : c ≤ maxLen) (h0 : f = true → off = 0 → ∀ q m d, E.V b = .slice q m d → c = d) : RA E dm own W (.slice (some ⟨E.A b, off, none⟩) n c) (.vw b off n f)
  | st {vs : List Value} {cs : List AV} (h : RAL E dm own W vs cs) : RA E dm own W (.agg vs.toArray) (.st cs)
  | tup {vs : List Value} {cs : List AV} (h : RAL E dm own W vs cs) : RA E dm own W (.tuple vs.toArray) (.tup cs)
  | fn {K : Nat} {vs : List Value} {cs : List AV} (h : RAL E dm own W vs cs) : RA E dm own W (.func (.func K) #[] vs.toArray) (.fn K cs)
  | gd {v : Value} {t want : Bool} {x : AV} (h : t = want → RA E dm own W v x) (h' : ¬ t = want → v = undef) : RA E dm own W v (.gd t want x)
  | any {v : Value} : RA E dm own W v .any
inductive RAL (E : Env) (dm : Nat → Prop) (own : Nat → Prop) (W : World) : List Value → List AV → Prop
  | nil : RAL E dm own W [] []
  | cons {v : Value} {d : AV} {vs : List Value} {ds : List AV} (h : RA E dm own W v d) (t : RAL E dm own W vs ds) : RAL E dm own W (v :: vs) (d :: ds)
end

/-- The new Env says of the old numbers what the old one said. -/
structure Env.le (dm : Nat → Prop) (E E' : Env) : Prop where
  A : ∀ b, dm b → E'.A b = E.A b
  V : ∀ b, dm b → E'.V b = E.V b
  nl : ∀ b, dm b → E'.nl b = E.nl b
theorem Env.le.refl (dm : Nat → Prop) (E : Env) : Env.le dm E E := ⟨fun _ _ => rfl, fun _ _ => rfl, fun _ _ => rfl⟩
def Env.set (E : Env) (b : Nat) (a : Nat) (v : Value) (n : Bool) : Env := ⟨fun k => if k = b then a else E.A k, fun k => if k = b then v else E.V k, fun k => if k = b then n else E.nl k⟩
theorem Env.le_set {dm : Nat → Prop} (E : Env) {b : Nat} (hb : ¬ dm b) (a : Nat) (v : Value) (n : Bool) : Env.le dm E (E.set b a v n) := by
  have hne : ∀ k, dm k → k ≠ b := fun k hk e => hb (by rw [← e]; exact hk)
  exact ⟨fun k hk => by simp only [Env.set, if_neg (hne k hk)], fun k hk => by simp only [Env.set, if_neg (hne k hk)], fun k hk => by simp only [Env.set, if_neg (hne k hk)]⟩
theorem Env.set_A (E : Env) (b a : Nat) (v : Value) (n : Bool) : (E.set b a v n).A b = a := by simp [Env.set]
theorem Env.set_V (E : Env) (b a : Nat) (v : Value) (n : Bool) : (E.set b a v n).V b = v := by simp [Env.set]
theorem Env.set_nl (E : Env) (b a : Nat) (v : Value) (n : Bool) : (E.set b a v n).nl b = n := by simp [Env.set]

mutual
theorem RA.keeps {E E' : Env} {dm dm' : Nat → Prop} {own own' : Nat → Prop} {W W' : World} (k : Keeps own own' W W') (hE : Env.le dm E E') (hn : ∀ b, dm b → dm' b) : ∀ {v : Value} {x : AV}, RA E dm own W v x → RA E' dm' own' W' v x
  | _, _, .d h => .d (h.keeps k)
  | _, .p b off, .p hb hnl => by
    have := RA.p (E := E') (own := own') (W := W') (off := off) (hn _ hb) (by rw [hE.nl b hb]; exact hnl)
    rw [hE.A b hb] at this
    exact this
  | _, _, .o hb hv => .o (hn _ hb) (by rw [hE.V _ hb]; exact hv)
  | _, .vw b off n f, .vw hb hnl hc hm h0 => by
    have := RA.vw (E := E') (own := own') (W := W') (off := off) (hn _ hb) (by rw [hE.nl b hb]; exact hnl) hc hm (by rw [hE.V b hb]; exact h0)
    rw [hE.A b hb] at this
    exact this
  | _, _, .st h => .st (RAL.keeps k hE hn h)
  | _, _, .tup h => .tup (RAL.keeps k hE hn h)
  | _, _, .fn h => .fn (RAL.keeps k hE hn h)
  | _, _, .gd h h' => .gd (fun e => RA.keeps k hE hn (h e)) h'
  | _, _, .any => .any
theorem RAL.keeps {E E' : Env} {dm dm' : Nat → Prop} {own own' : Nat → Prop} {W W' : World} (k : Keeps own own' W W') (hE : Env.le dm E E') (hn : ∀ b, dm b → dm' b) : ∀ {vs : List Value} {ds : List AV}, RAL E dm own W vs ds → RAL E' dm' own' W' vs ds
  | _, _, .nil => .nil
  | _, _, .cons h t => .cons (RA.keeps k hE hn h) (RAL.keeps k hE hn t)
end
section
variable {E : Env} {dm : Nat → Prop} {own : Nat → Prop} {W : World}
theorem RAL.len : ∀ {vs : List Value} {ds : List AV}, RAL E dm own W vs ds → vs.length = ds.length
  | _, _, .nil => rfl
  | _, _, .cons h t => by simp only [List.length_cons]; rw [RAL.len t]
theorem RAL.get : ∀ {vs : List Value} {ds : List AV} (h : RAL E dm own W vs ds) (i : Nat) (d : AV), ds[i]? = some d → ∃ v, vs[i]? = some v ∧ RA E dm own W v d
  | _, _, .nil, i, d, hd => by simp at hd
  | _, _, .cons h t, 0, d, hd => by
    simp only [List.getElem?_cons_zero, Option.some.injEq] at hd
    subst hd
    exact ⟨_, rfl, h⟩
  | _, _, .cons h t, i + 1, d, hd => by
    simp only [List.getElem?_cons_succ] at hd ⊢
    exact RAL.get t i d hd
theorem RAL.app : ∀ {vs vs' : List Value} {ds ds' : List AV}, RAL E dm own W vs ds → RAL E dm own W vs' ds' → RAL E dm own W (vs ++ vs') (ds ++ ds')
  | _, _, _, _, .nil, h => h
  | _, _, _, _, .cons h t, h' => .cons h (RAL.app t h')
theorem RAL.take : ∀ {vs : List Value} {ds : List AV} (n : Nat), RAL E dm own W vs ds → RAL E dm own W (vs.take n) (ds.take n)
  | _, _, n, .nil => by simp only [List.take_nil]; exact .nil
  | _, _, 0, .cons h t => .nil
  | _, _, n + 1, .cons h t => .cons h (RAL.take n t)
theorem RAL.drop : ∀ {vs : List Value} {ds : List AV} (n : Nat), RAL E dm own W vs ds → RAL E dm own W (vs.drop n) (ds.drop n)
  | _, _, n, .nil => by simp only [List.drop_nil]; exact .nil
  | _, _, 0, .cons h t => .cons h t
  | _, _, n + 1, .cons h t => RAL.drop n t
theorem RAL.set : ∀ {vs : List Value} {ds : List AV} (n : Nat) {v : Value} {d : AV}, RAL E dm own W vs ds → RA E dm own W v d → RAL E dm own W (vs.set n v) (ds.set n d)
  | _, _, n, _, _, .nil, _ => .nil
  | _, _, 0, _, _, .cons h t, h' => .cons h' t
  | _, _, n + 1, _, _, .cons h t, h' => .cons h (RAL.set n t h')
/-- Plain data again. -/
theorem RAL.map : ∀ {vs : List Value} {ds : List D}, RL own W vs ds → RAL E dm own W vs (ds.map .d)
  | _, _, .nil => .nil
  | _, _, .cons h t => .cons (.d h) (RAL.map t)
theorem RAL.unmap : ∀ {vs : List Value} {ds : List D}, RAL E dm own W vs (ds.map .d) → RL own W vs ds
  | _, [], .nil => .nil
  | _, _ :: _, .cons (.d h) t => .cons h (RAL.unmap t)
end

/-! ### The state of a walk -/
/-- What stands under the number n (the latest word). -/
def lk {α : Type} : List (Nat × α) → Nat → Option α
  | [], _ => none
  | (m, v) :: l, n => bif Nat.beq m n then some v else lk l n
theorem lk_self {α : Type} (n : Nat) (v : α) (l : List (Nat × α)) : lk ((n, v) :: l) n = some v := by simp [lk]
theorem lk_ne {α : Type} {m n : Nat} (v : α) (l : List (Nat × α)) (h : m ≠ n) : lk ((m, v) :: l) n = lk l n := by
  have : Nat.beq m n = false := by
    cases hb : Nat.beq m n with
    | false => rfl
    | true => exact absurd (Nat.eq_of_beq_eq_true hb) h
  simp [lk, this]
theorem lk_cons {α : Type} (m n : Nat) (v : α) (l : List (Nat × α)) : lk ((m, v) :: l) n = if m = n then some v else lk l n := by
  by_cases h : m = n
  · subst h; rw [lk_self, if_pos rfl]
  · rw [lk_ne _ _ h, if_neg h]
/-- One's own blocks: type and cells; none: given up. -/
abbrev Bs := List (Nat × Option (TypeId × List AV))
structure Cx where
  w : World
  o : Nat → Prop
  N : Nat
  m : Nat → Prop
  E0 : Env
  k : List Nat
/-- A function that was given data alone. -/
abbrev cx0 (w : World) (o : Nat → Prop) (N : Nat) : Cx := ⟨w, o, N, fun _ => False, { A := fun _ => 0, V := fun _ => .nilFunc, nl := fun _ => true }, []⟩
def dom (bs : Bs) (b : Nat) : Prop := ∃ o, lk bs b = some o
def live (E : Env) (bs : Bs) (b : Nat) : Prop := (∃ en, lk bs b = some (some en)) ∧ E.nl b = false
def ownS (E : Env) (o : Nat → Prop) (bs : Bs) (r : Nat) : Prop := o r ∨ ∃ b, live E bs b ∧ E.A b = r
theorem live.dom {E : Env} {bs : Bs} {b : Nat} (h : live E bs b) : dom bs b := let ⟨⟨en, h⟩, _⟩ := h; ⟨_, h⟩
theorem dom_cons {bs : Bs} {b : Nat} {o : Option (TypeId × List AV)} : ∀ k, dom bs k → dom ((b, o) :: bs) k := fun k ⟨x, h⟩ => by
  by_cases he : b = k
  · subst he; exact ⟨o, lk_self _ _ _⟩
  · exact ⟨x, by rw [lk_ne _ _ he]; exact h⟩
/-- The block of number b holds the cells cs, and perhaps more behind them. -/
def EnOk (P : Program) (E : Env) (dm own : Nat → Prop) (W : World) (b : Nat) (T : TypeId) (cs : List AV) : Prop :=
  (E.nl b = true ∧ cs = [] ∧ E.V b = .slice none 0 0) ∨
  (E.nl b = false ∧ ∃ vs sp m n c, Blk W (E.A b) T (vs ++ sp) ∧ RAL E dm own W vs cs ∧ (P.info? T).map (·.size) = some m ∧ E.V b = .slice (some ⟨E.A b, 0, none⟩) n c ∧ n ≤ c ∧ c ≤ maxLen ∧ vs.length = n * m ∧ (vs ++ sp).length = c * m)
/-- What the frame owes at its end: the rounds' blocks are to be shut. -/
def DfOk (q : Nat → Prop) (a : Act) (W : World) : Prop := ∃ Ds : List Nat, a.defers = Ds.map (fun D => { target := .collected D, args := #[] }) ∧ Ds.Nodup ∧ ∀ D ∈ Ds, q D ∧ W.heap[D]? = some (.deferred (some []))
theorem DfOk.nil {q : Nat → Prop} {a : Act} {W : World} (h : a.defers = []) : DfOk q a W := ⟨[], h, .nil, fun D h => by cases h⟩
theorem DfOk.grow {q : Nat → Prop} {a a' : Act} {W W' : World} {row : Option Nat} (h : DfOk q a W) (hg : W.grownBy W' row) (hr : ∀ r, row = some r → ∃ T cs, Blk W r T cs) (ha : a'.defers = a.defers) : DfOk q a' W' := by
  obtain ⟨Ds, h1, h2, h3⟩ := h
  refine ⟨Ds, ha.trans h1, h2, fun D hD => ⟨(h3 D hD).1, ?_⟩⟩
  have h4 := (h3 D hD).2
  rw [hg.block D (Array.getElem?_eq_some_iff.1 h4).1 (fun e => ?_)]
  · exact h4
  · obtain ⟨T, cs, hb⟩ := hr D e.symm
    have := hb
    unfold Blk at this
    rw [h4] at this
    simp at this
/-- The blocks of k lie where they lay. -/
structure EnK (k : List Nat) (E0 E : Env) (bs : Bs) : Prop where
  dk : ∀ b ∈ k, dom bs b
  A : ∀ b ∈ k, E.A b = E0.A b
  V : ∀ b ∈ k, E.V b = E0.V b
  nl : ∀ b ∈ k, E.nl b = E0.nl b
theorem EnK.step {k : List Nat} {E0 E E' : Env} {bs bs' : Bs} (h : EnK k E0 E bs) (hE : Env.le (dom bs) E E') (hd : ∀ b, dom bs b → dom bs' b) : EnK k E0 E' bs' :=
  ⟨fun b hb => hd b (h.dk b hb), fun b hb => (hE.A b (h.dk b hb)).trans (h.A b hb), fun b hb => (hE.V b (h.dk b hb)).trans (h.V b hb), fun b hb => (hE.nl b (h.dk b hb)).trans (h.nl b hb)⟩
theorem EnK.nil {E0 E : Env} {bs : Bs} : EnK [] E0 E bs := ⟨fun b h => (List.not_mem_nil h).elim, fun b h => (List.not_mem_nil h).elim, fun b h => (List.not_mem_nil h).elim, fun b h => (List.not_mem_nil h).elim⟩
structure HdE (P : Program) (X : Cx) (al : List (Nat × AV)) (bs : Bs) (E : Env) (a : Act) (W : World) : Prop where
  ext : ExtM X.m X.w W
  o0 : ∀ r, X.o r → r < X.w.heap.size ∧ ¬ X.m r
  df : DfOk (fun D => X.w.heap.size ≤ D ∨ X.m D) a W
  sz : a.tmps.size = X.N
  en : EnK X.k X.E0 E bs
  sl : ∀ n x, lk al n = some x → ∃ v, a.tmps[n]? = some v ∧ RA E (dom bs) (ownS E X.o bs) W v x
  bk : ∀ b T cs, lk bs b = some (some (T, cs)) → EnOk P E (dom bs) (ownS E X.o bs) W b T cs
  lo : ∀ b, live E bs b → X.w.heap.size ≤ E.A b ∨ X.m (E.A b)
  nd : ∀ b b', live E bs b → live E bs b' → E.A b = E.A b' → b = b'
/-- From every state of this kind on c holds. -/
def G (P : Program) (X : Cx) (al : List (Nat × AV)) (bs : Bs) (c : Act → World → Prop) : Prop := ∀ E a W, HdE P X al bs E a W → c a W

section
variable {P : Program} {X : Cx} {al : List (Nat × AV)} {bs : Bs} {E : Env} {a : Act} {W : World}
theorem EnOk.keeps {E' : Env} {dm dm' : Nat → Prop} {own own' : Nat → Prop} {W' : World} {b : Nat} {T : TypeId} {cs : List AV} (k : Keeps own own' W W') (hE : Env.le dm E E') (hn : ∀ b, dm b → dm' b) (hb : dm b) (hk : E.nl b = false → W'.heap[E.A b]? = W.heap[E.A b]?)
    (h : EnOk P E dm own W b T cs) : EnOk P E' dm' own' W' b T cs := by
  unfold EnOk at *
  rw [hE.nl b hb, hE.A b hb, hE.V b hb]
  rcases h with h | ⟨h0, vs, sp, m, n, c, h1, h2, h3⟩
  · exact .inl h
  · exact .inr ⟨h0, vs, sp, m, n, c, (hk h0).trans h1, h2.keeps k hE hn, h3⟩
theorem HdE.live_lt (h : HdE P X al bs E a W) {b : Nat} (hl : live E bs b) : E.A b < W.heap.size := by
  obtain ⟨⟨⟨T, cs⟩, he⟩, hn⟩ := hl
  rcases h.bk b T cs he with ⟨h1, _⟩ | ⟨_, vs, sp, m, n, c, h1, _⟩
  · rw [hn] at h1; cases h1
  · exact h1.lt
theorem HdE.blkOf (h : HdE P X al bs E a W) {b : Nat} (hl : live E bs b) : ∃ T cs, Blk W (E.A b) T cs := by
  obtain ⟨⟨⟨T, cs⟩, he⟩, hn⟩ := hl
  rcases h.bk b T cs he with ⟨h1, _⟩ | ⟨_, vs, sp, m, n, c, h1, _⟩
  · rw [hn] at h1; cases h1
  · exact ⟨_, _, h1⟩
theorem HdE.own_lt (h : HdE P X al bs E a W) {r : Nat} (ho : ownS E X.o bs r) : r < W.heap.size := by
  rcases ho with ho | ⟨b, hb, rfl⟩
  · exact Nat.lt_of_lt_of_le (h.o0 r ho).1 h.ext.size
  · exact h.live_lt hb
/-- A slot is filled. -/
theorem HdE.put (h : HdE P X al bs E a W) {n : Nat} {v : Value} {x : AV} (hv : RA E (dom bs) (ownS E X.o bs) W v x) (hn : n < X.N) : HdE P X ((n, x) :: al) bs E (a.put (some n) v) W :=
  { h with
    sz := by simp only [Act.put, Array.size_setIfInBounds]; exact h.sz
    sl := fun k y hk => by
      by_cases he : n = k
      · subst he
        rw [lk_self, Option.some.injEq] at hk
        subst hk
        refine ⟨v, ?_, hv⟩
        simp only [Act.put]
        rw [Array.getElem?_setIfInBounds_self_of_lt (by rw [h.sz]; exact hn)]
      · rw [lk_ne _ _ he] at hk
        obtain ⟨u, hu, hr⟩ := h.sl k y hk
        refine ⟨u, ?_, hr⟩
        simp only [Act.put]
        rw [Array.getElem?_setIfInBounds_ne he]
        exact hu }
theorem HdE.put0 (h : HdE P X al bs E a W) {v : Value} : HdE P X al bs E (a.put none v) W := h
/-- The world has grown. -/
theorem HdE.grow (h : HdE P X al bs E a W) {W' : World} (hE : Ext W W') : HdE P X al bs E a W' := by
  have hb := hE.below
  have k : Keeps (ownS E X.o bs) (ownS E X.o bs) W W' := .of (fun r hr _ => hb.block r hr) hb.size (fun r _ ho => ho)
  exact { h with
    ext := h.ext.trans hE
    df := h.df.grow (grown_ext hE none) (fun r e => by cases e) rfl
    sl := fun n x hx => let ⟨v, h1, h2⟩ := h.sl n x hx; ⟨v, h1, h2.keeps k (Env.le.refl _ _) (fun _ h => h)⟩
    bk := fun b T cs hc => (h.bk b T cs hc).keeps k (Env.le.refl _ _) (fun _ h => h) ⟨_, hc⟩ (fun hn => hb.block _ (h.live_lt ⟨⟨_, hc⟩, hn⟩)) }
/-- Told by the same words. -/
theorem HdE.same (h : HdE P X al bs E a W) {al' : List (Nat × AV)} {bs' : Bs} (hs : ∀ n x, lk al' n = some x → lk al n = some x) (hb : ∀ b, lk bs' b = lk bs b) : HdE P X al' bs' E a W := by
  have h1 : dom bs' = dom bs := by funext b; unfold dom; rw [hb]
  have h2 : live E bs' = live E bs := by funext b; unfold live; rw [hb]
  have h3 : ownS E X.o bs' = ownS E X.o bs := by funext r; unfold ownS; rw [h2]
  exact ⟨h.ext, h.o0, h.df, h.sz, h.en.step (Env.le.refl _ _) (fun b hd => by rw [h1]; exact hd), fun n x hx => by rw [h1, h3]; exact h.sl n x (hs n x hx), fun b T cs hc => by rw [h1, h3]; rw [hb] at hc; exact h.bk b T cs hc, fun b hl => by rw [h2] at hl; exact h.lo b hl, fun b b' h4 h5 => by rw [h2] at h4 h5; exact h.nd b b' h4 h5⟩
end

end Go.Proofs.Ytohpbfcechbngaa
