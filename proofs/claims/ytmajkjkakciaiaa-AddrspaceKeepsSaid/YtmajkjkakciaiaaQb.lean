/- Data that nobody changes, variables and rows of one's own: what a call's memory means. -/
/- One operation's run: what it yields for operands that are known. -/
/- Operations that read, in states of a walk. -/
/- How a walk's state goes on: new blocks, stores, rows that grow, rows that nobody changes any more, other numbers. -/
/- Rows that grow; other numbers for one's own blocks. -/
/- A region that draws its order: told once, in the order of the text. What an operation reads and writes is asked of its neighbours' numbers alone. -/
/- A walk in states: operations that write, calls, code, functions. -/
import Derived.Test.YtmajkjkakciaiaaQa
import Derived.Maps.AppendAt
import Derived.Deep.Upon
import Derived.RangeFuncLeaves
import Derived.RangeFuncNested
import Derived.RangeFuncCalls
import Derived.TacticsIn
import Derived.OrdersIn
import Derived.LoopIn
import Derived.Orders
set_option linter.unusedSimpArgs false
set_option linter.unusedVariables false
namespace Go.Proofs.Ytmajkjkakciaiaa
open Go.RowKit

/-- Every function may be called; the frame is a function's (none) or a round's. -/
def FR (ro : Option Nat) : Fence := { Fence.wide with round := ro }
theorem FR.fn (ro : Option Nat) (f : FuncId) : (FR ro).fn f := trivial
theorem FR.room (ro : Option Nat) (k : Nat) : (FR ro).room k := room_wide k
/-- From here on code, operations, one operation come to what Q says. -/
def Wp (P : Program) (ro : Option Nat) (c : Code) (Q : Exit → Act → World → Prop) (a : Act) (w : World) : Prop := c.wpIn (FR ro) 0 P Q a w
def WL (P : Program) (ro : Option Nat) (ops : Array Oper) (Q : Exit → Act → World → Prop) (l : List Oper) (a : Act) (w : World) : Prop := wpListIn (FR ro) 0 P ops Q l a w
def WO (P : Program) (ro : Option Nat) (o : Oper) (a : Act) (w : World) (K : Act → World → Prop) (Q : Exit → Act → World → Prop) : Prop := o.wpIn (FR ro) 0 P a w K Q
theorem WO.of {P : Program} {ro : Option Nat} {o : Oper} {a : Act} {w : World} {K : Act → World → Prop} {Q : Exit → Act → World → Prop} (hnd : ∀ c, o.op ≠ .defer c) (h : o.uponIn (FR ro) 0 P a K Q ((execOp a.eval o).run P w)) : WO P ro o a w K Q := by
  refine ⟨fun f _ => trivial, ?_⟩
  have : (FR ro).round = ro := rfl
  rw [this]
  cases ro with
  | none => exact h
  | some l => rw [Oper.semAt_some l a.eval o hnd]; exact h
section
variable {P : Program} {ro : Option Nat} {ops : Array Oper} {Q : Exit → Act → World → Prop} {a : Act} {w : World} {rest : List Oper} {o : Oper}
theorem WL.plain (hg : o.guard = none) (h : ∀ K : Act → World → Prop, (∀ a w, WL P ro ops Q rest a w → K a w) → WO P ro o a w K Q) : WL P ro ops Q (o :: rest) a w := wpListIn_plain hg h
theorem WL.yes (hw : Region.wanted o (yielded ops a.tmps) = true) (h : WO P ro o a w (WL P ro ops Q rest) Q) : WL P ro ops Q (o :: rest) a w := by
  unfold WL wpListIn
  rw [if_pos hw]
  exact h
theorem WL.no (hw : ¬ Region.wanted o (yielded ops a.tmps) = true) (h : WL P ro ops Q rest (a.put o.dst undef) w) : WL P ro ops Q (o :: rest) a w := by
  unfold WL wpListIn
  rw [if_neg hw]
  exact ⟨fun _ _ => trivial, h⟩
theorem WL.inv (hg : o.guard = none) (h : WL P ro ops Q (o :: rest) a w) : WO P ro o a w (WL P ro ops Q rest) Q := by
  unfold WL wpListIn at h
  rw [if_pos (by unfold Region.wanted; rw [hg])] at h
  exact h
/-- Operation i alone. -/
def WOp (P : Program) (ro : Option Nat) (ops : Array Oper) (Q : Exit → Act → World → Prop) (i : Nat) (K : Act → World → Prop) (a : Act) (w : World) : Prop := wpOpIn (FR ro) 0 P ops Q i K a w
theorem WOp.yes {i : Nat} {K : Act → World → Prop} (ho : ops[i]? = some o) (hw : Region.wanted o (yielded ops a.tmps) = true) (h : WO P ro o a w K Q) : WOp P ro ops Q i K a w := by
  unfold WOp wpOpIn
  simp only [ho]
  rw [if_pos hw]
  exact h
theorem WOp.no {i : Nat} {K : Act → World → Prop} (ho : ops[i]? = some o) (hw : ¬ Region.wanted o (yielded ops a.tmps) = true) (h : K (a.put o.dst undef) w) : WOp P ro ops Q i K a w := by
  unfold WOp wpOpIn
  simp only [ho]
  rw [if_neg hw]
  exact ⟨fun _ _ => trivial, h⟩
theorem Wp.mono {c : Code} {Q' : Exit → Act → World → Prop} (h : Wp P ro c Q a w) (hq : ∀ e a w, Q e a w → Q' e a w) : Wp P ro c Q' a w := wpIn_mono h hq
/-- A loop whose measure the proof bears. -/
theorem Wp.loopG {c : Code} (I : Nat → Act → World → Prop) (n₀ : Nat) (h₀ : I n₀ a w) (round : ∀ n a w, I n a w → Wp P ro c (Exit.then (fun a' w' => ∃ n', n' < n ∧ I n' a' w') Q) a w) : Wp P ro (Code.loop c) Q a w := by
  refine wpIn_loop (fun a w => ∃ n, I n a w) (fun a w => leastOf (fun n => I n a w)) ⟨n₀, h₀⟩ ?_
  intro a w hI
  refine wpIn_mono (round _ a w (leastOf_spec hI).1) ?_
  intro e a' w' hq
  cases e with
  | normal =>
    obtain ⟨n', hlt, hI'⟩ := hq
    exact show (∃ n, I n a' w') ∧ leastOf (fun n => I n a' w') < leastOf (fun n => I n a w) from ⟨⟨n', hI'⟩, Nat.lt_of_le_of_lt ((leastOf_spec ⟨n', hI'⟩).2 n' hI') hlt⟩
  | exit id => exact hq
  | goto l => exact hq
  | ret => exact hq
  | panic ch => exact hq
  | outgrown => exact hq
end
/-- From w to w' nothing has changed but blocks of m. -/
structure ExtM (m : Nat → Prop) (w w' : World) : Prop where
  os : w'.os = w.os
  tape : w'.tape = w.tape
  output : w'.output = w.output
  size : w.heap.size ≤ w'.heap.size
  blk : ∀ r, r < w.heap.size → ¬ m r → w'.heap[r]? = w.heap[r]?
theorem ExtM.refl (m : Nat → Prop) (w : World) : ExtM m w w := ⟨rfl, rfl, rfl, Nat.le_refl _, fun _ _ _ => rfl⟩
theorem ExtM.step {m m' : Nat → Prop} {w W W' : World} (h : ExtM m w W) (h' : ExtM m' W W') (hm : ∀ r, m' r → w.heap.size ≤ r ∨ m r) : ExtM m w W' :=
  ⟨h'.os.trans h.os, h'.tape.trans h.tape, h'.output.trans h.output, Nat.le_trans h.size h'.size, fun r hr hn => (h'.blk r (Nat.lt_of_lt_of_le hr h.size) (fun e => by rcases hm r e with h1 | h1; omega; exact hn h1)).trans (h.blk r hr hn)⟩
theorem ExtM.grow {m : Nat → Prop} {w W W' : World} {k : Option Nat} (h : ExtM m w W) (hg : W.grownBy W' k) (hk : ∀ r, k = some r → w.heap.size ≤ r ∨ m r) : ExtM m w W' :=
  h.step (m' := fun r => k = some r) ⟨hg.os, hg.tape, hg.output, hg.size, fun r hr hn => hg.block r hr (fun e => hn e.symm)⟩ hk
theorem ExtM.trans {m : Nat → Prop} {w W W' : World} (h : ExtM m w W) (hE : Ext W W') : ExtM m w W' := h.grow (grown_ext hE none) (fun r e => by cases e)
theorem ExtM.of_ext {m : Nat → Prop} {w W : World} (hE : Ext w W) : ExtM m w W := (ExtM.refl m w).trans hE
theorem ExtM.ext {w W : World} (h : ExtM (fun _ => False) w W) : Ext w W := Ext.of_below ⟨h.os, h.tape, h.output, h.size, fun r hr => h.blk r hr id⟩

/-- Plain data: a value without memory, a slice as the list of its rows, a struct as its cells, several results, a pointer into a row, a function value. -/
inductive D where
  | s (v : Value)
  | l (rows : List (List D))
  | st (cells : List D)
  | tup (vs : List D)
  | pe (row : List D) (off : Nat)
  | fn (K : Nat) (caps : List D)

mutual
/-- The value v means x in w; no block of 'own' has a part in it. -/
inductive RD (own : Nat → Prop) (W : World) : Value → D → Prop
  | s {v : Value} (h : v.oneCell' = true) : RD own W v (.s v)
  | nl {a : Option Addr} {c : Nat} : RD own W (.slice a 0 c) (.l [])
  | l {r o n c m : Nat} {rows : List (List D)} (f : Nat → List Value) (hn : n = rows.length) (hc : n ≤ c) (hm : c ≤ maxLen) (hr : r < W.heap.size) (ho : ¬ own r) (h1 : ∀ (i : Nat) (row : List D), rows[i]? = some row → row.length = m)
      (h2 : ∀ (i : Nat) (row : List D), rows[i]? = some row → W.rangeAt r (o + i * m) (f i)) (h3 : ∀ (i : Nat) (row : List D), rows[i]? = some row → RL own W (f i) row) : RD own W (.slice (some ⟨r, o, none⟩) n c) (.l rows)
  | st {vs : List Value} {ds : List D} (h : RL own W vs ds) : RD own W (.agg vs.toArray) (.st ds)
  | tup {vs : List Value} {ds : List D} (h : RL own W vs ds) : RD own W (.tuple vs.toArray) (.tup ds)
  | pe {r o off : Nat} {vs : List Value} {row : List D} (hr : r < W.heap.size) (ho : ¬ own r) (h1 : W.rangeAt r o vs) (h2 : RL own W vs row) : RD own W (.pointer (some ⟨r, o + off, none⟩)) (.pe row off)
  | fn {K : Nat} {vs : List Value} {ds : List D} (h : RL own W vs ds) : RD own W (.func (.func K) #[] vs.toArray) (.fn K ds)
inductive RL (own : Nat → Prop) (W : World) : List Value → List D → Prop
  | nil : RL own W [] []
  | cons {v : Value} {d : D} {vs : List Value} {ds : List D} (h : RD own W v d) (t : RL own W vs ds) : RL own W (v :: vs) (d :: ds)
end

/-- From W to W' nothing but blocks of 'own' has changed; own' has no old block that own had not. -/
structure Keeps (own own' : Nat → Prop) (W W' : World) : Prop where
  rg : ∀ r, r < W.heap.size → ¬ own r → ∀ (o : Nat) (vs : List Value), W.rangeAt r o vs → W'.rangeAt r o vs
  size : W.heap.size ≤ W'.heap.size
  own : ∀ r, r < W.heap.size → own' r → own r

theorem rangeAt.keeps {W W' : World} {r o : Nat} {vs : List Value} (h : W.rangeAt r o vs) (hb : W'.heap[r]? = W.heap[r]?) : W'.rangeAt r o vs := by
  intro j v hv
  rw [← h j v hv]
  exact World.cell?_of_block (a := ⟨r, o + j, none⟩) hb

theorem Keeps.of {own own' : Nat → Prop} {W W' : World} (hb : ∀ r, r < W.heap.size → ¬ own r → W'.heap[r]? = W.heap[r]?) (hs : W.heap.size ≤ W'.heap.size) (ho : ∀ r, r < W.heap.size → own' r → own r) : Keeps own own' W W' := ⟨fun r hr hn _ _ h => rangeAt.keeps h (hb r hr hn), hs, ho⟩
mutual
theorem RD.keeps {own own' : Nat → Prop} {W W' : World} (k : Keeps own own' W W') : ∀ {v : Value} {x : D}, RD own W v x → RD own' W' v x
  | _, _, .s h => .s h
  | _, _, .nl => .nl
  | _, _, .l f hn hc hm hr ho h1 h2 h3 => .l f hn hc hm (Nat.lt_of_lt_of_le hr k.size) (fun h => ho (k.own _ hr h)) h1 (fun i row hi => k.rg _ hr ho _ _ (h2 i row hi)) (fun i row hi => RL.keeps k (h3 i row hi))
  | _, _, .st h => .st (RL.keeps k h)
  | _, _, .tup h => .tup (RL.keeps k h)
  | _, _, .pe hr ho h1 h2 => .pe (Nat.lt_of_lt_of_le hr k.size) (fun h => ho (k.own _ hr h)) (k.rg _ hr ho _ _ h1) (RL.keeps k h2)
  | _, _, .fn h => .fn (RL.keeps k h)
theorem RL.keeps {own own' : Nat → Prop} {W W' : World} (k : Keeps own own' W W') : ∀ {vs : List Value} {ds : List D}, RL own W vs ds → RL own' W' vs ds
  | _, _, .nil => .nil
  | _, _, .cons h t => .cons (RD.keeps k h) (RL.keeps k t)
end

theorem RL.len {own : Nat → Prop} {W : World} : ∀ {vs : List Value} {ds : List D}, RL own W vs ds → vs.length = ds.length
  | _, _, .nil => rfl
  | _, _, .cons h t => by simp only [List.length_cons]; rw [RL.len t]
theorem RL.get {own : Nat → Prop} {W : World} : ∀ {vs : List Value} {ds : List D} (h : RL own W vs ds) (i : Nat) (d : D), ds[i]? = some d → ∃ v, vs[i]? = some v ∧ RD own W v d
  | _, _, .nil, i, d, hd => by simp at hd
  | _, _, .cons h t, 0, d, hd => by
    simp only [List.getElem?_cons_zero, Option.some.injEq] at hd
    subst hd
    exact ⟨_, rfl, h⟩
  | _, _, .cons h t, i + 1, d, hd => by
    simp only [List.getElem?_cons_succ] at hd ⊢
    exact RL.get t i d hd
theorem RL.app {own : Nat → Prop} {W : World} : ∀ {vs vs' : List Value} {ds ds' : List D}, RL own W vs ds → RL own W vs' ds' → RL own W (vs ++ vs') (ds ++ ds')
  | _, _, _, _, .nil, h => h
  | _, _, _, _, .cons h t, h' => .cons h (RL.app t h')
theorem RL.take {own : Nat → Prop} {W : World} : ∀ {vs : List Value} {ds : List D} (n : Nat), RL own W vs ds → RL own W (vs.take n) (ds.take n)
  | _, _, n, .nil => by simp only [List.take_nil]; exact .nil
  | _, _, 0, .cons h t => .nil
  | _, _, n + 1, .cons h t => .cons h (RL.take n t)
theorem RL.drop {own : Nat → Prop} {W : World} : ∀ {vs : List Value} {ds : List D} (n : Nat), RL own W vs ds → RL own W (vs.drop n) (ds.drop n)
  | _, _, n, .nil => by simp only [List.drop_nil]; exact .nil
  | _, _, 0, .cons h t => .cons h t
  | _, _, n + 1, .cons h t => RL.drop n t

/-- What a slot may hold: data; a pointer into a block of one's own; a row of one's own; a part of such a row; a struct, a function value that hold such; what holds only if a test says so; anything. -/
inductive AV where
  | d (x : D)
  | p (b off : Nat)
  | o (b n : Nat)
  | vw (b off n : Nat) (f : Bool)
  | st (cells : List AV)
  | tup (cells : List AV)
  | fn (K : Nat) (caps : List AV)
  | gd (t want : Bool) (x : AV)
  | any
abbrev AV.e (row : List D) (off : Nat) : AV := .d (.pe row off)

/-- Where one's own blocks lie, and the slices that stand for them. -/
structure Env where
  A : Nat → Nat
  V : Nat → Value
  nl : Nat → Bool

mutual
inductive RA (E : Env) (dm : Nat → Prop) (own : Nat → Prop) (W : World) : Value → AV → Prop
  | d {v : Value} {x : D} (h : RD own W v x) : RA E dm own W v (.d x)
  | p {b off : Nat} (hb : dm b) (hn : E.nl b = false) : RA E dm own W (.pointer (some ⟨E.A b, off, none⟩)) (.p b off)
  | o {b n c : Nat} {p : Option Addr} (hb : dm b) (hv : E.V b = .slice p n c) : RA E dm own W (.slice p n c) (.o b n)
  | vw {b off n c : Nat} {f : Bool} (hb : dm b) (hn : E.nl b = false) (hc : n ≤ c) (hm : c ≤ maxLen) (h0 : f = true → off = 0 → ∀ q m d, E.V b = .slice q m d → c = d) : RA E dm own W (.slice (some ⟨E.A b, off, none⟩) n c) (.vw b off n f)
  | st {vs : List Value} {cs : List AV} (h : RAL E dm own W vs cs) : RA E dm own W (.agg vs.toArray) (.st cs)
  | tup {vs : List Value} {cs : List AV} (h : RAL E dm own W vs cs) : RA E dm own W (.tuple vs.toArray) (.tup cs)
  | fn {K : Nat} {vs : List Value} {cs : List AV} (h : RAL E dm own W vs cs) : RA E dm own W (.func (.func K) #[] vs.toArray) (.fn K cs)
  | gd {v : Value} {t want : Bool} {x : AV} (h : t = want → RA E dm own W v x) (h' : ¬ t = want → v = undef) : RA E dm own W v (.gd t want x)
  | any {v : Value} : RA E dm own W v .any
inductive RAL (E : Env) (dm : Nat → Prop) (own : Nat → Prop) (W : World) : List Value → List AV → Prop
  | nil : RAL E dm own W [] []
  | cons {v : Value} {d : AV} {vs : List Value} {ds : List AV} (h : RA E dm own W v d) (t : RAL E dm own W vs ds) : RAL E dm own W (v :: vs) (d :: ds)
end

/-- The new Env says of the old numbers what the old one said. -/
structure Env.le (dm : Nat → Prop) (E E' : Env) : Prop where
  A : ∀ b, dm b → E'.A b = E.A b
  V : ∀ b, dm b → E'.V b = E.V b
  nl : ∀ b, dm b → E'.nl b = E.nl b
theorem Env.le.refl (dm : Nat → Prop) (E : Env) : Env.le dm E E := ⟨fun _ _ => rfl, fun _ _ => rfl, fun _ _ => rfl⟩
def Env.set (E : Env) (b : Nat) (a : Nat) (v : Value) (n : Bool) : Env := ⟨fun k => if k = b then a else E.A k, fun k => if k = b then v else E.V k, fun k => if k = b then n else E.nl k⟩
theorem Env.le_set {dm : Nat → Prop} (E : Env) {b : Nat} (hb : ¬ dm b) (a : Nat) (v : Value) (n : Bool) : Env.le dm E (E.set b a v n) := by
  have hne : ∀ k, dm k → k ≠ b := fun k hk e => hb (by rw [← e]; exact hk)
  exact ⟨fun k hk => by simp only [Env.set, if_neg (hne k hk)], fun k hk => by simp only [Env.set, if_neg (hne k hk)], fun k hk => by simp only [Env.set, if_neg (hne k hk)]⟩
theorem Env.set_A (E : Env) (b a : Nat) (v : Value) (n : Bool) : (E.set b a v n).A b = a := by simp [Env.set]
theorem Env.set_V (E : Env) (b a : Nat) (v : Value) (n : Bool) : (E.set b a v n).V b = v := by simp [Env.set]
theorem Env.set_nl (E : Env) (b a : Nat) (v : Value) (n : Bool) : (E.set b a v n).nl b = n := by simp [Env.set]

mutual
theorem RA.keeps {E E' : Env} {dm dm' : Nat → Prop} {own own' : Nat → Prop} {W W' : World} (k : Keeps own own' W W') (hE : Env.le dm E E') (hn : ∀ b, dm b → dm' b) : ∀ {v : Value} {x : AV}, RA E dm own W v x → RA E' dm' own' W' v x
  | _, _, .d h => .d (h.keeps k)
  | _, .p b off, .p hb hnl => by
    have := RA.p (E := E') (own := own') (W := W') (off := off) (hn _ hb) (by rw [hE.nl b hb]; exact hnl)
    rw [hE.A b hb] at this
    exact this
  | _, _, .o hb hv => .o (hn _ hb) (by rw [hE.V _ hb]; exact hv)
  | _, .vw b off n f, .vw hb hnl hc hm h0 => by
    have := RA.vw (E := E') (own := own') (W := W') (off := off) (hn _ hb) (by rw [hE.nl b hb]; exact hnl) hc hm (by rw [hE.V b hb]; exact h0)
    rw [hE.A b hb] at this
    exact this
  | _, _, .st h => .st (RAL.keeps k hE hn h)
  | _, _, .tup h => .tup (RAL.keeps k hE hn h)
  | _, _, .fn h => .fn (RAL.keeps k hE hn h)
  | _, _, .gd h h' => .gd (fun e => RA.keeps k hE hn (h e)) h'
  | _, _, .any => .any
theorem RAL.keeps {E E' : Env} {dm dm' : Nat → Prop} {own own' : Nat → Prop} {W W' : World} (k : Keeps own own' W W') (hE : Env.le dm E E') (hn : ∀ b, dm b → dm' b) : ∀ {vs : List Value} {ds : List AV}, RAL E dm own W vs ds → RAL E' dm' own' W' vs ds
  | _, _, .nil => .nil
  | _, _, .cons h t => .cons (RA.keeps k hE hn h) (RAL.keeps k hE hn t)
end
section
variable {E : Env} {dm : Nat → Prop} {own : Nat → Prop} {W : World}
theorem RAL.len : ∀ {vs : List Value} {ds : List AV}, RAL E dm own W vs ds → vs.length = ds.length
  | _, _, .nil => rfl
  | _, _, .cons h t => by simp only [List.length_cons]; rw [RAL.len t]
theorem RAL.get : ∀ {vs : List Value} {ds : List AV} (h : RAL E dm own W vs ds) (i : Nat) (d : AV), ds[i]? = some d → ∃ v, vs[i]? = some v ∧ RA E dm own W v d
  | _, _, .nil, i, d, hd => by simp at hd
  | _, _, .cons h t, 0, d, hd => by
    simp only [List.getElem?_cons_zero, Option.some.injEq] at hd
    subst hd
    exact ⟨_, rfl, h⟩
  | _, _, .cons h t, i + 1, d, hd => by
    simp only [List.getElem?_cons_succ] at hd ⊢
    exact RAL.get t i d hd
theorem RAL.app : ∀ {vs vs' : List Value} {ds ds' : List AV}, RAL E dm own W vs ds → RAL E dm own W vs' ds' → RAL E dm own W (vs ++ vs') (ds ++ ds')
  | _, _, _, _, .nil, h => h
  | _, _, _, _, .cons h t, h' => .cons h (RAL.app t h')
theorem RAL.take : ∀ {vs : List Value} {ds : List AV} (n : Nat), RAL E dm own W vs ds → RAL E dm own W (vs.take n) (ds.take n)
  | _, _, n, .nil => by simp only [List.take_nil]; exact .nil
  | _, _, 0, .cons h t => .nil
  | _, _, n + 1, .cons h t => .cons h (RAL.take n t)
theorem RAL.drop : ∀ {vs : List Value} {ds : List AV} (n : Nat), RAL E dm own W vs ds → RAL E dm own W (vs.drop n) (ds.drop n)
  | _, _, n, .nil => by simp only [List.drop_nil]; exact .nil
  | _, _, 0, .cons h t => .cons h t
  | _, _, n + 1, .cons h t => RAL.drop n t
theorem RAL.set : ∀ {vs : List Value} {ds : List AV} (n : Nat) {v : Value} {d : AV}, RAL E dm own W vs ds → RA E dm own W v d → RAL E dm own W (vs.set n v) (ds.set n d)
  | _, _, n, _, _, .nil, _ => .nil
  | _, _, 0, _, _, .cons h t, h' => .cons h' t
  | _, _, n + 1, _, _, .cons h t, h' => .cons h (RAL.set n t h')
/-- Plain data again. -/
theorem RAL.map : ∀ {vs : List Value} {ds : List D}, RL own W vs ds → RAL E dm own W vs (ds.map .d)
  | _, _, .nil => .nil
  | _, _, .cons h t => .cons (.d h) (RAL.map t)
theorem RAL.unmap : ∀ {vs : List Value} {ds : List D}, RAL E dm own W vs (ds.map .d) → RL own W vs ds
  | _, [], .nil => .nil
  | _, _ :: _, .cons (.d h) t => .cons h (RAL.unmap t)
end

/-! ### The state of a walk -/
/-- What stands under the number n (the latest word). -/
def lk {α : Type} : List (Nat × α) → Nat → Option α
  | [], _ => none
  | (m, v) :: l, n => bif Nat.beq m n then some v else lk l n
theorem lk_self {α : Type} (n : Nat) (v : α) (l : List (Nat × α)) : lk ((n, v) :: l) n = some v := by simp [lk]
theorem lk_ne {α : Type} {m n : Nat} (v : α) (l : List (Nat × α)) (h : m ≠ n) : lk ((m, v) :: l) n = lk l n := by
  have : Nat.beq m n = false := by
    cases hb : Nat.beq m n with
    | false => rfl
    | true => exact absurd (Nat.eq_of_beq_eq_true hb) h
  simp [lk, this]
theorem lk_cons {α : Type} (m n : Nat) (v : α) (l : List (Nat × α)) : lk ((m, v) :: l) n = if m = n then some v else lk l n := by
  by_cases h : m = n
  · subst h; rw [lk_self, if_pos rfl]
  · rw [lk_ne _ _ h, if_neg h]
/-- One's own blocks: type and cells; none: given up. -/
abbrev Bs := List (Nat × Option (TypeId × List AV))
structure Cx where
  w : World
  o : Nat → Prop
  N : Nat
  m : Nat → Prop
  E0 : Env
  k : List Nat
/-- A function that was given data alone. -/
abbrev cx0 (w : World) (o : Nat → Prop) (N : Nat) : Cx := ⟨w, o, N, fun _ => False, { A := fun _ => 0, V := fun _ => .nilFunc, nl := fun _ => true }, []⟩
def dom (bs : Bs) (b : Nat) : Prop := ∃ o, lk bs b = some o
def live (E : Env) (bs : Bs) (b : Nat) : Prop := (∃ en, lk bs b = some (some en)) ∧ E.nl b = false
def ownS (E : Env) (o : Nat → Prop) (bs : Bs) (r : Nat) : Prop := o r ∨ ∃ b, live E bs b ∧ E.A b = r
theorem live.dom {E : Env} {bs : Bs} {b : Nat} (h : live E bs b) : dom bs b := let ⟨⟨en, h⟩, _⟩ := h; ⟨_, h⟩
theorem dom_cons {bs : Bs} {b : Nat} {o : Option (TypeId × List AV)} : ∀ k, dom bs k → dom ((b, o) :: bs) k := fun k ⟨x, h⟩ => by
  by_cases he : b = k
  · subst he; exact ⟨o, lk_self _ _ _⟩
  · exact ⟨x, by rw [lk_ne _ _ he]; exact h⟩
/-- The block of number b holds the cells cs, and perhaps more behind them. -/
def EnOk (P : Program) (E : Env) (dm own : Nat → Prop) (W : World) (b : Nat) (T : TypeId) (cs : List AV) : Prop :=
  (E.nl b = true ∧ cs = [] ∧ E.V b = .slice none 0 0) ∨
  (E.nl b = false ∧ ∃ vs sp m n c, Blk W (E.A b) T (vs ++ sp) ∧ RAL E dm own W vs cs ∧ (P.info? T).map (·.size) = some m ∧ E.V b = .slice (some ⟨E.A b, 0, none⟩) n c ∧ n ≤ c ∧ c ≤ maxLen ∧ vs.length = n * m ∧ (vs ++ sp).length = c * m)
/-- What the frame owes at its end: the rounds' blocks are to be shut. -/
def DfOk (q : Nat → Prop) (a : Act) (W : World) : Prop := ∃ Ds : List Nat, a.defers = Ds.map (fun D => { target := .collected D, args := #[] }) ∧ Ds.Nodup ∧ ∀ D ∈ Ds, q D ∧ W.heap[D]? = some (.deferred (some []))
theorem DfOk.nil {q : Nat → Prop} {a : Act} {W : World} (h : a.defers = []) : DfOk q a W := ⟨[], h, .nil, fun D h => by cases h⟩
theorem DfOk.grow {q : Nat → Prop} {a a' : Act} {W W' : World} {row : Option Nat} (h : DfOk q a W) (hg : W.grownBy W' row) (hr : ∀ r, row = some r → ∃ T cs, Blk W r T cs) (ha : a'.defers = a.defers) : DfOk q a' W' := by
  obtain ⟨Ds, h1, h2, h3⟩ := h
  refine ⟨Ds, ha.trans h1, h2, fun D hD => ⟨(h3 D hD).1, ?_⟩⟩
  have h4 := (h3 D hD).2
  rw [hg.block D (Array.getElem?_eq_some_iff.1 h4).1 (fun e => ?_)]
  · exact h4
  · obtain ⟨T, cs, hb⟩ := hr D e.symm
    have := hb
    unfold Blk at this
    rw [h4] at this
    simp at this
/-- The blocks of k lie where they lay. -/
structure EnK (k : List Nat) (E0 E : Env) (bs : Bs) : Prop where
  dk : ∀ b ∈ k, dom bs b
  A : ∀ b ∈ k, E.A b = E0.A b
  V : ∀ b ∈ k, E.V b = E0.V b
  nl : ∀ b ∈ k, E.nl b = E0.nl b
theorem EnK.step {k : List Nat} {E0 E E' : Env} {bs bs' : Bs} (h : EnK k E0 E bs) (hE : Env.le (dom bs) E E') (hd : ∀ b, dom bs b → dom bs' b) : EnK k E0 E' bs' :=
  ⟨fun b hb => hd b (h.dk b hb), fun b hb => (hE.A b (h.dk b hb)).trans (h.A b hb), fun b hb => (hE.V b (h.dk b hb)).trans (h.V b hb), fun b hb => (hE.nl b (h.dk b hb)).trans (h.nl b hb)⟩
theorem EnK.nil {E0 E : Env} {bs : Bs} : EnK [] E0 E bs := ⟨fun b h => (List.not_mem_nil h).elim, fun b h => (List.not_mem_nil h).elim, fun b h => (List.not_mem_nil h).elim, fun b h => (List.not_mem_nil h).elim⟩
structure HdE (P : Program) (X : Cx) (al : List (Nat × AV)) (bs : Bs) (E : Env) (a : Act) (W : World) : Prop where
  ext : ExtM X.m X.w W
  o0 : ∀ r, X.o r → r < X.w.heap.size ∧ ¬ X.m r
  df : DfOk (fun D => X.w.heap.size ≤ D ∨ X.m D) a W
  sz : a.tmps.size = X.N
  en : EnK X.k X.E0 E bs
  sl : ∀ n x, lk al n = some x → ∃ v, a.tmps[n]? = some v ∧ RA E (dom bs) (ownS E X.o bs) W v x
  bk : ∀ b T cs, lk bs b = some (some (T, cs)) → EnOk P E (dom bs) (ownS E X.o bs) W b T cs
  lo : ∀ b, live E bs b → X.w.heap.size ≤ E.A b ∨ X.m (E.A b)
  nd : ∀ b b', live E bs b → live E bs b' → E.A b = E.A b' → b = b'
/-- From every state of this kind on c holds. -/
def G (P : Program) (X : Cx) (al : List (Nat × AV)) (bs : Bs) (c : Act → World → Prop) : Prop := ∀ E a W, HdE P X al bs E a W → c a W

section
variable {P : Program} {X : Cx} {al : List (Nat × AV)} {bs : Bs} {E : Env} {a : Act} {W : World}
theorem EnOk.keeps {E' : Env} {dm dm' : Nat → Prop} {own own' : Nat → Prop} {W' : World} {b : Nat} {T : TypeId} {cs : List AV} (k : Keeps own own' W W') (hE : Env.le dm E E') (hn : ∀ b, dm b → dm' b) (hb : dm b) (hk : E.nl b = false → W'.heap[E.A b]? = W.heap[E.A b]?)
    (h : EnOk P E dm own W b T cs) : EnOk P E' dm' own' W' b T cs := by
  unfold EnOk at *
  rw [hE.nl b hb, hE.A b hb, hE.V b hb]
  rcases h with h | ⟨h0, vs, sp, m, n, c, h1, h2, h3⟩
  · exact .inl h
  · exact .inr ⟨h0, vs, sp, m, n, c, (hk h0).trans h1, h2.keeps k hE hn, h3⟩
theorem HdE.live_lt (h : HdE P X al bs E a W) {b : Nat} (hl : live E bs b) : E.A b < W.heap.size := by
  obtain ⟨⟨⟨T, cs⟩, he⟩, hn⟩ := hl
  rcases h.bk b T cs he with ⟨h1, _⟩ | ⟨_, vs, sp, m, n, c, h1, _⟩
  · rw [hn] at h1; cases h1
  · exact h1.lt
theorem HdE.blkOf (h : HdE P X al bs E a W) {b : Nat} (hl : live E bs b) : ∃ T cs, Blk W (E.A b) T cs := by
  obtain ⟨⟨⟨T, cs⟩, he⟩, hn⟩ := hl
  rcases h.bk b T cs he with ⟨h1, _⟩ | ⟨_, vs, sp, m, n, c, h1, _⟩
  · rw [hn] at h1; cases h1
  · exact ⟨_, _, h1⟩
theorem HdE.own_lt (h : HdE P X al bs E a W) {r : Nat} (ho : ownS E X.o bs r) : r < W.heap.size := by
  rcases ho with ho | ⟨b, hb, rfl⟩
  · exact Nat.lt_of_lt_of_le (h.o0 r ho).1 h.ext.size
  · exact h.live_lt hb
/-- A slot is filled. -/
theorem HdE.put (h : HdE P X al bs E a W) {n : Nat} {v : Value} {x : AV} (hv : RA E (dom bs) (ownS E X.o bs) W v x) (hn : n < X.N) : HdE P X ((n, x) :: al) bs E (a.put (some n) v) W :=
  { h with
    sz := by simp only [Act.put, Array.size_setIfInBounds]; exact h.sz
    sl := fun k y hk => by
      by_cases he : n = k
      · subst he
        rw [lk_self, Option.some.injEq] at hk
        subst hk
        refine ⟨v, ?_, hv⟩
        simp only [Act.put]
        rw [Array.getElem?_setIfInBounds_self_of_lt (by rw [h.sz]; exact hn)]
      · rw [lk_ne _ _ he] at hk
        obtain ⟨u, hu, hr⟩ := h.sl k y hk
        refine ⟨u, ?_, hr⟩
        simp only [Act.put]
        rw [Array.getElem?_setIfInBounds_ne he]
        exact hu }
theorem HdE.put0 (h : HdE P X al bs E a W) {v : Value} : HdE P X al bs E (a.put none v) W := h
/-- The world has grown. -/
theorem HdE.grow (h : HdE P X al bs E a W) {W' : World} (hE : Ext W W') : HdE P X al bs E a W' := by
  have hb := hE.below
  have k : Keeps (ownS E X.o bs) (ownS E X.o bs) W W' := .of (fun r hr _ => hb.block r hr) hb.size (fun r _ ho => ho)
  exact { h with
    ext := h.ext.trans hE
    df := h.df.grow (grown_ext hE none) (fun r e => by cases e) rfl
    sl := fun n x hx => let ⟨v, h1, h2⟩ := h.sl n x hx; ⟨v, h1, h2.keeps k (Env.le.refl _ _) (fun _ h => h)⟩
    bk := fun b T cs hc => (h.bk b T cs hc).keeps k (Env.le.refl _ _) (fun _ h => h) ⟨_, hc⟩ (fun hn => hb.block _ (h.live_lt ⟨⟨_, hc⟩, hn⟩)) }
/-- Told by the same words. -/
theorem HdE.same (h : HdE P X al bs E a W) {al' : List (Nat × AV)} {bs' : Bs} (hs : ∀ n x, lk al' n = some x → lk al n = some x) (hb : ∀ b, lk bs' b = lk bs b) : HdE P X al' bs' E a W := by
  have h1 : dom bs' = dom bs := by funext b; unfold dom; rw [hb]
  have h2 : live E bs' = live E bs := by funext b; unfold live; rw [hb]
  have h3 : ownS E X.o bs' = ownS E X.o bs := by funext r; unfold ownS; rw [h2]
  exact ⟨h.ext, h.o0, h.df, h.sz, h.en.step (Env.le.refl _ _) (fun b hd => by rw [h1]; exact hd), fun n x hx => by rw [h1, h3]; exact h.sl n x (hs n x hx), fun b T cs hc => by rw [h1, h3]; rw [hb] at hc; exact h.bk b T cs hc, fun b hl => by rw [h2] at hl; exact h.lo b hl, fun b b' h4 h5 => by rw [h2] at h4 h5; exact h.nd b b' h4 h5⟩
end

end Go.Proofs.Ytmajkjkakciaiaa

set_option linter.unusedSimpArgs false
set_option linter.unusedVariables false
namespace Go.Proofs.Ytmajkjkakciaiaa
open Go.RowKit

/-! ### The types' table, asked by classes: the answers are the seat's -/
def tsc (P : Program) (T : TypeId) : Bool := match P.underlying T with | some d => !d.isRow | none => false
def trw (P : Program) (T : TypeId) : Option Nat := match P.underlying T with | some d => if d.isRow then (P.info? T).map (·.size) else none | none => none
def tfo (P : Program) (T f : Nat) : Option Nat := match P.underlying T with
  | some (.struct fs) => match fs[f]? with
    | some fl => match (P.info? fl.type).map (·.size) with
      | some (_ + 1) => some fl.offset
      | _ => none
    | none => none
  | _ => none
def tft (P : Program) (T f : Nat) : Nat := match P.underlying T with
  | some (.struct fs) => match fs[f]? with
    | some fl => fl.type
    | none => 0
  | _ => 0
def tsl (P : Program) (T : TypeId) : Option (TypeId × Nat) := match P.underlying T with
  | some (.slice e) => (P.info? e).map (fun i => (e, i.size))
  | _ => none
class TSc (P : Program) (T : TypeId) : Prop where
  h : tsc P T = true
class TRw (P : Program) (T : TypeId) (n : outParam Nat) : Prop where
  h : trw P T = some n
class TFo (P : Program) (T f : Nat) (off : outParam Nat) : Prop where
  h : tfo P T f = some off
class TFt (P : Program) (T f : Nat) (ft : outParam Nat) : Prop where
  h : tft P T f = ft
class TSl (P : Program) (T : TypeId) (e n : outParam Nat) : Prop where
  h : tsl P T = some (e, n)
class TZr (P : Program) (T : TypeId) (z : outParam Value) : Prop where
  h : (P.info? T).bind (fun i => i.zero) = some z
class TZs (P : Program) (T : TypeId) (n : outParam Nat) : Prop where
  h : (P.info? T).map (fun i => i.size) = some n
class TBy (P : Program) (T : TypeId) (n : outParam Nat) : Prop where
  h : (P.info? T).map (fun i => i.bytes) = some n
class TIn (P : Program) (T : TypeId) (k : outParam IntKind) : Prop where
  h : P.underlying T = some (.int k)

section
variable {P : Program}
theorem TSc.get {T : TypeId} (i : TSc P T) : ∃ d, P.underlying T = some d ∧ d.isRow = false := by
  have h := i.h
  unfold tsc at h
  cases hu : P.underlying T with
  | none => rw [hu] at h; cases h
  | some d => rw [hu] at h; exact ⟨d, rfl, by simpa using h⟩
theorem TRw.get {T n : Nat} (i : TRw P T n) : ∃ d, P.underlying T = some d ∧ d.isRow = true ∧ (P.info? T).map (·.size) = some n := by
  have h := i.h
  unfold trw at h
  cases hu : P.underlying T with
  | none => rw [hu] at h; cases h
  | some d =>
    rw [hu] at h
    dsimp only at h
    cases hd : d.isRow with
    | true => rw [hd, if_pos rfl] at h; exact ⟨d, rfl, hd, h⟩
    | false => rw [hd, if_neg (by decide)] at h; cases h
theorem TFo.get {T f off : Nat} (i : TFo P T f off) : ∃ fs fl inf s, P.underlying T = some (.struct fs) ∧ fs[f]? = some fl ∧ fl.offset = off ∧ P.info? fl.type = some inf ∧ inf.size = s + 1 := by
  have h := i.h
  unfold tfo at h
  split at h
  · rename_i fs hu
    split at h
    · rename_i fl hf
      cases hi : P.info? fl.type with
      | none => rw [hi] at h; simp at h
      | some inf =>
        rw [hi] at h
        cases hs : inf.size with
        | zero => simp [hs] at h
        | succ s =>
          simp only [Option.map_some, hs, Option.some.injEq] at h
          exact ⟨fs, fl, inf, s, hu, hf, h, hi, hs⟩
    · cases h
  · cases h
theorem TSl.get {T e n : Nat} (i : TSl P T e n) : ∃ inf, P.underlying T = some (.slice e) ∧ P.info? e = some inf ∧ inf.size = n := by
  have h := i.h
  unfold tsl at h
  split at h
  · rename_i e' hu
    cases hi : P.info? e' with
    | none => rw [hi] at h; cases h
    | some inf =>
      rw [hi] at h
      simp only [Option.map_some, Option.some.injEq, Prod.mk.injEq] at h
      obtain ⟨rfl, rfl⟩ := h
      exact ⟨inf, hu, hi, rfl⟩
  · cases h

variable {a : Act} {W : World} {o : Oper}
/-- The operation yields v (and leaves the world alone). -/
def Yld (P : Program) (a : Act) (W : World) (op : Op) (v : Value) : Prop := ∀ o : Oper, o.op = op → (execOp a.eval o).run P W = .ok (.value v) W

theorem Yld.nd {op : Op} {v : Value} (h : Yld P a W op v) (ho : o.op = op) : ∀ c, o.op ≠ .defer c := by
  intro c hc
  have h1 := h o ho
  unfold execOp at h1
  simp only [hc] at h1
  rw [Sem.run_bind] at h1
  generalize (resolve a.eval c o.type).run P W = r at h1
  cases r with
  | ok d w => simp [Result.andThen] at h1
  | halt e w => simp [Result.andThen] at h1
theorem yl_move {x : Operand} : Yld P a W (.move x) (a.eval x) := by
  intro o ho; unfold execOp; simp only [ho]; rfl
theorem yl_assign {x : Operand} : Yld P a W (.assign x) (a.eval x) := by
  intro o ho; unfold execOp; simp only [ho]; rfl
theorem yl_pick {c x y : Operand} {t : Bool} (hc : a.eval c = .bool t) : Yld P a W (.pick c x y) (if t then a.eval x else a.eval y) := by
  intro o ho; unfold execOp; simp [ho, hc, asBool]
theorem isAgg_false {T : TypeId} {d : TypeDesc} (hu : P.underlying T = some d) (hd : d.isRow = false) : (isAgg T).run P W = .ok false W := by
  unfold isAgg
  rw [Sem.run_bind, run_underlying hu W]
  cases d <;> simp_all
theorem yl_load {T : TypeId} {x : Operand} {b off : Nat} {v : Value} (hT : TSc P T) (hx : a.eval x = .pointer (some ⟨b, off, none⟩)) (hc : W.cell? ⟨b, off, none⟩ = some v) : Yld P a W (.load T x) v := by
  intro o ho
  obtain ⟨d, hu, hd⟩ := hT.get
  have hl : (load ⟨b, off, none⟩ Mode.plain).run P W = .ok v W := by simp [hc]
  unfold execOp
  simp only [ho, hx, Instr.loadAt, Instr.sureAddr, Sem.run_bind, Sem.run_pure, Result.andThen_ok, loadVar, isAgg_false hu hd]
  simp [hl]
theorem yl_loadR {T n : Nat} {x : Operand} {b off : Nat} {vs : List Value} (hT : TRw P T n) (hx : a.eval x = .pointer (some ⟨b, off, none⟩)) (hc : W.rangeAt b off vs) (hn : vs.length = n) : Yld P a W (.load T x) (.agg vs.toArray) := by
  intro o ho
  obtain ⟨d, hu, hd, hi⟩ := hT.get
  exact exec_ld T x ho hx hc hu hd (by rw [hi, hn])
theorem yl_fieldAddr {T f off : Nat} {x : Operand} {b o : Nat} (hT : TFo P T f off) (hx : a.eval x = .pointer (some ⟨b, o, none⟩)) : Yld P a W (.fieldAddr T x f) (.pointer (some ⟨b, o + off, none⟩)) := by
  intro op ho
  obtain ⟨fs, fl, inf, s, hu, hf, ho2, hi, hs⟩ := hT.get
  unfold execOp
  simp [ho, hx, Instr.fieldAt, Instr.sureAddr, run_underlying hu, hf, fieldPlace, sizeOf, typeInfo, hi, hs, ho2, Addr.add_mid]
theorem yl_extract {x : Operand} {vs : Array Value} {i : Nat} {v : Value} (hx : a.eval x = .tuple vs) (hi : vs[i]? = some v) : Yld P a W (.extract x i) v := by
  intro op ho
  unfold execOp
  simp [ho, hx, Instr.extract, hi]
theorem yl_unNot {T : TypeId} {x : Operand} {b : Bool} (hx : a.eval x = .bool b) : Yld P a W (.unOp .not T x) (.bool !b) := by
  intro op ho
  unfold execOp
  simp [ho, hx, Op.unary]
theorem yl_neg {T : TypeId} {x : Operand} {k : IntKind} {n : Int} (hx : a.eval x = .int k n) : Yld P a W (.unOp .neg T x) (.int k (k.wrap (0 - n))) := by
  intro op ho
  unfold execOp
  simp [ho, hx, Op.unary, Op.intArith]

section
variable {T T' : TypeId} {x y : Operand} {k : IntKind} {m n : Int} (hx : a.eval x = .int k m) (hy : a.eval y = .int k n)
include hx hy
theorem yl_add : Yld P a W (.binOp .add T x y T') (.int k (k.wrap (m + n))) := by
  intro op ho; unfold execOp; simp [ho, hx, hy, eqGuard, binOp, Op.intArith]
theorem yl_sub : Yld P a W (.binOp .sub T x y T') (.int k (k.wrap (m - n))) := by
  intro op ho; unfold execOp; simp [ho, hx, hy, eqGuard, binOp, Op.intArith]
theorem yl_mul : Yld P a W (.binOp .mul T x y T') (.int k (k.wrap (m * n))) := by
  intro op ho; unfold execOp; simp [ho, hx, hy, eqGuard, binOp, Op.intArith]
theorem yl_quo (h0 : n ≠ 0) : Yld P a W (.binOp .quo T x y T') (.int k (k.wrap (m.tdiv n))) := by
  intro op ho; unfold execOp; simp [ho, hx, hy, eqGuard, binOp, Op.intDiv, h0]
theorem yl_rem (h0 : n ≠ 0) : Yld P a W (.binOp .rem T x y T') (.int k (m.tmod n)) := by
  intro op ho; unfold execOp; simp [ho, hx, hy, eqGuard, binOp, Op.intDiv, h0]
theorem yl_lss : Yld P a W (.binOp .lss T x y T') (.bool (decide (m < n))) := by
  intro op ho; unfold execOp; simp [ho, hx, hy, eqGuard, binOp, Op.intCmp]
theorem yl_leq : Yld P a W (.binOp .leq T x y T') (.bool (decide (m ≤ n))) := by
  intro op ho; unfold execOp; simp [ho, hx, hy, eqGuard, binOp, Op.intCmp]
theorem yl_gtr : Yld P a W (.binOp .gtr T x y T') (.bool (decide (n < m))) := by
  intro op ho; unfold execOp; simp [ho, hx, hy, eqGuard, binOp, Op.intCmp]
theorem yl_geq : Yld P a W (.binOp .geq T x y T') (.bool (decide (n ≤ m))) := by
  intro op ho; unfold execOp; simp [ho, hx, hy, eqGuard, binOp, Op.intCmp]
theorem yl_eql : Yld P a W (.binOp .eql T x y T') (.bool (decide (m = n))) := by
  intro op ho; unfold execOp; simp [ho, hx, hy, eqGuard, binOp, Op.intCmp]; rfl
theorem yl_neq : Yld P a W (.binOp .neq T x y T') (.bool (!decide (m = n))) := by
  intro op ho; unfold execOp; simp [ho, hx, hy, eqGuard, binOp, Op.intCmp]; rfl
end
theorem yl_len {T : TypeId} {e n : Nat} {x : Operand} {p : Option Addr} {len c : Nat} (hT : TSl P T e n) (hx : a.eval x = .slice p len c) : Yld P a W (.call { callee := .builtin .len, args := #[x], argTypes := #[T] }) (.int .i64 len) := by
  intro op ho
  obtain ⟨inf, hu, hi, hs⟩ := hT.get
  unfold execOp
  simp [ho, resolve, invoke, builtin, Builtin.len_, hx, run_underlying hu, goInt]
theorem yl_indexAddr {T : TypeId} {e m : Nat} {x y : Operand} {b o len c : Nat} {k : IntKind} {i : Int} (hT : TSl P T e m) (hx : a.eval x = .slice (some ⟨b, o, none⟩) len c) (hy : a.eval y = .int k i) (h0 : 0 ≤ i) (h1 : i < len) :
    Yld P a W (.indexAddr T x y) (.pointer (some ⟨b, o + i.toNat * m, none⟩)) := by
  intro op ho
  obtain ⟨inf, hu, hi, hs⟩ := hT.get
  unfold execOp
  simp [ho, hx, hy, Instr.indexAt, asIntOf, run_underlying hu, sizeOf, typeInfo, hi, hs, h0, h1, Addr.add_mid]
theorem yl_field {T f off ft : Nat} {x : Operand} {vs : List Value} {v : Value} (hT : TFo P T f off) (hF : TFt P T f ft) (hS : TSc P ft) (hx : a.eval x = .agg vs.toArray) (hv : vs[off]? = some v) : Yld P a W (.field T x f) v := by
  intro op ho
  obtain ⟨fs, fl, inf, s, hu, hf, ho2, hi, hs⟩ := hT.get
  obtain ⟨d, hu2, hd⟩ := hS.get
  have h2 : fl.type = ft := by
    have := hF.h
    unfold tft at this
    rw [hu] at this
    dsimp only at this
    rw [hf] at this
    exact this
  subst h2
  have hq : (isAgg fl.type).run P W = .ok false W := isAgg_false hu2 hd
  have hlt : off < vs.length := (List.getElem?_eq_some_iff.1 hv).1
  unfold execOp
  simp [ho, hx, Instr.field, asAgg, run_underlying hu, hf, part, hq, ho2, hv]
end

end Go.Proofs.Ytmajkjkakciaiaa

set_option linter.unusedSimpArgs false
set_option linter.unusedVariables false
namespace Go.Proofs.Ytmajkjkakciaiaa
open Go.RowKit

/-- A constant. -/
def cst (v : Value) : Option AV := bif v.oneCell' then some (.d (.s v)) else match v with
  | .agg cs => bif cs.toList.all (·.oneCell') then some (.d (.st (cs.toList.map .s))) else none
  | _ => none
/-- What an operand is. -/
def ev (al : List (Nat × AV)) : Operand → Option AV
  | .tmp n => lk al n
  | .const v => cst v
  | .func f => some (.fn f [])
  | .global _ => none
theorem RL.consts {own : Nat → Prop} {W : World} : ∀ vs : List Value, vs.all (·.oneCell') = true → RL own W vs (vs.map .s)
  | [], _ => .nil
  | v :: vs, h => by
    simp only [List.all_cons, Bool.and_eq_true] at h
    exact .cons (.s h.1) (RL.consts vs h.2)
section
variable {P : Program} {X : Cx} {al : List (Nat × AV)} {bs : Bs} {E : Env} {a : Act} {W : World}
theorem cst_ok {dm own : Nat → Prop} {v : Value} {y : AV} (h : cst v = some y) : RA E dm own W v y := by
  unfold cst at h
  cases h1 : v.oneCell' with
  | true =>
    rw [h1, cond_true, Option.some.injEq] at h
    subst h
    exact .d (.s h1)
  | false =>
    rw [h1, cond_false] at h
    cases v with
    | agg cs =>
      dsimp only at h
      cases h2 : cs.toList.all (·.oneCell') with
      | true =>
        rw [h2, cond_true, Option.some.injEq] at h
        subst h
        have := RD.st (RL.consts (own := own) (W := W) _ h2)
        rw [Array.toArray_toList] at this
        exact .d this
      | false => rw [h2, cond_false] at h; cases h
    | _ => simp_all [Value.oneCell']
theorem HdE.ev (h : HdE P X al bs E a W) {x : Operand} {y : AV} (hx : ev al x = some y) : RA E (dom bs) (ownS E X.o bs) W (a.eval x) y := by
  cases x with
  | tmp n =>
    obtain ⟨v, h1, h2⟩ := h.sl n y hx
    have : a.eval (.tmp n) = v := by
      show a.tmps.getD n undef = v
      rw [Array.getD_eq_getD_getElem?, h1]
      rfl
    rw [this]
    exact h2
  | const v => exact cst_ok hx
  | global g => cases hx
  | func f =>
    simp only [Proofs.Ytmajkjkakciaiaa.ev, Option.some.injEq] at hx
    subst hx
    exact RA.fn (vs := []) .nil

/-- The slots that an operation reads. -/
def opT (op : Op) : List Nat := op.operands.toList.filterMap fun | .tmp n => some n | _ => none
/-- The two tell the same of what the operation reads. -/
def Loc (op : Op) (al al2 : List (Nat × AV)) : Prop := ∀ n ∈ opT op, lk al2 n = lk al n
theorem Loc.ev {op : Op} {al2 : List (Nat × AV)} (h : Loc op al al2) {x : Operand} {u : AV} (hx : Proofs.Ytmajkjkakciaiaa.ev al x = some u) (hm : x ∈ op.operands.toList) : Proofs.Ytmajkjkakciaiaa.ev al2 x = some u := by
  cases x with
  | tmp n => exact (h n (List.mem_filterMap.2 ⟨_, hm, rfl⟩)).trans hx
  | const v => exact hx
  | global g => exact hx
  | func f => exact hx
/-- What holds under tests that are known to say yes holds. -/
inductive Und : AV → AV → Prop
  | refl (x : AV) : Und x x
  | gd {t want : Bool} {x y : AV} (ht : t = want) (h : Und x y) : Und (.gd t want x) y
theorem Und.ra {dm own : Nat → Prop} {v : Value} {x y : AV} (u : Und x y) (h : RA E dm own W v x) : RA E dm own W v y := by
  induction u with
  | refl x => exact h
  | gd ht _ ih =>
    cases h with
    | gd h => exact ih (h ht)
/-- The operand is u, told so plainly or under tests that are known to say yes. -/
def Evd (al : List (Nat × AV)) (x : Operand) (u : AV) : Prop := ∃ y, Proofs.Ytmajkjkakciaiaa.ev al x = some y ∧ Und y u
theorem Loc.evd {op : Op} {al2 : List (Nat × AV)} (h : Loc op al al2) {x : Operand} {u : AV} (hx : Evd al x u) (hm : x ∈ op.operands.toList) : Evd al2 x u := let ⟨y, h1, h2⟩ := hx; ⟨y, h.ev h1 hm, h2⟩
theorem HdE.evd (h : HdE P X al bs E a W) {x : Operand} {u : AV} (hx : Evd al x u) : RA E (dom bs) (ownS E X.o bs) W (a.eval x) u := let ⟨y, h1, h2⟩ := hx; h2.ra (h.ev h1)
theorem Evd.of {x : Operand} {u : AV} (h : Proofs.Ytmajkjkakciaiaa.ev al x = some u) : Evd al x u := ⟨u, h, .refl u⟩
def LocB (rB : List Nat) (bs bs2 : Bs) : Prop := ∀ b ∈ rB, lk bs2 b = lk bs b
theorem LocB.at {rB : List Nat} {bs2 : Bs} (h : LocB rB bs bs2) {b : Nat} {o : Option (TypeId × List AV)} (hx : lk bs b = some o) (hm : b ∈ rB) : lk bs2 b = some o := (h b hm).trans hx
theorem Loc.refl (op : Op) : Loc op al al := fun _ _ => rfl
theorem LocB.refl (rB : List Nat) : LocB rB bs bs := fun _ _ => rfl
/-- In every state that tells the same of what it reads the operation yields a value that means x. -/
def Rd (P : Program) (X : Cx) (al : List (Nat × AV)) (bs : Bs) (rB : List Nat) (op : Op) (x : AV) : Prop :=
  ∀ al2 bs2, Loc op al al2 → LocB rB bs bs2 → ∀ E a W, HdE P X al2 bs2 E a W → ∃ v, RA E (dom bs2) (ownS E X.o bs2) W v x ∧ Yld P a W op v

/-- A list of plain cells. -/
class Pl (cs : List AV) (ds : outParam (List D)) : Prop where
  h : cs = ds.map .d
instance : Pl [] [] := ⟨rfl⟩
instance {x : D} {cs : List AV} {ds : List D} [i : Pl cs ds] : Pl (.d x :: cs) (x :: ds) := ⟨by rw [i.h]; rfl⟩
instance {ds : List D} : Pl (ds.map .d) ds := ⟨rfl⟩
/-- A list with one element changed. -/
class LSet {α : Type} (l : List α) (n : Nat) (v : α) (l' : outParam (List α)) : Prop where
  h : l.set n v = l'
instance {α : Type} {a b : α} {l : List α} : LSet (a :: l) 0 b (b :: l) := ⟨rfl⟩
instance {α : Type} {a b : α} {l l' : List α} {n : Nat} [i : LSet l n b l'] : LSet (a :: l) (n + 1) b (a :: l') := ⟨by rw [List.set_cons_succ, i.h]⟩

section
variable {x y c : Operand} {u z : AV} {k : IntKind} {m n : Int} {T T' b off : Nat}
theorem Rd.mv (hx : Evd al x u := by exact ⟨_, rfl, by (try (apply Und.gd; assumption; try (apply Und.gd; assumption; try (apply Und.gd; assumption)))); exact Und.refl _⟩) : Rd P X al bs [] (.move x) u := fun al2 bs2 hl hB E a W h => ⟨_, h.evd (hl.evd hx (by simp [Op.operands, Call.operands])), yl_move⟩
theorem Rd.as (hx : Evd al x u := by exact ⟨_, rfl, by (try (apply Und.gd; assumption; try (apply Und.gd; assumption; try (apply Und.gd; assumption)))); exact Und.refl _⟩) : Rd P X al bs [] (.assign x) u := fun al2 bs2 hl hB E a W h => ⟨_, h.evd (hl.evd hx (by simp [Op.operands, Call.operands])), yl_assign⟩
theorem RA.scalar {dm own : Nat → Prop} {v u : Value} (h : RA E dm own W v (.d (.s u))) : v = u := by
  cases h with
  | d h => cases h; rfl
theorem HdE.evs (h : HdE P X al bs E a W) {x : Operand} {v : Value} (hx : Evd al x (.d (.s v))) : a.eval x = v := (h.evd hx).scalar
theorem Rd.pkT {t : Bool} (hc : Evd al c (.d (.s (.bool t))) := by exact ⟨_, rfl, by (try (apply Und.gd; assumption; try (apply Und.gd; assumption; try (apply Und.gd; assumption)))); exact Und.refl _⟩) (ht : t = true := by first | rfl | assumption | (simp; omega)) (hx : Evd al x u := by exact ⟨_, rfl, by (try (apply Und.gd; assumption; try (apply Und.gd; assumption; try (apply Und.gd; assumption)))); exact Und.refl _⟩) : Rd P X al bs [] (.pick c x y) u := fun al2 bs2 hl hB E a W h => by
  subst ht
  exact ⟨_, h.evd (hl.evd hx (by simp [Op.operands, Call.operands])), yl_pick (h.evs (hl.evd hc (by simp [Op.operands, Call.operands])))⟩
theorem Rd.pkF {t : Bool} (hc : Evd al c (.d (.s (.bool t))) := by exact ⟨_, rfl, by (try (apply Und.gd; assumption; try (apply Und.gd; assumption; try (apply Und.gd; assumption)))); exact Und.refl _⟩) (ht : t = false := by first | rfl | assumption | (simp; omega)) (hy : Evd al y u := by exact ⟨_, rfl, by (try (apply Und.gd; assumption; try (apply Und.gd; assumption; try (apply Und.gd; assumption)))); exact Und.refl _⟩) : Rd P X al bs [] (.pick c x y) u := fun al2 bs2 hl hB E a W h => by
  subst ht
  exact ⟨_, h.evd (hl.evd hy (by simp [Op.operands, Call.operands])), yl_pick (h.evs (hl.evd hc (by simp [Op.operands, Call.operands])))⟩
/-- '||' and '&&', the second part told under a guard. -/
theorem Rd.pkOr {t q : Bool} (hc : Evd al c (.d (.s (.bool t))) := by exact ⟨_, rfl, by (try (apply Und.gd; assumption; try (apply Und.gd; assumption; try (apply Und.gd; assumption)))); exact Und.refl _⟩) (hx : Evd al x (.d (.s (.bool true))) := by exact ⟨_, rfl, .refl _⟩) (hy : Evd al y (.gd t false (.d (.s (.bool q)))) := by exact ⟨_, rfl, by (try (apply Und.gd; assumption; try (apply Und.gd; assumption; try (apply Und.gd; assumption)))); exact Und.refl _⟩) : Rd P X al bs [] (.pick c x y) (.d (.s (.bool (t || q)))) := fun al2 bs2 hl hB E a W h => by
  have h1 := h.evs (hl.evd hc (by simp [Op.operands]))
  have h2 := h.evs (hl.evd hx (by simp [Op.operands]))
  have h3 := h.evd (hl.evd hy (by simp [Op.operands]))
  have := yl_pick (P := P) (W := W) (x := x) (y := y) h1
  refine ⟨_, .d (.s (by cases t <;> rfl)), ?_⟩
  cases t with
  | true => rw [h2] at this; exact this
  | false =>
    generalize a.eval y = v at h3 this
    cases h3 with
    | gd h3 =>
      obtain rfl := (h3 rfl).scalar
      exact this
theorem Rd.pkAnd {t q : Bool} (hc : Evd al c (.d (.s (.bool t))) := by exact ⟨_, rfl, by (try (apply Und.gd; assumption; try (apply Und.gd; assumption; try (apply Und.gd; assumption)))); exact Und.refl _⟩) (hx : Evd al x (.gd t true (.d (.s (.bool q)))) := by exact ⟨_, rfl, by (try (apply Und.gd; assumption; try (apply Und.gd; assumption; try (apply Und.gd; assumption)))); exact Und.refl _⟩) (hy : Evd al y (.d (.s (.bool false))) := by exact ⟨_, rfl, .refl _⟩) : Rd P X al bs [] (.pick c x y) (.d (.s (.bool (t && q)))) := fun al2 bs2 hl hB E a W h => by
  have h1 := h.evs (hl.evd hc (by simp [Op.operands]))
  have h2 := h.evs (hl.evd hy (by simp [Op.operands]))
  have h3 := h.evd (hl.evd hx (by simp [Op.operands]))
  have := yl_pick (P := P) (W := W) (x := x) (y := y) h1
  refine ⟨_, .d (.s (by cases t <;> rfl)), ?_⟩
  cases t with
  | false => rw [h2] at this; exact this
  | true =>
    generalize a.eval x = v at h3 this
    cases h3 with
    | gd h3 =>
      obtain rfl := (h3 rfl).scalar
      exact this
theorem HdE.blk (h : HdE P X al bs E a W) {b : Nat} {T : TypeId} {cs : List AV} (hb : lk bs b = some (some (T, cs))) (hn : E.nl b = false) : ∃ vs sp m n c, Blk W (E.A b) T (vs ++ sp) ∧ RAL E (dom bs) (ownS E X.o bs) W vs cs ∧ (P.info? T).map (·.size) = some m ∧ E.V b = .slice (some ⟨E.A b, 0, none⟩) n c ∧ n ≤ c ∧ c ≤ maxLen ∧ vs.length = n * m ∧ (vs ++ sp).length = c * m := by
  rcases h.bk b T cs hb with ⟨h1, _⟩ | ⟨_, h1⟩
  · rw [hn] at h1; cases h1
  · exact h1
theorem RAL.at {dm own : Nat → Prop} {vs sp : List Value} {cs : List AV} (hr : RAL E dm own W vs cs) {off : Nat} {u : AV} (hc : cs[off]? = some u) : ∃ v, (vs ++ sp)[off]? = some v ∧ RA E dm own W v u := by
  obtain ⟨v, h1, h2⟩ := hr.get off u hc
  exact ⟨v, by rw [List.getElem?_append_left (List.getElem?_eq_some_iff.1 h1).1]; exact h1, h2⟩
/-- A variable is read. -/
theorem Rd.ldp {cs : List AV} [hT : TSc P T] (hx : Evd al x (.p b off) := by exact ⟨_, rfl, by (try (apply Und.gd; assumption; try (apply Und.gd; assumption; try (apply Und.gd; assumption)))); exact Und.refl _⟩) (hb : lk bs b = some (some (T', cs)) := by rfl) (hc : cs[off]? = some u := by rfl) : Rd P X al bs [b] (.load T x) u := fun al2 bs2 hl hB E a W h => by
  have hv := h.evd (hl.evd hx (by simp [Op.operands, Call.operands]))
  generalize hq : a.eval x = q at hv
  cases hv with
  | p hb' hn =>
    obtain ⟨vs, sp, m, n, c, h1, h2, _⟩ := h.blk (hB.at hb (List.mem_cons_self ..)) hn
    obtain ⟨v, h3, h4⟩ := h2.at (sp := sp) hc
    exact ⟨v, h4, yl_load hT hq ((h1.cell off).trans h3)⟩
theorem Rd.lde {row : List D} {d : D} [hT : TSc P T] (hx : Evd al x (.e row off) := by exact ⟨_, rfl, by (try (apply Und.gd; assumption; try (apply Und.gd; assumption; try (apply Und.gd; assumption)))); exact Und.refl _⟩) (hc : row[off]? = some d := by rfl) : Rd P X al bs [] (.load T x) (.d d) := fun al2 bs2 hl hB E a W h => by
  have hv := h.evd (hl.evd hx (by simp [Op.operands, Call.operands]))
  generalize hq : a.eval x = q at hv
  cases hv with | d hv => cases hv with
  | pe hr ho h1 h2 =>
    obtain ⟨v, h3, h4⟩ := h2.get off d hc
    exact ⟨v, .d h4, yl_load hT hq (h1 off v h3)⟩
/-- A struct is read. -/
theorem Rd.ldpS {N : Nat} {cs : List AV} {ds : List D} [hT : TRw P T N] (hx : Evd al x (.p b off) := by exact ⟨_, rfl, by (try (apply Und.gd; assumption; try (apply Und.gd; assumption; try (apply Und.gd; assumption)))); exact Und.refl _⟩) (hb : lk bs b = some (some (T', cs)) := by rfl) (hN : cs.length = N := by rfl) (h0 : off = 0 := by rfl) [hp : Pl cs ds] : Rd P X al bs [b] (.load T x) (.d (.st ds)) := fun al2 bs2 hl hB E a W h => by
  subst h0
  have hv := h.evd (hl.evd hx (by simp [Op.operands, Call.operands]))
  generalize hq : a.eval x = q at hv
  cases hv with
  | p hb' hn =>
    obtain ⟨vs, sp, m, n, c, h1, h2, _⟩ := h.blk (hB.at hb (List.mem_cons_self ..)) hn
    have hl := h2.len
    rw [hp.h] at h2
    refine ⟨_, .d (.st h2.unmap), yl_loadR hT hq ?_ (hl.trans hN)⟩
    exact h1.rangeIn 0 vs (fun j hj => by rw [Nat.zero_add, List.getElem?_append_left hj])
theorem Rd.ldpA {N : Nat} {cs : List AV} [hT : TRw P T N] (hx : Evd al x (.p b off) := by exact ⟨_, rfl, by (try (apply Und.gd; assumption; try (apply Und.gd; assumption; try (apply Und.gd; assumption)))); exact Und.refl _⟩) (hb : lk bs b = some (some (T', cs)) := by rfl) (hN : cs.length = N := by rfl) (h0 : off = 0 := by rfl) : Rd P X al bs [b] (.load T x) (.st cs) := fun al2 bs2 hl hB E a W h => by
  subst h0
  have hv := h.evd (hl.evd hx (by simp [Op.operands, Call.operands]))
  generalize hq : a.eval x = q at hv
  cases hv with
  | p hb' hn =>
    obtain ⟨vs, sp, m, n, c, h1, h2, _⟩ := h.blk (hB.at hb (List.mem_cons_self ..)) hn
    refine ⟨_, .st h2, yl_loadR hT hq ?_ (h2.len.trans hN)⟩
    exact h1.rangeIn 0 vs (fun j hj => by rw [Nat.zero_add, List.getElem?_append_left hj])
/-- A part of a struct is read. -/
theorem Rd.ldpP {N : Nat} {cs : List AV} {ds : List D} [hT : TRw P T N] (hx : Evd al x (.p b off) := by exact ⟨_, rfl, by (try (apply Und.gd; assumption; try (apply Und.gd; assumption; try (apply Und.gd; assumption)))); exact Und.refl _⟩) (hb : lk bs b = some (some (T', cs)) := by rfl) (hN : (cs.drop off).take N = ds.map .d := by rfl) (hdl : ds.length = N := by rfl) : Rd P X al bs [b] (.load T x) (.d (.st ds)) := fun al2 bs2 hl hB E a W h => by
  have hv := h.evd (hl.evd hx (by simp [Op.operands, Call.operands]))
  generalize hq : a.eval x = q at hv
  cases hv with
  | p hb' hn =>
    obtain ⟨vs, sp, m, n, c, h1, h2, _⟩ := h.blk (hB.at hb (List.mem_cons_self ..)) hn
    have h3 := (h2.drop off).take N
    have hlen := h3.len
    rw [hN] at h3 hlen
    have hle : (List.take N (List.drop off vs)).length = N := by rw [hlen, List.length_map, hdl]
    refine ⟨_, .d (.st h3.unmap), yl_loadR hT hq ?_ hle⟩
    refine h1.rangeIn off _ (fun j hj => ?_)
    rw [hle] at hj
    have h4 : N ≤ vs.length - off := by
      have h5 := hle
      simp only [List.length_take, List.length_drop] at h5
      omega
    rw [List.getElem?_append_left (by omega), List.getElem?_take_of_lt hj, List.getElem?_drop]
theorem Rd.ldeS {N : Nat} {row : List D} [hT : TRw P T N] (hx : Evd al x (.e row off) := by exact ⟨_, rfl, by (try (apply Und.gd; assumption; try (apply Und.gd; assumption; try (apply Und.gd; assumption)))); exact Und.refl _⟩) (hN : row.length = N := by rfl) (h0 : off = 0 := by rfl) : Rd P X al bs [] (.load T x) (.d (.st row)) := fun al2 bs2 hl hB E a W h => by
  subst h0
  have hv := h.evd (hl.evd hx (by simp [Op.operands, Call.operands]))
  generalize hq : a.eval x = q at hv
  cases hv with | d hv => cases hv with
  | pe hr ho h1 h2 => exact ⟨_, .d (.st h2), yl_loadR hT hq h1 (h2.len.trans hN)⟩
theorem Rd.ldeP {N : Nat} {row ds : List D} [hT : TRw P T N] (hx : Evd al x (.e row off) := by exact ⟨_, rfl, by (try (apply Und.gd; assumption; try (apply Und.gd; assumption; try (apply Und.gd; assumption)))); exact Und.refl _⟩) (hN : (row.drop off).take N = ds := by rfl) (hdl : ds.length = N := by rfl) : Rd P X al bs [] (.load T x) (.d (.st ds)) := fun al2 bs2 hl hB E a W h => by
  have hv := h.evd (hl.evd hx (by simp [Op.operands, Call.operands]))
  generalize hq : a.eval x = q at hv
  cases hv with | d hv => cases hv with
  | @pe r o _ vs _ hr ho h1 h2 =>
    have h3 := (h2.drop off).take N
    rw [hN] at h3
    have hle := h3.len.trans hdl
    refine ⟨_, .d (.st h3), yl_loadR hT hq ?_ hle⟩
    have h4 := h1
    intro j v hv
    have hj : j < N := by have := (List.getElem?_eq_some_iff.1 hv).1; omega
    rw [List.getElem?_take_of_lt hj, List.getElem?_drop] at hv
    rw [Nat.add_assoc]
    exact h4 (off + j) v hv
theorem Rd.fap {f o o' : Nat} [hT : TFo P T f o] (hx : Evd al x (.p b off) := by exact ⟨_, rfl, by (try (apply Und.gd; assumption; try (apply Und.gd; assumption; try (apply Und.gd; assumption)))); exact Und.refl _⟩) (ho : off + o = o' := by first | (simp only [Nat.reduceAdd] <;> rfl) | rfl) : Rd P X al bs [] (.fieldAddr T x f) (.p b o') := fun al2 bs2 hl hB E a W h => by
  subst ho
  have hv := h.evd (hl.evd hx (by simp [Op.operands, Call.operands]))
  generalize hq : a.eval x = q at hv
  cases hv with
  | p hb' hn => exact ⟨_, .p hb' hn, yl_fieldAddr hT hq⟩
theorem Rd.fae {f o o' : Nat} {row : List D} [hT : TFo P T f o] (hx : Evd al x (.e row off) := by exact ⟨_, rfl, by (try (apply Und.gd; assumption; try (apply Und.gd; assumption; try (apply Und.gd; assumption)))); exact Und.refl _⟩) (ho : off + o = o' := by first | (simp only [Nat.reduceAdd] <;> rfl) | rfl) : Rd P X al bs [] (.fieldAddr T x f) (.e row o') := fun al2 bs2 hl hB E a W h => by
  subst ho
  have hv := h.evd (hl.evd hx (by simp [Op.operands, Call.operands]))
  generalize hq : a.eval x = q at hv
  cases hv with | d hv => cases hv with
  | @pe r o' _ vs _ hr ho h1 h2 =>
    refine ⟨_, .d (.pe hr ho h1 h2), ?_⟩
    have := yl_fieldAddr (P := P) (W := by assumption) hT hq
    rw [Nat.add_assoc] at this
    exact this
theorem Rd.fld {f o ft : Nat} {ds : List D} {d : D} [hT : TFo P T f o] [hF : TFt P T f ft] [hS : TSc P ft] (hx : Evd al x (.d (.st ds)) := by exact ⟨_, rfl, by (try (apply Und.gd; assumption; try (apply Und.gd; assumption; try (apply Und.gd; assumption)))); exact Und.refl _⟩) (hc : ds[o]? = some d := by rfl) : Rd P X al bs [] (.field T x f) (.d d) := fun al2 bs2 hl hB E a W h => by
  have hv := h.evd (hl.evd hx (by simp [Op.operands, Call.operands]))
  generalize hq : a.eval x = q at hv
  cases hv with
  | d h' =>
    cases h' with
    | st h2 =>
      obtain ⟨v, h3, h4⟩ := h2.get o d hc
      exact ⟨v, .d h4, yl_field hT hF hS hq h3⟩
theorem Rd.fldA {f o ft : Nat} {cs : List AV} [hT : TFo P T f o] [hF : TFt P T f ft] [hS : TSc P ft] (hx : Evd al x (.st cs) := by exact ⟨_, rfl, by (try (apply Und.gd; assumption; try (apply Und.gd; assumption; try (apply Und.gd; assumption)))); exact Und.refl _⟩) (hc : cs[o]? = some u := by rfl) : Rd P X al bs [] (.field T x f) u := fun al2 bs2 hl hB E a W h => by
  have hv := h.evd (hl.evd hx (by simp [Op.operands, Call.operands]))
  generalize hq : a.eval x = q at hv
  cases hv with
  | st h2 =>
    obtain ⟨v, h3, h4⟩ := h2.get o u hc
    exact ⟨v, h4, yl_field hT hF hS hq h3⟩
theorem Rd.ext {i : Nat} {ds : List D} {d : D} (hx : Evd al x (.d (.tup ds)) := by exact ⟨_, rfl, by (try (apply Und.gd; assumption; try (apply Und.gd; assumption; try (apply Und.gd; assumption)))); exact Und.refl _⟩) (hc : ds[i]? = some d := by rfl) : Rd P X al bs [] (.extract x i) (.d d) := fun al2 bs2 hl hB E a W h => by
  have hv := h.evd (hl.evd hx (by simp [Op.operands, Call.operands]))
  generalize hq : a.eval x = q at hv
  cases hv with
  | d h' =>
    cases h' with
    | tup h2 =>
      obtain ⟨v, h3, h4⟩ := h2.get i d hc
      exact ⟨v, .d h4, yl_extract hq (by simpa using h3)⟩
theorem Rd.extA {i : Nat} {cs : List AV} (hx : Evd al x (.tup cs) := by exact ⟨_, rfl, by (try (apply Und.gd; assumption; try (apply Und.gd; assumption; try (apply Und.gd; assumption)))); exact Und.refl _⟩) (hc : cs[i]? = some u := by rfl) : Rd P X al bs [] (.extract x i) u := fun al2 bs2 hl hB E a W h => by
  have hv := h.evd (hl.evd hx (by simp [Op.operands, Call.operands]))
  generalize hq : a.eval x = q at hv
  cases hv with
  | tup h2 =>
    obtain ⟨v, h3, h4⟩ := h2.get i u hc
    exact ⟨v, h4, yl_extract hq (by simpa using h3)⟩
theorem Rd.not {t : Bool} (hx : Evd al x (.d (.s (.bool t))) := by exact ⟨_, rfl, by (try (apply Und.gd; assumption; try (apply Und.gd; assumption; try (apply Und.gd; assumption)))); exact Und.refl _⟩) : Rd P X al bs [] (.unOp .not T x) (.d (.s (.bool !t))) := fun al2 bs2 hl hB E a W h => ⟨_, .d (.s rfl), yl_unNot (h.evs (hl.evd hx (by simp [Op.operands, Call.operands])))⟩
section
variable {z : Int} (hx : Evd al x (.d (.s (.int k m))) := by exact ⟨_, rfl, by (try (apply Und.gd; assumption; try (apply Und.gd; assumption; try (apply Und.gd; assumption)))); exact Und.refl _⟩) (hy : Evd al y (.d (.s (.int k n))) := by exact ⟨_, rfl, by (try (apply Und.gd; assumption; try (apply Und.gd; assumption; try (apply Und.gd; assumption)))); exact Und.refl _⟩)
include hx hy
theorem Rd.add (hz : k.wrap (m + n) = z := by first | exact Yq _ (by omega) | rfl) : Rd P X al bs [] (.binOp .add T x y T') (.d (.s (.int k z))) := fun al2 bs2 hl hB E a W h => ⟨_, .d (.s rfl), by rw [← hz]; exact yl_add (h.evs (hl.evd hx (by simp [Op.operands, Call.operands]))) (h.evs (hl.evd hy (by simp [Op.operands, Call.operands])))⟩
theorem Rd.sub (hz : k.wrap (m - n) = z := by first | exact Yq _ (by omega) | rfl) : Rd P X al bs [] (.binOp .sub T x y T') (.d (.s (.int k z))) := fun al2 bs2 hl hB E a W h => ⟨_, .d (.s rfl), by rw [← hz]; exact yl_sub (h.evs (hl.evd hx (by simp [Op.operands, Call.operands]))) (h.evs (hl.evd hy (by simp [Op.operands, Call.operands])))⟩
theorem Rd.mul (hz : k.wrap (m * n) = z := by first | exact Yq _ (by omega) | rfl) : Rd P X al bs [] (.binOp .mul T x y T') (.d (.s (.int k z))) := fun al2 bs2 hl hB E a W h => ⟨_, .d (.s rfl), by rw [← hz]; exact yl_mul (h.evs (hl.evd hx (by simp [Op.operands, Call.operands]))) (h.evs (hl.evd hy (by simp [Op.operands, Call.operands])))⟩
theorem Rd.quo (h0 : n ≠ 0 := by first | decide | omega) (hz : k.wrap (m.tdiv n) = z := by first | exact (congrArg IntKind.i64.wrap (Int.tdiv_eq_ediv_of_nonneg (by omega))).trans (Yq _ (by omega)) | exact (congrArg IntKind.i64.wrap (Int.tdiv_eq_ediv_of_nonneg (by omega))).trans (by assumption) | rfl) : Rd P X al bs [] (.binOp .quo T x y T') (.d (.s (.int k z))) := fun al2 bs2 hl hB E a W h => ⟨_, .d (.s rfl), by rw [← hz]; exact yl_quo (h.evs (hl.evd hx (by simp [Op.operands, Call.operands]))) (h.evs (hl.evd hy (by simp [Op.operands, Call.operands]))) h0⟩
theorem Rd.rem (h0 : n ≠ 0 := by first | decide | omega) (hz : m.tmod n = z := by first | exact Int.tmod_eq_emod_of_nonneg (by omega) | rfl) : Rd P X al bs [] (.binOp .rem T x y T') (.d (.s (.int k z))) := fun al2 bs2 hl hB E a W h => ⟨_, .d (.s rfl), by rw [← hz]; exact yl_rem (h.evs (hl.evd hx (by simp [Op.operands, Call.operands]))) (h.evs (hl.evd hy (by simp [Op.operands, Call.operands]))) h0⟩
theorem Rd.lss : Rd P X al bs [] (.binOp .lss T x y T') (.d (.s (.bool (decide (m < n))))) := fun al2 bs2 hl hB E a W h => ⟨_, .d (.s rfl), yl_lss (h.evs (hl.evd hx (by simp [Op.operands, Call.operands]))) (h.evs (hl.evd hy (by simp [Op.operands, Call.operands])))⟩
theorem Rd.leq : Rd P X al bs [] (.binOp .leq T x y T') (.d (.s (.bool (decide (m ≤ n))))) := fun al2 bs2 hl hB E a W h => ⟨_, .d (.s rfl), yl_leq (h.evs (hl.evd hx (by simp [Op.operands, Call.operands]))) (h.evs (hl.evd hy (by simp [Op.operands, Call.operands])))⟩
theorem Rd.gtr : Rd P X al bs [] (.binOp .gtr T x y T') (.d (.s (.bool (decide (n < m))))) := fun al2 bs2 hl hB E a W h => ⟨_, .d (.s rfl), yl_gtr (h.evs (hl.evd hx (by simp [Op.operands, Call.operands]))) (h.evs (hl.evd hy (by simp [Op.operands, Call.operands])))⟩
theorem Rd.geq : Rd P X al bs [] (.binOp .geq T x y T') (.d (.s (.bool (decide (n ≤ m))))) := fun al2 bs2 hl hB E a W h => ⟨_, .d (.s rfl), yl_geq (h.evs (hl.evd hx (by simp [Op.operands, Call.operands]))) (h.evs (hl.evd hy (by simp [Op.operands, Call.operands])))⟩
theorem Rd.eql : Rd P X al bs [] (.binOp .eql T x y T') (.d (.s (.bool (m == n)))) := fun al2 bs2 hl hB E a W h => ⟨_, .d (.s rfl), yl_eql (h.evs (hl.evd hx (by simp [Op.operands, Call.operands]))) (h.evs (hl.evd hy (by simp [Op.operands, Call.operands])))⟩
theorem Rd.neq : Rd P X al bs [] (.binOp .neq T x y T') (.d (.s (.bool (m != n)))) := fun al2 bs2 hl hB E a W h => ⟨_, .d (.s rfl), yl_neq (h.evs (hl.evd hx (by simp [Op.operands, Call.operands]))) (h.evs (hl.evd hy (by simp [Op.operands, Call.operands])))⟩
end
theorem Rd.lenL {e sz : Nat} {rows : List (List D)} [hT : TSl P T e sz] (hx : Evd al x (.d (.l rows)) := by exact ⟨_, rfl, by (try (apply Und.gd; assumption; try (apply Und.gd; assumption; try (apply Und.gd; assumption)))); exact Und.refl _⟩) : Rd P X al bs [] (.call { callee := .builtin .len, args := #[x], argTypes := #[T] }) (.d (.s (.int .i64 rows.length))) := fun al2 bs2 hl hB E a W h => by
  have hv := h.evd (hl.evd hx (by simp [Op.operands, Call.operands]))
  generalize hq : a.eval x = q at hv
  cases hv with
  | d h' =>
    cases h' with
    | nl => exact ⟨_, .d (.s rfl), yl_len hT hq⟩
    | l f hn hc hm hr ho h1 h2 h3 =>
      subst hn
      exact ⟨_, .d (.s rfl), yl_len hT hq⟩
theorem Rd.lenN {e sz : Nat} [hT : TSl P T e sz] (hx : Evd al x (.d (.s (.slice none 0 0))) := by exact ⟨_, rfl, by (try (apply Und.gd; assumption; try (apply Und.gd; assumption; try (apply Und.gd; assumption)))); exact Und.refl _⟩) : Rd P X al bs [] (.call { callee := .builtin .len, args := #[x], argTypes := #[T] }) (.d (.s (.int .i64 0))) := fun al2 bs2 hl hB E a W h => ⟨_, .d (.s rfl), yl_len hT (h.evs (hl.evd hx (by simp [Op.operands, Call.operands])))⟩
theorem Rd.lenO {e sz n : Nat} [hT : TSl P T e sz] (hx : Evd al x (.o b n) := by exact ⟨_, rfl, by (try (apply Und.gd; assumption; try (apply Und.gd; assumption; try (apply Und.gd; assumption)))); exact Und.refl _⟩) : Rd P X al bs [] (.call { callee := .builtin .len, args := #[x], argTypes := #[T] }) (.d (.s (.int .i64 n))) := fun al2 bs2 hl hB E a W h => by
  have hv := h.evd (hl.evd hx (by simp [Op.operands, Call.operands]))
  generalize hq : a.eval x = q at hv
  cases hv with
  | o hb' hv => exact ⟨_, .d (.s rfl), yl_len hT hq⟩
/-- An element's place. -/
theorem Rd.ixl {e sz : Nat} {rows : List (List D)} {row : List D} {i : Int} (j : Nat) [hT : TSl P T e sz] (hrow : rows[j]? = some row) (hi : i = j) (hsz : row.length = sz) (hx : Evd al x (.d (.l rows)) := by exact ⟨_, rfl, by (try (apply Und.gd; assumption; try (apply Und.gd; assumption; try (apply Und.gd; assumption)))); exact Und.refl _⟩) (hy : Evd al y (.d (.s (.int k i))) := by exact ⟨_, rfl, by (try (apply Und.gd; assumption; try (apply Und.gd; assumption; try (apply Und.gd; assumption)))); exact Und.refl _⟩) :
    Rd P X al bs [] (.indexAddr T x y) (.e row 0) := fun al2 bs2 hl hB E a W h => by
  subst hi
  have hv := h.evd (hl.evd hx (by simp [Op.operands, Call.operands]))
  generalize hq : a.eval x = q at hv
  cases hv with
  | d h' =>
    cases h' with
    | nl => simp at hrow
    | @l r o n c m _ f hn hc hm hr ho h1 h2 h3 =>
      have hj : j < rows.length := (List.getElem?_eq_some_iff.1 hrow).1
      have hms : m = sz := (h1 j row hrow).symm.trans hsz
      subst hms
      refine ⟨_, .d (.pe hr ho (h2 j row hrow) (h3 j row hrow)), ?_⟩
      have := yl_indexAddr (P := P) (W := by assumption) hT hq (h.evs (hl.evd hy (by simp [Op.operands, Call.operands]))) (by omega) (by omega)
      simpa using this
theorem Rd.ixo {e sz n : Nat} {i : Int} {cs : List AV} (j : Nat) [hT : TSl P T e sz] (hi : i = j) (hj : j < n) (hx : Evd al x (.o b n) := by exact ⟨_, rfl, by (try (apply Und.gd; assumption; try (apply Und.gd; assumption; try (apply Und.gd; assumption)))); exact Und.refl _⟩) (hb : lk bs b = some (some (T', cs)) := by rfl) (hy : Evd al y (.d (.s (.int k i))) := by exact ⟨_, rfl, by (try (apply Und.gd; assumption; try (apply Und.gd; assumption; try (apply Und.gd; assumption)))); exact Und.refl _⟩) :
    Rd P X al bs [b] (.indexAddr T x y) (.p b (j * sz)) := fun al2 bs2 hl hB E a W h => by
  subst hi
  have hv := h.evd (hl.evd hx (by simp [Op.operands, Call.operands]))
  generalize hq : a.eval x = q at hv
  cases hv with
  | o hb' hv =>
    rcases h.bk b T' cs (hB.at hb (List.mem_cons_self ..)) with ⟨h0, h1, h2⟩ | ⟨h0, vs, sp, m, n', c, h1, h2, h3, h4, h5⟩
    · rw [hv] at h2
      cases h2
      omega
    · rw [hv] at h4
      cases h4
      refine ⟨_, .p hb' h0, ?_⟩
      have := yl_indexAddr (P := P) (W := by assumption) hT hq (h.evs (hl.evd hy (by simp [Op.operands, Call.operands]))) (by omega) (by omega)
      simpa using this

end
end

end Go.Proofs.Ytmajkjkakciaiaa

set_option linter.unusedSimpArgs false
set_option linter.unusedVariables false
namespace Go.Proofs.Ytmajkjkakciaiaa
open Go.RowKit

section
variable {P : Program} {X : Cx} {al : List (Nat × AV)} {bs : Bs} {E : Env} {a : Act} {W : World}
theorem live_ne {E' : Env} {o : Option (TypeId × List AV)} {b k : Nat} (hE : Env.le (dom bs) E E') (hne : k ≠ b) : live E' ((k, o) :: bs) b ↔ live E bs b := by
  unfold live
  rw [lk_ne _ _ hne]
  constructor
  · rintro ⟨⟨en, h1⟩, h2⟩
    exact ⟨⟨en, h1⟩, by rw [← hE.nl b ⟨_, h1⟩]; exact h2⟩
  · rintro ⟨⟨en, h1⟩, h2⟩
    exact ⟨⟨en, h1⟩, by rw [hE.nl b ⟨_, h1⟩]; exact h2⟩
/-- A new block, or a new row that has none yet, under a number that was free. -/
theorem HdE.new (h : HdE P X al bs E a W) {E' : Env} {W' : World} {k : Nat} {T : TypeId} {cs : List AV} (hf : lk bs k = none) (hE : Env.le (dom bs) E E') (hx : Ext W W') (hA : E'.nl k = false → W.heap.size ≤ E'.A k)
    (hk : ∀ own', (∀ r, r < W.heap.size → own' r → ownS E X.o bs r) → EnOk P E' (dom ((k, some (T, cs)) :: bs)) own' W' k T cs) : HdE P X al ((k, some (T, cs)) :: bs) E' a W' := by
  have hb := hx.below
  have hd : ¬ dom bs k := fun ⟨o, ho⟩ => by rw [hf] at ho; cases ho
  have ho : ∀ r, r < W.heap.size → ownS E' X.o ((k, some (T, cs)) :: bs) r → ownS E X.o bs r := by
    rintro r hr (ho | ⟨b, hl, rfl⟩)
    · exact .inl ho
    · by_cases he : k = b
      · subst he
        have := hA hl.2
        omega
      · have h1 := (live_ne hE he).1 hl
        exact .inr ⟨b, h1, (hE.A b h1.dom).symm⟩
  have kk : Keeps (ownS E X.o bs) (ownS E' X.o ((k, some (T, cs)) :: bs)) W W' := .of (fun r hr _ => hb.block r hr) hb.size ho
  refine ⟨h.ext.trans hx, h.o0, h.df.grow (grown_ext hx none) (fun r e => by cases e) rfl, h.sz, h.en.step hE dom_cons, fun n x hn => ?_, fun b T' cs' hc => ?_, fun b hl => ?_, fun b b' hl hl' he => ?_⟩
  · obtain ⟨v, h1, h2⟩ := h.sl n x hn
    exact ⟨v, h1, h2.keeps kk hE dom_cons⟩
  · by_cases he : k = b
    · subst he
      rw [lk_self] at hc
      simp only [Option.some.injEq, Prod.mk.injEq] at hc
      obtain ⟨rfl, rfl⟩ := hc
      exact hk _ ho
    · rw [lk_ne _ _ he] at hc
      exact (h.bk b T' cs' hc).keeps kk hE dom_cons ⟨_, hc⟩ (fun hn => hb.block _ (h.live_lt ⟨⟨_, hc⟩, hn⟩))
  · by_cases he : k = b
    · subst he
      exact .inl (Nat.le_trans h.ext.size (hA hl.2))
    · have h1 := (live_ne hE he).1 hl
      rw [hE.A b h1.dom]
      exact h.lo b h1
  · by_cases h1 : k = b <;> by_cases h2 : k = b'
    · omega
    · subst h1
      have h3 := (live_ne hE h2).1 hl'
      have h4 := h.live_lt h3
      have h5 := hA hl.2
      rw [hE.A b' h3.dom] at he
      omega
    · subst h2
      have h3 := (live_ne hE h1).1 hl
      have h4 := h.live_lt h3
      have h5 := hA hl'.2
      rw [hE.A b h3.dom] at he
      omega
    · have h3 := (live_ne hE h1).1 hl
      have h4 := (live_ne hE h2).1 hl'
      rw [hE.A b h3.dom, hE.A b' h4.dom] at he
      exact h.nd b b' h3 h4 he
/-- A new block of n elements. -/
theorem HdE.alloc (h : HdE P X al bs E a W) {k : Nat} {T : TypeId} {vs : List Value} {cs : List AV} {n m : Nat} (hf : lk bs k = none) (hr : RAL E (dom bs) (ownS E X.o bs) W vs cs) (hm : (P.info? T).map (·.size) = some m) (hn : vs.length = n * m) (hmx : n ≤ maxLen) :
    HdE P X al ((k, some (T, cs)) :: bs) (E.set k W.heap.size (.slice (some ⟨W.heap.size, 0, none⟩) n n) false) a (W.alloc (.cells vs.toArray T)) := by
  have hx := ext_alloc W (.cells vs.toArray T)
  have hd : ¬ dom bs k := fun ⟨o, ho⟩ => by rw [hf] at ho; cases ho
  refine h.new hf (Env.le_set _ hd _ _ _) hx (fun _ => by rw [Env.set_A]; exact Nat.le_refl _) (fun own' ho => .inr ⟨Env.set_nl _ _ _ _ _, vs, [], m, n, n, ?_, ?_, hm, ?_, Nat.le_refl _, hmx, hn, by simpa using hn⟩)
  · rw [Env.set_A, List.append_nil]
    exact Blk.newAt rfl
  · exact hr.keeps (.of (fun r hr _ => hx.below.block r hr) hx.below.size ho) (Env.le_set _ hd _ _ _) dom_cons
  · rw [Env.set_A, Env.set_V]
/-- A row without a block. -/
theorem HdE.nilRow (h : HdE P X al bs E a W) (k : Nat) (T : TypeId) (hf : lk bs k = none) : HdE P X al ((k, some (T, [])) :: bs) (E.set k 0 (.slice none 0 0) true) a W :=
  have hd : ¬ dom bs k := fun ⟨o, ho⟩ => by rw [hf] at ho; cases ho
  h.new hf (Env.le_set _ hd _ _ _) (Ext.refl W) (fun hn => by rw [Env.set_nl] at hn; cases hn) (fun own' ho => .inl ⟨Env.set_nl _ _ _ _ _, rfl, Env.set_V _ _ _ _ _⟩)
theorem live_set {b b' : Nat} {en : TypeId × List AV} (hb : live E bs b) : live E ((b, some en) :: bs) b' ↔ live E bs b' := by
  by_cases he : b = b'
  · subst he
    unfold live
    rw [lk_self]
    exact ⟨fun h => ⟨hb.1, h.2⟩, fun h => ⟨⟨_, rfl⟩, h.2⟩⟩
  · exact live_ne (Env.le.refl _ _) he
theorem ownS_set {b : Nat} {en : TypeId × List AV} (hb : live E bs b) (r : Nat) : ownS E X.o ((b, some en) :: bs) r ↔ ownS E X.o bs r := by
  unfold ownS
  simp only [live_set hb]
/-- A block is written. -/
theorem HdE.store (h : HdE P X al bs E a W) {b : Nat} {T : TypeId} {cs cs' : List AV} {vs vs' sp : List Value} {W' : World} {m n c : Nat} (hb : lk bs b = some (some (T, cs))) (hnl : E.nl b = false) (hg : W.grownBy W' (some (E.A b)))
    (hB : Blk W' (E.A b) T (vs' ++ sp)) (hr : RAL E (dom bs) (ownS E X.o bs) W vs' cs') (hl : vs'.length = vs.length) (hm : (P.info? T).map (·.size) = some m) (hV : E.V b = .slice (some ⟨E.A b, 0, none⟩) n c) (hc : n ≤ c) (hmx : c ≤ maxLen) (h1 : vs.length = n * m) (h2 : (vs ++ sp).length = c * m) :
    HdE P X al ((b, some (T, cs')) :: bs) E a W' := by
  have hlb : live E bs b := ⟨⟨_, hb⟩, hnl⟩
  have k : Keeps (ownS E X.o bs) (ownS E X.o ((b, some (T, cs')) :: bs)) W W' :=
    .of (fun r hr ho => hg.block r hr (fun e => ho (.inr ⟨b, hlb, (Option.some.inj e).symm⟩))) hg.size (fun r _ ho => (ownS_set hlb r).1 ho)
  refine ⟨h.ext.grow hg (fun r hr => by cases hr; exact h.lo b hlb), h.o0, h.df.grow hg (fun r hr => by cases hr; exact h.blkOf hlb) rfl, h.sz, h.en.step (Env.le.refl _ _) dom_cons, fun n x hn => ?_, fun b' T' cs'' hc' => ?_, fun b' hl' => h.lo b' ((live_set hlb).1 hl'), fun b1 b2 hl1 hl2 he => h.nd b1 b2 ((live_set hlb).1 hl1) ((live_set hlb).1 hl2) he⟩
  · obtain ⟨v, h1, h2⟩ := h.sl n x hn
    exact ⟨v, h1, h2.keeps k (Env.le.refl _ _) dom_cons⟩
  · by_cases he : b = b'
    · subst he
      rw [lk_self] at hc'
      simp only [Option.some.injEq, Prod.mk.injEq] at hc'
      obtain ⟨rfl, rfl⟩ := hc'
      exact .inr ⟨hnl, vs', sp, m, n, c, hB, hr.keeps k (Env.le.refl _ _) dom_cons, hm, hV, hc, hmx, by rw [hl, h1], by rw [List.length_append, hl, ← List.length_append, h2]⟩
    · rw [lk_ne _ _ he] at hc'
      refine (h.bk b' T' cs'' hc').keeps k (Env.le.refl _ _) dom_cons ⟨_, hc'⟩ (fun hn => hg.block _ (h.live_lt ⟨⟨_, hc'⟩, hn⟩) (fun e => he ?_))
      exact (h.nd b b' hlb ⟨⟨_, hc'⟩, hn⟩ (Option.some.inj e).symm)
theorem live_none {b b' : Nat} (h : live E ((b, none) :: bs) b') : live E bs b' ∧ b' ≠ b := by
  obtain ⟨⟨en, h1⟩, h2⟩ := h
  by_cases he : b = b'
  · subst he
    rw [lk_self] at h1
    simp at h1
  · rw [lk_ne _ _ he] at h1
    exact ⟨⟨⟨en, h1⟩, h2⟩, fun e => he e.symm⟩
/-- A block is given up. -/
theorem HdE.drop (h : HdE P X al bs E a W) (b : Nat) : HdE P X al ((b, none) :: bs) E a W := by
  have ho : ∀ r, ownS E X.o ((b, none) :: bs) r → ownS E X.o bs r := by
    rintro r (ho | ⟨b', hl, rfl⟩)
    · exact .inl ho
    · exact .inr ⟨b', (live_none hl).1, rfl⟩
  have k : Keeps (ownS E X.o bs) (ownS E X.o ((b, none) :: bs)) W W := .of (fun r _ _ => rfl) (Nat.le_refl _) (fun r _ h => ho r h)
  refine ⟨h.ext, h.o0, h.df, h.sz, h.en.step (Env.le.refl _ _) dom_cons, fun n x hn => ?_, fun b' T' cs hc => ?_, fun b' hl => h.lo b' (live_none hl).1, fun b1 b2 h1 h2 he => h.nd b1 b2 (live_none h1).1 (live_none h2).1 he⟩
  · obtain ⟨v, h1, h2⟩ := h.sl n x hn
    exact ⟨v, h1, h2.keeps k (Env.le.refl _ _) dom_cons⟩
  · have hc0 : lk bs b' = some (some (T', cs)) := by
      by_cases he : b = b'
      · subst he
        rw [lk_self] at hc
        simp at hc
      · rw [lk_ne _ _ he] at hc
        exact hc
    exact (h.bk b' T' cs hc0).keeps k (Env.le.refl _ _) dom_cons ⟨_, hc0⟩ (fun _ => rfl)
/-- The rows of a list of cells. -/
theorem flat_at {α : Type} {m : Nat} : ∀ (rows : List (List α)) (i : Nat) (row : List α), (∀ r ∈ rows, r.length = m) → rows[i]? = some row → (rows.flatten.drop (i * m)).take m = row
  | [], i, row, _, h => by simp at h
  | r :: rows, 0, row, hm, h => by
    simp only [List.getElem?_cons_zero, Option.some.injEq] at h
    subst h
    have hr := hm r (List.mem_cons_self ..)
    rw [Nat.zero_mul, List.drop_zero, List.flatten_cons, List.take_append_of_le_length (by omega), ← hr, List.take_length]
  | r :: rows, i + 1, row, hm, h => by
    simp only [List.getElem?_cons_succ] at h
    have hr := hm r (List.mem_cons_self ..)
    have e := flat_at rows i row (fun x hx => hm x (List.mem_cons_of_mem _ hx)) h
    rw [List.flatten_cons, show (i + 1) * m = r.length + i * m by rw [hr, Nat.add_mul, Nat.one_mul, Nat.add_comm], ← List.drop_drop, List.drop_left]
    exact e
/-- A row that nobody changes any more is data. -/
theorem HdE.data (h : HdE P X al bs E a W) {b k m : Nat} {T : TypeId} {rows : List (List D)} {v : Value} (hb : lk bs b = some (some (T, rows.flatten.map .d))) (hm : ∀ r ∈ rows, r.length = m) (hsz : (P.info? T).map (·.size) = some m) (hk : k = rows.length) (hv : RA E (dom bs) (ownS E X.o bs) W v (.o b k)) : RD (ownS E X.o ((b, none) :: bs)) W v (.l rows) := by
  subst hk
  cases hv with
  | @o _ _ c p hb' hV =>
    rcases h.bk b T _ hb with ⟨h0, h1, h2⟩ | ⟨h0, vs, sp, m', n, c', h1, h2, h3, h4, h5, h6, h7, h8⟩
    · rw [hV] at h2
      simp only [Value.slice.injEq] at h2
      obtain ⟨rfl, h2, rfl⟩ := h2
      have hr0 := List.length_eq_zero_iff.1 h2
      subst hr0
      exact .nl
    · rw [hV] at h4
      simp only [Value.slice.injEq] at h4
      obtain ⟨rfl, rfl, rfl⟩ := h4
      have hmm : m' = m := by rw [hsz] at h3; exact (Option.some.inj h3).symm
      subst hmm
      have hl : live E bs b := ⟨⟨_, hb⟩, h0⟩
      have ho : ∀ r, ownS E X.o ((b, none) :: bs) r → ownS E X.o bs r := by
        rintro r (ho | ⟨b', hl, rfl⟩)
        · exact .inl ho
        · exact .inr ⟨b', (live_none hl).1, rfl⟩
      have kk : Keeps (ownS E X.o bs) (ownS E X.o ((b, none) :: bs)) W W := .of (fun r _ _ => rfl) (Nat.le_refl _) (fun r _ h => ho r h)
      have h2' := h2.unmap
      refine .l (m := m') (fun i => (vs.drop (i * m')).take m') rfl h5 h6 h1.lt ?_ (fun i row hi => hm row (List.mem_of_getElem? hi)) ?_ ?_
      · rintro (hh | ⟨b', hl', he⟩)
        · have h6 := h.o0 _ hh
          rcases h.lo b hl with h7 | h7
          · omega
          · exact h6.2 h7
        · exact (live_none hl').2 (h.nd b' b (live_none hl').1 hl he)
      · intro i row hi
        have hlt : i < rows.length := (List.getElem?_eq_some_iff.1 hi).1
        have hle : i * m' + m' ≤ vs.length := by
          rw [h7, ← Nat.succ_mul]
          exact Nat.mul_le_mul_right _ hlt
        intro j u hu
        have hj : j < m' := by
          have := (List.getElem?_eq_some_iff.1 hu).1
          simp only [List.length_take, List.length_drop] at this
          omega
        rw [List.getElem?_take_of_lt hj, List.getElem?_drop] at hu
        rw [h1.cell, Nat.zero_add, List.getElem?_append_left (by omega)]
        exact hu
      · intro i row hi
        rw [← flat_at rows i row hm hi]
        exact ((h2'.drop _).take _).keeps kk
/-! ### Stores -/
theorem Blk.splice {r : Nat} {T : TypeId} {post : List Value} : ∀ (cs : List Value) (w : World) (pre old : List Value), Blk w r T (pre ++ (old ++ post)) → old.length = cs.length → Blk (w.setCells r pre.length cs) r T (pre ++ (cs ++ post)) ∧ w.grownBy (w.setCells r pre.length cs) (some r)
  | [], w, pre, old, h, hl => by
    obtain rfl : old = [] := List.length_eq_zero_iff.1 hl
    exact ⟨h, grown_ext (Ext.refl w) _⟩
  | v :: cs, w, pre, old, h, hl => by
    cases old with
    | nil => simp at hl
    | cons x old =>
      have h1 := h.set pre.length v
      rw [List.set_append_right _ _ (Nat.le_refl _), Nat.sub_self, List.cons_append, List.set_cons_zero] at h1
      have h2 : Blk (w.setCell ⟨r, pre.length, none⟩ v) r T ((pre ++ [v]) ++ (old ++ post)) := by simpa using h1
      have := Blk.splice cs _ (pre ++ [v]) old h2 (by simpa using hl)
      rw [List.length_append, List.append_assoc] at this
      exact ⟨this.1, grown_trans (grown_set _ _ _ _) this.2⟩
theorem run_storeVar_vs (w : World) (b o : Nat) (ty : TypeId) (v : Value) (vs : List Value) (hv : v.cells.toList = vs) (ht : w.there b o vs.length) (hi : (P.info? ty).map (·.size) = some vs.length) (h1 : vs.all (·.oneCell') = true) :
    (storeVar ty ⟨b, o, none⟩ v).run P w = .ok () (w.setCells b o vs) := by
  have := run_storeCells_cells (P := P) b o vs 0 w (fun j hj => by simpa using (ht j (by simpa using hj)).1) (fun j hj => by simpa using (ht j (by simpa using hj)).2)
    (fun v hv => (List.all_eq_true.1 h1) v hv)
  cases hq : P.info? ty with
  | none => simp [hq] at hi
  | some i =>
    have hs : vs.length = i.size := by simp [hq] at hi; omega
    have hs2 : v.cells.size = i.size := by rw [← hs, ← hv]; simp
    simp only [Nat.add_zero] at this
    simp [storeVar, sizeOf, typeInfo, hq, hs2, hv, this]
/-- The cells that a value takes. -/
def AV.cells : AV → List AV
  | .d (.st ds) => ds.map .d
  | .st cs => cs
  | x => [x]
/-- One cell? -/
def D.cell : D → Bool
  | .s _ | .l _ | .pe _ _ | .fn _ _ => true
  | _ => false
def AV.cell : AV → Bool
  | .d x => x.cell
  | .p _ _ | .o _ _ | .vw _ _ _ _ | .fn _ _ => true
  | _ => false
section
variable {dm own : Nat → Prop} {v : Value} {x : AV}
theorem RD.cell {d : D} (h : RD own W v d) (hc : d.cell = true) : v.oneCell' = true := by
  cases h with
  | s h => exact h
  | nl => rfl
  | l => rfl
  | st => cases hc
  | tup => cases hc
  | pe => rfl
  | fn => rfl
theorem RA.cell (h : RA E dm own W v x) (hc : x.cell = true) : v.oneCell' = true := by
  cases h with
  | d h => exact h.cell hc
  | p => rfl
  | o => rfl
  | vw => rfl
  | st => cases hc
  | tup => cases hc
  | fn => rfl
  | gd => cases hc
  | any => cases hc
theorem RA.cellsOf (h : RA E dm own W v x) (hc : x.cells.all AV.cell = true) : RAL E dm own W v.cells.toList x.cells ∧ v.cells.toList.all (·.oneCell') = true := by
  have key : ∀ {vs : List Value} {cs : List AV}, RAL E dm own W vs cs → cs.all AV.cell = true → vs.all (·.oneCell') = true := by
    intro vs
    induction vs with
    | nil => intros; rfl
    | cons u vs ih =>
      intro cs h hc
      cases h with
      | cons h t =>
        simp only [List.all_cons, Bool.and_eq_true] at hc ⊢
        exact ⟨h.cell hc.1, ih t hc.2⟩
  have h2 : RAL E dm own W v.cells.toList x.cells := by
    cases h with
    | d h =>
      cases h with
      | s h1 =>
        have : v.cells.toList = [v] := by cases v <;> simp_all [Value.cells, Value.oneCell']
        rw [this]
        exact .cons (.d (.s h1)) .nil
      | nl => exact .cons (.d .nl) .nil
      | l f hn hc' hm hr ho h1 h2 h3 => exact .cons (.d (.l f hn hc' hm hr ho h1 h2 h3)) .nil
      | st h => exact RAL.map h
      | tup h => simp [AV.cells, AV.cell, D.cell] at hc
      | pe h1 h2 h3 h4 => exact .cons (.d (.pe h1 h2 h3 h4)) .nil
      | fn h => exact .cons (.d (.fn h)) .nil
    | p h1 h2 => exact .cons (.p h1 h2) .nil
    | o h1 h2 => exact .cons (.o h1 h2) .nil
    | vw h1 h2 h3 h4 h5 => exact .cons (.vw h1 h2 h3 h4 h5) .nil
    | st h => exact h
    | tup h => simp [AV.cells, AV.cell] at hc
    | fn h => exact .cons (.fn h) .nil
    | gd => simp [AV.cells, AV.cell] at hc
    | any => simp [AV.cells, AV.cell] at hc
  exact ⟨h2, key h2 hc⟩
end
theorem RAL.split {dm own : Nat → Prop} : ∀ (off : Nat) {vs : List Value} {cs ys : List AV} {us : List Value}, RAL E dm own W vs cs → RAL E dm own W us ys → RAL E dm own W (vs.take off ++ (us ++ vs.drop (off + us.length))) (cs.take off ++ (ys ++ cs.drop (off + ys.length))) := by
  intro off vs cs ys us h h'
  have := h'.len
  rw [← this]
  exact (h.take off).app (h'.app (h.drop _))
/-- A value is stored into a block of one's own. -/
theorem HdE.stored (h : HdE P X al bs E a W) {b off N : Nat} {T T' : TypeId} {cs : List AV} {p v : Value} {y : AV} (hb : lk bs b = some (some (T', cs))) (hx : RA E (dom bs) (ownS E X.o bs) W p (.p b off)) (hy : RA E (dom bs) (ownS E X.o bs) W v y)
    (hT : (P.info? T).map (·.size) = some N) (hN : y.cells.length = N) (hc : y.cells.all AV.cell = true) (hle : off + N ≤ cs.length) :
    ∃ W', (Instr.storeAt T p v).run P W = .ok () W' ∧ HdE P X al ((b, some (T', cs.take off ++ (y.cells ++ cs.drop (off + y.cells.length)))) :: bs) E a W' := by
  obtain ⟨g1, g2⟩ := hy.cellsOf hc
  cases hx with
  | p hb' hn =>
    obtain ⟨vs, sp, m, n, c, h1, h2, h3, h4, h5, h6, h7, h8⟩ := h.blk hb hn
    have hlv := h2.len
    have hlu := g1.len
    have he : vs ++ sp = vs.take off ++ ((vs.drop off).take N ++ (vs.drop (off + N) ++ sp)) := by
      rw [← List.append_assoc ((vs.drop off).take N), ← List.drop_drop, List.take_append_drop, ← List.append_assoc, List.take_append_drop]
    have h1' := h1
    rw [he] at h1'
    have hlo : (vs.take off).length = off := by simp; omega
    have hl2 : ((vs.drop off).take N).length = v.cells.toList.length := by rw [hlu, hN]; simp; omega
    have hs := Blk.splice v.cells.toList W _ _ h1' hl2
    rw [hlo] at hs
    have hth : W.there (E.A b) off v.cells.toList.length := fun j hj => by
      rw [h1.cell (off + j), List.getElem?_eq_getElem (by simp only [List.length_append]; omega)]
      exact ⟨rfl, h1.frozen _⟩
    refine ⟨_, ?_, h.store (vs := vs) (vs' := vs.take off ++ (v.cells.toList ++ vs.drop (off + v.cells.toList.length))) (sp := sp) hb hn hs.2 ?_ (RAL.split off h2 g1) ?_ h3 h4 h5 h6 h7 h8⟩
    · simp only [Instr.storeAt, Instr.sureAddr, Sem.run_bind, Sem.run_pure, Result.andThen_ok]
      exact run_storeVar_vs W (E.A b) off T v _ rfl hth (by rw [hT, hlu, hN]) g2
    · rw [hlu, hN]
      simpa using hs.1
    · simp only [List.length_append, List.length_take, List.length_drop]
      omega
end

end Go.Proofs.Ytmajkjkakciaiaa

set_option linter.unusedSimpArgs false
set_option linter.unusedVariables false
namespace Go.Proofs.Ytmajkjkakciaiaa
open Go.RowKit

section
variable {P : Program} {X : Cx} {al : List (Nat × AV)} {bs : Bs} {E : Env} {a : Act} {W : World}
/-- A row is given up for a new one, which may lie in its block. -/
theorem HdE.newDrop (h : HdE P X al bs E a W) {b q : Nat} {E' : Env} {W' : World} {T : TypeId} {cs : List AV} {row : Option Nat} (hf : lk bs q = none) (hb0 : dom bs b) (hE : Env.le (dom bs) E E') (hg : W.grownBy W' row) (hrow : ∀ r, row = some r → live E bs b ∧ E.A b = r)
    (hA : E'.nl q = false → W.heap.size ≤ E'.A q ∨ (live E bs b ∧ E'.A q = E.A b)) (hk : ∀ own', (∀ r, r < W.heap.size → own' r → ownS E X.o bs r) → EnOk P E' (dom ((q, some (T, cs)) :: (b, none) :: bs)) own' W' q T cs) :
    HdE P X al ((q, some (T, cs)) :: (b, none) :: bs) E' a W' := by
  have hd : ¬ dom bs q := fun ⟨o, ho⟩ => by rw [hf] at ho; cases ho
  have hqb : q ≠ b := fun e => hd (e ▸ hb0)
  have hdm : ∀ x, dom bs x → dom ((q, some (T, cs)) :: (b, none) :: bs) x := fun x hx => dom_cons x (dom_cons x hx)
  have hE0 : Env.le (dom ((b, none) :: bs)) E E' := by
    have hdd : ∀ x, dom ((b, none) :: bs) x → dom bs x := fun x ⟨o, ho⟩ => by
      by_cases he : b = x
      · subst he; exact hb0
      · rw [lk_ne _ _ he] at ho; exact ⟨o, ho⟩
    exact ⟨fun x hx => hE.A x (hdd x hx), fun x hx => hE.V x (hdd x hx), fun x hx => hE.nl x (hdd x hx)⟩
  have hold : ∀ x, q ≠ x → live E' ((q, some (T, cs)) :: (b, none) :: bs) x → live E bs x ∧ x ≠ b := fun x hx hl => live_none ((live_ne hE0 hx).1 hl)
  have ho : ∀ r, r < W.heap.size → ownS E' X.o ((q, some (T, cs)) :: (b, none) :: bs) r → ownS E X.o bs r := by
    rintro r hr (ho | ⟨x, hl, rfl⟩)
    · exact .inl ho
    · by_cases he : q = x
      · subst he
        rcases hA hl.2 with h2 | ⟨h2, h3⟩
        · omega
        · exact .inr ⟨b, h2, h3.symm⟩
      · have h1 := (hold x he hl).1
        exact .inr ⟨x, h1, (hE.A x h1.dom).symm⟩
  have k : Keeps (ownS E X.o bs) (ownS E' X.o ((q, some (T, cs)) :: (b, none) :: bs)) W W' :=
    .of (fun r hr hno => hg.block r hr (fun e => hno (.inr ⟨b, (hrow r e.symm).1, (hrow r e.symm).2⟩))) hg.size ho
  refine ⟨h.ext.grow hg (fun r hr => by obtain ⟨h1, rfl⟩ := hrow r hr; exact h.lo b h1), h.o0, h.df.grow hg (fun r hr => by obtain ⟨h1, rfl⟩ := hrow r hr; exact h.blkOf h1) rfl, h.sz, h.en.step hE hdm, fun n x hn => ?_, fun x T' cs' hc => ?_, fun x hl => ?_, fun b1 b2 hl hl' he => ?_⟩
  · obtain ⟨v, h1, h2⟩ := h.sl n x hn
    exact ⟨v, h1, h2.keeps k hE hdm⟩
  · by_cases he : q = x
    · subst he
      rw [lk_self] at hc
      simp only [Option.some.injEq, Prod.mk.injEq] at hc
      obtain ⟨rfl, rfl⟩ := hc
      exact hk _ ho
    · rw [lk_ne _ _ he] at hc
      have hne : b ≠ x := fun e => by subst e; rw [lk_self] at hc; simp at hc
      rw [lk_ne _ _ hne] at hc
      refine (h.bk x T' cs' hc).keeps k hE hdm ⟨_, hc⟩ (fun hn => hg.block _ (h.live_lt ⟨⟨_, hc⟩, hn⟩) (fun e => hne ?_))
      obtain ⟨h2, h3⟩ := hrow _ e.symm
      exact h.nd b x h2 ⟨⟨_, hc⟩, hn⟩ h3
  · by_cases he : q = x
    · subst he
      rcases hA hl.2 with h2 | ⟨h2, h3⟩
      · exact .inl (Nat.le_trans h.ext.size h2)
      · rw [h3]; exact h.lo b h2
    · have h1 := (hold x he hl).1
      rw [hE.A x h1.dom]
      exact h.lo x h1
  · by_cases h1 : q = b1 <;> by_cases h2 : q = b2
    · omega
    · subst h1
      obtain ⟨h3, h4⟩ := hold b2 h2 hl'
      have h5 := h.live_lt h3
      rw [hE.A b2 h3.dom] at he
      rcases hA hl.2 with h6 | ⟨h6, h7⟩
      · omega
      · exact absurd (h.nd b b2 h6 h3 (by rw [← he, h7])).symm h4
    · subst h2
      obtain ⟨h3, h4⟩ := hold b1 h1 hl
      have h5 := h.live_lt h3
      rw [hE.A b1 h3.dom] at he
      rcases hA hl'.2 with h6 | ⟨h6, h7⟩
      · omega
      · exact absurd (h.nd b1 b h3 h6 (by rw [he, h7])) h4
    · have h3 := (hold b1 h1 hl).1
      have h4 := (hold b2 h2 hl').1
      rw [hE.A b1 h3.dom, hE.A b2 h4.dom] at he
      exact h.nd b1 b2 h3 h4 he
/-- The cells of rows that lie one behind the other. -/
theorem rows_read {own : Nat → Prop} {r m : Nat} : ∀ (rows : List (List D)) (o : Nat) (f : Nat → List Value), (∀ (i : Nat) (row : List D), rows[i]? = some row → row.length = m) → (∀ (i : Nat) (row : List D), rows[i]? = some row → W.rangeAt r (o + i * m) (f i)) →
    (∀ (i : Nat) (row : List D), rows[i]? = some row → RL own W (f i) row) → ∃ news, news.length = rows.length * m ∧ W.rangeAt r o news ∧ RL own W news rows.flatten
  | [], o, f, _, _, _ => ⟨[], by simp, fun j v h => by simp at h, .nil⟩
  | row :: rows, o, f, h1, h2, h3 => by
    obtain ⟨news, g1, g2, g3⟩ := rows_read rows (o + m) (fun i => f (i + 1)) (fun i row hi => h1 (i + 1) row hi) (fun i row hi => by have := h2 (i + 1) row hi; rw [Nat.add_mul, Nat.one_mul] at this; rw [show o + m + i * m = o + (i * m + m) by omega]; exact this) (fun i row hi => h3 (i + 1) row hi)
    have e1 := h1 0 row rfl
    have e2 := h2 0 row rfl
    have e3 := h3 0 row rfl
    have e4 : (f 0).length = m := e3.len.trans e1
    refine ⟨f 0 ++ news, by rw [List.length_append, g1, e4, List.length_cons, Nat.add_mul, Nat.one_mul, Nat.add_comm], ?_, e3.app g3⟩
    intro j v hv
    rcases Nat.lt_or_ge j m with hj | hj
    · rw [List.getElem?_append_left (by omega)] at hv
      have := e2 j v hv
      rw [Nat.zero_mul, Nat.add_zero] at this
      exact this
    · rw [List.getElem?_append_right (by omega), e4] at hv
      have := g2 (j - m) v hv
      rw [show o + m + (j - m) = o + j by omega] at this
      exact this
/-- The types' facts that append asks. -/
class TAp (P : Program) (t : TypeId) (e size bytes : outParam Nat) : Prop where
  h : ∃ i z, P.underlying t = some (.slice e) ∧ P.info? e = some i ∧ i.zero = some z ∧ i.size = size ∧ i.bytes = bytes ∧ z.cells.size = size ∧ 0 < size
theorem flat_len {α : Type} {m : Nat} : ∀ rows : List (List α), (∀ r ∈ rows, r.length = m) → rows.flatten.length = rows.length * m
  | [], _ => by simp
  | r :: rows, h => by
    rw [List.flatten_cons, List.length_append, flat_len rows (fun x hx => h x (List.mem_cons_of_mem _ hx)), h r (List.mem_cons_self ..), List.length_cons, Nat.add_mul, Nat.one_mul, Nat.add_comm]
theorem RL.one {own : Nat → Prop} : ∀ {vs : List Value} {ds : List D}, RL own W vs ds → ds.all D.cell = true → ∀ u ∈ vs, u.oneCell' = true
  | _, _, .nil, _, u, h => by cases h
  | _, _, .cons h t, hc, u, hu => by
    simp only [List.all_cons, Bool.and_eq_true] at hc
    rcases List.mem_cons.1 hu with rfl | hu
    · exact h.cell hc.1
    · exact RL.one t hc.2 u hu
/-- append to a row of one's own. -/
theorem HdE.append (h : HdE P X al bs E a W) {t e size bytes b n : Nat} (q : Nat) (hf : lk bs q = none) (hT : TAp P t e size bytes) {v xv : Value} {cs : List AV} {rows : List (List D)} {ty : TypeId} (hb : lk bs b = some (some (e, cs))) (hv : RA E (dom bs) (ownS E X.o bs) W v (.o b n)) (hx : RA E (dom bs) (ownS E X.o bs) W xv (.d (.l rows)))
    (hm : ∀ r ∈ rows, r.length = size) (hc : rows.flatten.all D.cell = true) (h63 : n + rows.length ≤ maxLen) (hby : (n + rows.length) * bytes ≤ 140737488355328) :
    ∃ v' W' E', (Builtin.append_ #[t, t] ty #[v, xv]).run P W = .ok v' W' ∧ HdE P X al ((q, some (e, cs ++ rows.flatten.map .d)) :: (b, none) :: bs) E' a W' ∧ RA E' (dom ((q, some (e, cs ++ rows.flatten.map .d)) :: (b, none) :: bs)) (ownS E' X.o ((q, some (e, cs ++ rows.flatten.map .d)) :: (b, none) :: bs)) W' v' (.o q (n + rows.length)) := by
  obtain ⟨i0, z, hu, hi, hz, hsz, hbs, hzs, hpos⟩ := hT.h
  have hst : (P.info? e).map (·.size) = some size := by rw [hi, Option.map_some, hsz]
  cases hv with
  | @o _ _ c p hb' hV =>
    -- the old row
    have hold : ∃ vs, W.ownsRow 0 e size (.slice p n c) n vs ∧ RAL E (dom bs) (ownS E X.o bs) W vs cs ∧ n ≤ c ∧ (∀ g, (Value.slice p n c).ownBlock = some g → live E bs b ∧ E.A b = g) := by
      rcases h.bk b e cs hb with ⟨h0, h1, h2⟩ | ⟨h0, vs, sp, m, n', c', h1, h2, h3, h4, h5, h6, h7, h8⟩
      · rw [hV] at h2
        simp only [Value.slice.injEq] at h2
        obtain ⟨rfl, rfl, rfl⟩ := h2
        exact ⟨[], World.ownsRow_nil _ _ _ _, by rw [h1]; exact .nil, Nat.le_refl _, fun g hg => by cases hg⟩
      · rw [hV] at h4
        simp only [Value.slice.injEq] at h4
        obtain ⟨rfl, rfl, rfl⟩ := h4
        have hmm : m = size := by rw [hst] at h3; exact (Option.some.inj h3).symm
        subst hmm
        have hl : live E bs b := ⟨⟨_, hb⟩, h0⟩
        refine ⟨vs, ⟨h7, .inr ⟨E.A b, c, (vs ++ sp).toArray, rfl, Nat.zero_le _, h1, h5, h6, by simpa using h8, ?_⟩⟩, h2, h5, fun g hg => ⟨hl, by simpa [Value.ownBlock] using hg⟩⟩
        rw [← h7]
        simp
    obtain ⟨vs, hown, hvs, hnc, hblk⟩ := hold
    have hbase : 0 ≤ W.heap.size := Nat.zero_le _
    -- what the run leaves, told of any source
    have key : ∀ v' W' news, W'.ownsRow 0 e size v' (n + rows.length) (vs ++ news) → W.grownBy W' (Value.slice p n c).ownBlock → (v'.ownBlock = (Value.slice p n c).ownBlock ∨ v'.ownBlock = some W.heap.size) → RL (ownS E X.o bs) W news rows.flatten →
        ∃ E', HdE P X al ((q, some (e, cs ++ rows.flatten.map .d)) :: (b, none) :: bs) E' a W' ∧ RA E' (dom ((q, some (e, cs ++ rows.flatten.map .d)) :: (b, none) :: bs)) (ownS E' X.o ((q, some (e, cs ++ rows.flatten.map .d)) :: (b, none) :: bs)) W' v' (.o q (n + rows.length)) := by
      intro v' W' news g1 g2 g3 g4
      have hA' : ∀ g, v'.ownBlock = some g → W.heap.size ≤ g ∨ (live E bs b ∧ g = E.A b) := by
        intro g hg
        rcases g3 with h1 | h1
        · rw [hg] at h1
          obtain ⟨h2, h3⟩ := hblk g h1.symm
          exact .inr ⟨h2, h3.symm⟩
        · rw [hg] at h1
          cases h1
          exact .inl (Nat.le_refl _)
      have hsh : ∃ p' c', v' = .slice p' (n + rows.length) c' := by
        rcases g1.2 with ⟨h1, h2⟩ | ⟨g, cap, cur, h1, _⟩
        · exact ⟨none, 0, by rw [h1, h2]⟩
        · exact ⟨_, _, h1⟩
      obtain ⟨p', c', hv'⟩ := hsh
      let E' := E.set q ((v'.ownBlock).getD 0) v' (v'.ownBlock).isNone
      have hd : ¬ dom bs q := fun ⟨o, ho⟩ => by rw [hf] at ho; cases ho
      have hle : Env.le (dom bs) E E' := Env.le_set _ hd _ _ _
      have hdm : ∀ x, dom bs x → dom ((q, some (e, cs ++ rows.flatten.map .d)) :: (b, none) :: bs) x := fun x hx => dom_cons x (dom_cons x hx)
      refine ⟨E', h.newDrop hf ⟨_, hb⟩ hle g2 (fun r hr => hblk r hr) (fun hn => ?_) (fun own' ho => ?_), ?_⟩
      · simp only [E', Env.set_nl] at hn
        simp only [E', Env.set_A]
        cases hg : v'.ownBlock with
        | none => rw [hg] at hn; cases hn
        | some g => exact hA' g hg
      · have k : Keeps (ownS E X.o bs) own' W W' := .of (fun r hr hno => g2.block r hr (fun e => hno (.inr ⟨b, (hblk r e.symm).1, (hblk r e.symm).2⟩))) g2.size ho
        have hra : RAL E' (dom ((q, some (e, cs ++ rows.flatten.map .d)) :: (b, none) :: bs)) own' W' (vs ++ news) (cs ++ rows.flatten.map .d) := (hvs.app (RAL.map g4)).keeps k hle hdm
        rcases g1.2 with ⟨h1, h2⟩ | ⟨g, cap, cur, h1, h2, h3, h4, h5, h6, h7⟩
        · refine .inl ⟨by simp only [E', Env.set_nl, h1]; rfl, ?_, by simp only [E', Env.set_V, h1]⟩
          have hl := g1.1
          rw [h2, Nat.zero_mul] at hl
          have := hra.len
          rw [hl] at this
          exact List.length_eq_zero_iff.1 this.symm
        · have hbk : v'.ownBlock = some g := by rw [h1]; rfl
          refine .inr ⟨by simp only [E', Env.set_nl, hbk]; rfl, vs ++ news, cur.toList.drop ((n + rows.length) * size), size, n + rows.length, cap, ?_, hra, hst, ?_, h4, h5, g1.1, ?_⟩
          · simp only [E', Env.set_A, hbk, Option.getD_some]
            rw [← h7, List.take_append_drop]
            exact h3
          · simp only [E', Env.set_A, Env.set_V, hbk, Option.getD_some]
            exact h1
          · rw [← h7, List.take_append_drop]
            simpa using h6
      · subst hv'
        exact .o ⟨_, lk_self _ _ _⟩ (by simp only [E', Env.set_V])
    have src : ∀ {rw : List (List D)} {u : Value}, RA E (dom bs) (ownS E X.o bs) W u (.d (.l rw)) → (rw = [] ∧ ∃ q k, u = .slice q 0 k) ∨ ∃ r o k, u = .slice (some ⟨r, o, none⟩) rw.length k ∧ rw ≠ [] ∧ ∃ f : Nat → List Value, ∃ m, (∀ (i : Nat) (row : List D), rw[i]? = some row → row.length = m) ∧ (∀ (i : Nat) (row : List D), rw[i]? = some row → W.rangeAt r (o + i * m) (f i)) ∧ (∀ (i : Nat) (row : List D), rw[i]? = some row → RL (ownS E X.o bs) W (f i) row) := by
      intro rw u hu
      cases hu with
      | d hu =>
        cases hu with
        | nl => exact .inl ⟨rfl, _, _, rfl⟩
        | @l r o _ k m _ f hn hc' hm' hr ho h1 h2 h3 =>
          subst hn
          cases rw with
          | nil => exact .inl ⟨rfl, _, _, rfl⟩
          | cons row rows' => exact .inr ⟨r, o, k, rfl, by simp, f, m, h1, h2, h3⟩
    rcases src hx with ⟨rfl, q, k, rfl⟩ | ⟨r, o, k, rfl, hne, f, m, g1, g2, g3⟩
    · cases q with
      | none =>
        have hrun := run_append_nothing (P := P) (ty := ty) W t t e i0 hu hi p n c hnc (.slice none 0 k) (Src.ofNil W hu k)
        obtain ⟨E', h1, h2⟩ := key (.slice p n c) W [] (by simpa using hown) ⟨rfl, rfl, rfl, Nat.le_refl _, fun _ _ _ => rfl⟩ (.inl rfl) .nil
        exact ⟨_, _, E', hrun, h1, h2⟩
      | some ad =>
        obtain ⟨v', W', hrun, g1, g2, g3, g4⟩ := run_append_own_at (P := P) W 0 t ty e i0 z size bytes hu hi hz hsz hbs hzs hpos _ n vs hown ad 0 k [] (by simp) (fun j u hu => by simp at hu) (by simp) (by simpa using h63) (by simpa using hby) hbase
        obtain ⟨E', h1, h2⟩ := key v' W' [] (by simpa using g1) g2 g4 .nil
        exact ⟨_, _, E', hrun, h1, h2⟩
    · obtain ⟨news, e1, e2, e3⟩ := rows_read rows o f g1 g2 g3
      have hmm : m = size := by
        cases rows with
        | nil => exact absurd rfl hne
        | cons row rest => exact (g1 0 row rfl).symm.trans (hm row (List.mem_cons_self ..))
      subst hmm
      obtain ⟨v', W', hrun, g1, g2, g3, g4⟩ := run_append_own_at (P := P) W 0 t ty e i0 z m bytes hu hi hz hsz hbs hzs hpos _ n vs hown ⟨r, o, none⟩ rows.length k news e1 (fun j u hu => by rw [Addr.add_mid]; exact e2 j u hu) (e3.one hc) h63 hby hbase
      obtain ⟨E', h1, h2⟩ := key v' W' news g1 g2 g4 e3
      exact ⟨_, _, E', hrun, h1, h2⟩

/-! ### Other numbers -/
mutual
def AV.ren (π : List (Nat × Nat)) : AV → AV
  | .p b off => .p ((lk π b).getD 0) off
  | .o b n => .o ((lk π b).getD 0) n
  | .vw b off n f => .vw ((lk π b).getD 0) off n f
  | .st cs => .st (AV.renL π cs)
  | .tup cs => .tup (AV.renL π cs)
  | .fn K cs => .fn K (AV.renL π cs)
  | .d x => .d x
  | .gd t want x => .gd t want (AV.ren π x)
  | .any => .any
def AV.renL (π : List (Nat × Nat)) : List AV → List AV
  | [] => []
  | c :: cs => AV.ren π c :: AV.renL π cs
end
mutual
def AV.kb (π : List (Nat × Nat)) : AV → Bool
  | .p b _ => (lk π b).isSome
  | .o b _ => (lk π b).isSome
  | .vw b _ _ _ => (lk π b).isSome
  | .st cs => AV.kbL π cs
  | .tup cs => AV.kbL π cs
  | .fn _ cs => AV.kbL π cs
  | .d _ => true
  | .gd _ _ x => AV.kb π x
  | .any => true
def AV.kbL (π : List (Nat × Nat)) : List AV → Bool
  | [] => true
  | c :: cs => (AV.kb π c) && (AV.kbL π cs)
end
/-- The numbers in use. -/
def dmR (π : List (Nat × Nat)) (b : Nat) : Prop := (lk π b).isSome = true
def Env.ren (E : Env) (π : List (Nat × Nat)) : Env := ⟨fun b => E.A ((lk π b).getD 0), fun b => E.V ((lk π b).getD 0), fun b => E.nl ((lk π b).getD 0)⟩
mutual
theorem RA.ren {π : List (Nat × Nat)} {dm own own' : Nat → Prop} (k : Keeps own own' W W) : ∀ (x : AV) {v : Value}, RA E dm own W v (x.ren π) → x.kb π = true → RA (E.ren π) (dmR π) own' W v x
  | .p b off, _, h, hb => by
    simp only [AV.ren] at h
    simp only [AV.kb] at hb
    cases h with
    | p h1 h2 => exact RA.p (E := E.ren π) hb h2
  | .o b n, _, h, hb => by
    simp only [AV.ren] at h
    simp only [AV.kb] at hb
    cases h with
    | o h1 h2 => exact RA.o (E := E.ren π) hb h2
  | .vw b off n f, _, h, hb => by
    simp only [AV.ren] at h
    simp only [AV.kb] at hb
    cases h with
    | vw h1 h2 h3 h4 h5 => exact RA.vw (E := E.ren π) hb h2 h3 h4 h5
  | .st cs, _, h, hb => by
    simp only [AV.ren] at h
    simp only [AV.kb] at hb
    cases h with
    | st h => exact .st (RAL.ren k cs h hb)
  | .tup cs, _, h, hb => by
    simp only [AV.ren] at h
    simp only [AV.kb] at hb
    cases h with
    | tup h => exact .tup (RAL.ren k cs h hb)
  | .fn K cs, _, h, hb => by
    simp only [AV.ren] at h
    simp only [AV.kb] at hb
    cases h with
    | fn h => exact .fn (RAL.ren k cs h hb)
  | .d x, _, h, _ => by
    simp only [AV.ren] at h
    cases h with
    | d h => exact .d (h.keeps k)
  | .gd t want x, _, h, hb => by
    simp only [AV.ren] at h
    simp only [AV.kb] at hb
    cases h with
    | gd h h' => exact .gd (fun e => RA.ren k x (h e) hb) h'
  | .any, _, _, _ => .any
theorem RAL.ren {π : List (Nat × Nat)} {dm own own' : Nat → Prop} (k : Keeps own own' W W) : ∀ (cs : List AV) {vs : List Value}, RAL E dm own W vs (AV.renL π cs) → AV.kbL π cs = true → RAL (E.ren π) (dmR π) own' W vs cs
  | [], _, h, _ => by
    simp only [AV.renL] at h
    cases h with
    | nil => exact .nil
  | c :: cs, _, h, hb => by
    simp only [AV.renL] at h
    simp only [AV.kbL, Bool.and_eq_true] at hb
    cases h with
    | cons h t => exact .cons (RA.ren k c h hb.1) (RAL.ren k cs t hb.2)
end
/-- The slots of al' are those of al, at the numbers π. -/
def SubR (π : List (Nat × Nat)) (al : List (Nat × AV)) : List (Nat × AV) → Prop
  | [] => True
  | (n, x) :: l => (lk al n = some (x.ren π) ∧ x.kb π = true) ∧ SubR π al l
/-- The blocks of l, each once, lie under the numbers π. -/
def BsR (bs : Bs) (π0 : List (Nat × Nat)) : List (Nat × Nat) → Bs → Prop
  | [], [] => True
  | (i, j) :: q, (i', some (T, cs)) :: l => (i' = i ∧ lk bs j = some (some (T, AV.renL π0 cs)) ∧ AV.kbL π0 cs = true) ∧ BsR bs π0 q l
  | (i, _) :: q, (i', none) :: l => i' = i ∧ BsR bs π0 q l
  | _, _ => False
theorem SubR.get {π : List (Nat × Nat)} {al : List (Nat × AV)} : ∀ {al' : List (Nat × AV)}, SubR π al al' → ∀ n x, lk al' n = some x → lk al n = some (x.ren π) ∧ x.kb π = true
  | [], _, n, x, h => by simp [lk] at h
  | (m, y) :: l, ⟨h1, h2⟩, n, x, h => by
    rw [lk_cons] at h
    split at h
    · rename_i he
      subst he
      simp only [Option.some.injEq] at h
      subst h
      exact h1
    · exact SubR.get h2 n x h
theorem BsR.get {bs : Bs} {π0 : List (Nat × Nat)} : ∀ {q : List (Nat × Nat)} {l : Bs}, BsR bs π0 q l → (∀ i, (lk q i).isSome = true → dom l i) ∧ ∀ (i T : Nat) (cs : List AV), lk l i = some (some (T, cs)) → ∃ j, lk q i = some j ∧ lk bs j = some (some (T, AV.renL π0 cs)) ∧ AV.kbL π0 cs = true
  | [], [], _ => ⟨fun i h => by simp [lk] at h, fun i T cs h => by simp [lk] at h⟩
  | (i0, j) :: q, (i', none) :: l, h => by
    obtain ⟨rfl, h'⟩ := h
    obtain ⟨h1, h2⟩ := BsR.get h'
    refine ⟨fun i hi => ?_, fun i T cs hi => ?_⟩
    · rw [lk_cons] at hi
      split at hi
      · rename_i he; subst he; exact ⟨_, lk_self _ _ _⟩
      · exact dom_cons i (h1 i hi)
    · rw [lk_cons] at hi ⊢
      split at hi
      · simp at hi
      · rename_i he
        rw [if_neg he]
        exact h2 i T cs hi
  | (i0, j) :: q, (i', some (T', cs')) :: l, h => by
    obtain ⟨⟨rfl, h0⟩, h'⟩ := h
    obtain ⟨h1, h2⟩ := BsR.get h'
    refine ⟨fun i hi => ?_, fun i T cs hi => ?_⟩
    · rw [lk_cons] at hi
      split at hi
      · rename_i he; subst he; exact ⟨_, lk_self _ _ _⟩
      · exact dom_cons i (h1 i hi)
    · rw [lk_cons] at hi ⊢
      split at hi
      · rename_i he
        rw [if_pos he]
        simp only [Option.some.injEq, Prod.mk.injEq] at hi
        obtain ⟨rfl, rfl⟩ := hi
        exact ⟨j, rfl, h0⟩
      · rename_i he
        rw [if_neg he]
        exact h2 i T cs hi
  | [], _ :: _, h => by cases h
  | _ :: _, [], h => by cases h
theorem lk_inj : ∀ {π : List (Nat × Nat)}, (π.map (·.2)).Nodup → ∀ {i i' j : Nat}, lk π i = some j → lk π i' = some j → i = i'
  | [], _, i, i', j, h, _ => by simp [lk] at h
  | (m, v) :: π, hd, i, i', j, h, h' => by
    simp only [List.map_cons, List.nodup_cons, List.mem_map, not_exists, not_and] at hd
    have mem : ∀ {π : List (Nat × Nat)} {i j : Nat}, lk π i = some j → (i, j) ∈ π := by
      intro π
      induction π with
      | nil => intro i j h; simp [lk] at h
      | cons p π ih =>
        obtain ⟨m, v⟩ := p
        intro i j h
        rw [lk_cons] at h
        split at h
        · rename_i he; subst he; cases h; exact List.mem_cons_self ..
        · exact List.mem_cons_of_mem _ (ih h)
    rw [lk_cons] at h h'
    split at h <;> split at h'
    · rename_i h1 h2; omega
    · cases h
      exact absurd rfl (hd.1 _ (mem h'))
    · cases h'
      exact absurd rfl (hd.1 _ (mem h))
    · exact lk_inj hd.2 h h'
theorem HdE.ren (h : HdE P X al bs E a W) {al' : List (Nat × AV)} {bs' : Bs} (π : List (Nat × Nat)) (hs : SubR π al al') (hb : BsR bs π π bs') (hd : (π.map (·.2)).Nodup) (hk : X.k.all (fun b => (lk bs' b).isSome && Nat.beq ((lk π b).getD 0) b) = true) : HdE P X al' bs' (E.ren π) a W := by
  obtain ⟨hdom, hget⟩ := hb.get
  have hg : ∀ i T cs, lk bs' i = some (some (T, cs)) → ∃ j, lk π i = some j ∧ lk bs j = some (some (T, AV.renL π cs)) ∧ AV.kbL π cs = true := hget
  have hl : ∀ i, live (E.ren π) bs' i → ∃ j, lk π i = some j ∧ live E bs j := by
    rintro i ⟨⟨⟨T, cs⟩, h1⟩, h2⟩
    obtain ⟨j, h3, h4, _⟩ := hg i T cs h1
    refine ⟨j, h3, ⟨_, h4⟩, ?_⟩
    simp only [Env.ren, h3, Option.getD_some] at h2
    exact h2
  have hA : ∀ {i j}, lk π i = some j → (E.ren π).A i = E.A j := fun {i j} hij => by simp only [Env.ren, hij, Option.getD_some]
  have ho : ∀ r, ownS (E.ren π) X.o bs' r → ownS E X.o bs r := by
    rintro r (ho | ⟨i, h1, rfl⟩)
    · exact .inl ho
    · obtain ⟨j, h2, h3⟩ := hl i h1
      exact .inr ⟨j, h3, (hA h2).symm⟩
  have k : Keeps (ownS E X.o bs) (ownS (E.ren π) X.o bs') W W := .of (fun _ _ _ => rfl) (Nat.le_refl _) (fun r _ h => ho r h)
  have k2 : Keeps (ownS (E.ren π) X.o bs') (ownS (E.ren π) X.o bs') W W := .of (fun _ _ _ => rfl) (Nat.le_refl _) (fun _ _ h => h)
  have hkk : ∀ b ∈ X.k, dom bs' b ∧ (lk π b).getD 0 = b := fun b hb => by
    have := List.all_eq_true.1 hk b hb
    simp only [Bool.and_eq_true, Nat.beq_eq] at this
    exact ⟨Option.isSome_iff_exists.1 this.1, this.2⟩
  refine ⟨h.ext, h.o0, h.df, h.sz, ⟨fun b hb => (hkk b hb).1, fun b hb => by simp only [Env.ren, (hkk b hb).2]; exact h.en.A b hb, fun b hb => by simp only [Env.ren, (hkk b hb).2]; exact h.en.V b hb, fun b hb => by simp only [Env.ren, (hkk b hb).2]; exact h.en.nl b hb⟩, fun n x hn => ?_, fun i T cs hi => ?_, fun i hi => ?_, fun i j hi hj he => ?_⟩
  · obtain ⟨h1, h2⟩ := hs.get n x hn
    obtain ⟨v, h3, h4⟩ := h.sl n _ h1
    exact ⟨v, h3, (h4.ren k x h2).keeps k2 (Env.le.refl _ _) hdom⟩
  · obtain ⟨j, h1, h2, h3⟩ := hg i T cs hi
    unfold EnOk
    simp only [Env.ren, h1, Option.getD_some]
    rcases h.bk _ T _ h2 with ⟨e1, e2, e3⟩ | ⟨e1, vs, sp, m, n, c, e2, e3, e4⟩
    · refine .inl ⟨e1, ?_, e3⟩
      cases cs with
      | nil => rfl
      | cons c cs => simp [AV.renL] at e2
    · exact .inr ⟨e1, vs, sp, m, n, c, e2, (e3.ren k cs h3).keeps k2 (Env.le.refl _ _) hdom, e4⟩
  · obtain ⟨j, h1, h2⟩ := hl i hi
    rw [hA h1]
    exact h.lo _ h2
  · obtain ⟨i2, h1, h2⟩ := hl i hi
    obtain ⟨j2, h3, h4⟩ := hl j hj
    rw [hA h1, hA h3] at he
    have h5 := h.nd _ _ h2 h4 he
    subst h5
    exact lk_inj hd h1 h3
end

end Go.Proofs.Ytmajkjkakciaiaa

set_option linter.unusedSimpArgs false
set_option linter.unusedVariables false
namespace Go.Proofs.Ytmajkjkakciaiaa
open Go.RowKit

section
variable {α : Type}
/-- The words of the steps that S has, in the order of the text, upon l. -/
def pushS (S : Nat → Bool) : Nat → List (List (Nat × α)) → List (Nat × α) → List (Nat × α)
  | _, [], l => l
  | i, w :: rest, l => pushS S (i + 1) rest (if S i = true then w ++ l else l)
theorem lk_app (w l : List (Nat × α)) (n : Nat) : lk (w ++ l) n = (lk w n).or (lk l n) := by
  induction w with
  | nil => simp [lk]
  | cons p w ih =>
    obtain ⟨m, v⟩ := p
    rw [List.cons_append, lk_cons, lk_cons]
    split
    · rfl
    · exact ih
theorem lk_notin {w : List (Nat × α)} {n : Nat} (h : n ∉ w.map (·.1)) : lk w n = none := by
  induction w with
  | nil => rfl
  | cons p w ih =>
    obtain ⟨m, v⟩ := p
    simp only [List.map_cons, List.mem_cons, not_or] at h
    rw [lk_ne _ _ (fun e => h.1 e.symm)]
    exact ih h.2
theorem lk_isin {w : List (Nat × α)} {n : Nat} (h : n ∈ w.map (·.1)) : ∃ v, lk w n = some v := by
  induction w with
  | nil => simp at h
  | cons p w ih =>
    obtain ⟨m, v⟩ := p
    rw [lk_cons]
    split
    · exact ⟨v, rfl⟩
    · rename_i hne
      simp only [List.map_cons, List.mem_cons] at h
      rcases h with h | h
      · exact absurd h.symm hne
      · exact ih h
/-- Only the steps that write n matter. -/
theorem lk_push {S S' : Nat → Bool} {n : Nat} : ∀ (ws : List (List (Nat × α))) (i : Nat) (l l' : List (Nat × α)), lk l n = lk l' n → (∀ j w, ws[j]? = some w → n ∈ w.map (·.1) → S (i + j) = S' (i + j)) → lk (pushS S i ws l) n = lk (pushS S' i ws l') n
  | [], _, _, _, h, _ => h
  | w :: ws, i, l, l', h, hs => by
    unfold pushS
    refine lk_push ws (i + 1) _ _ ?_ (fun j w' hj hn => by have := hs (j + 1) w' hj hn; rw [show i + 1 + j = i + (j + 1) by omega]; exact this)
    by_cases hn : n ∈ w.map (·.1)
    · have h0 := hs 0 w rfl hn
      rw [Nat.add_zero] at h0
      rw [h0]
      split
      · rw [lk_app, lk_app, h]
      · exact h
    · have h1 := lk_notin hn
      split <;> split <;> simp only [lk_app, h1, Option.none_or, h]
/-- The last step that writes n tells it. -/
theorem lk_push_last {S : Nat → Bool} {n : Nat} {k : Nat} {wk : List (Nat × α)} : ∀ (ws : List (List (Nat × α))) (i : Nat) (l : List (Nat × α)), ws[k]? = some wk → S (i + k) = true → n ∈ wk.map (·.1) → (∀ j w, k < j → ws[j]? = some w → n ∈ w.map (·.1) → S (i + j) = false) → lk (pushS S i ws l) n = lk wk n := by
  induction k with
  | zero =>
    intro ws i l hk hS hn hl
    cases ws with
    | nil => simp at hk
    | cons w ws =>
      simp only [List.getElem?_cons_zero, Option.some.injEq] at hk
      subst hk
      unfold pushS
      rw [Nat.add_zero] at hS
      rw [if_pos hS]
      have := lk_push (S := S) (S' := fun _ => false) (n := n) ws (i + 1) (w ++ l) (w ++ l) rfl (fun j w' hj hn' => by have := hl (j + 1) w' (by omega) hj hn'; rw [show i + 1 + j = i + (j + 1) by omega, this])
      rw [this]
      have hnone : ∀ (ws : List (List (Nat × α))) (i : Nat) (l : List (Nat × α)), pushS (fun _ => false) i ws l = l := by
        intro ws
        induction ws with
        | nil => intros; rfl
        | cons w ws ih => intro i l; unfold pushS; exact ih _ _
      rw [hnone, lk_app]
      obtain ⟨v, hv⟩ := lk_isin hn
      rw [hv]
      rfl
  | succ k ih =>
    intro ws i l hk hS hn hl
    cases ws with
    | nil => simp at hk
    | cons w ws =>
      unfold pushS
      exact ih ws (i + 1) _ hk (by rw [show i + 1 + k = i + (k + 1) by omega]; exact hS) hn (fun j w' hj hw hn' => by have := hl (j + 1) w' (by omega) hw hn'; rw [show i + 1 + j = i + (j + 1) by omega]; exact this)
end

theorem nblt {a b : Nat} (h : b ≤ a) : Nat.blt a b = false := by
  cases hb : Nat.blt a b with
  | false => rfl
  | true => simp at hb; omega
/-- What a step reads and writes: slots, blocks. -/
structure Stp where
  rs : List Nat
  ws : List Nat
  rb : List Nat
  wb : List Nat
def meetsN (a b : List Nat) : Bool := a.any (fun x => b.any (fun y => Nat.beq x y))
theorem meetsN_of {a b : List Nat} {x : Nat} (h1 : x ∈ a) (h2 : x ∈ b) : meetsN a b = true := by
  unfold meetsN
  rw [List.any_eq_true]
  exact ⟨x, h1, by rw [List.any_eq_true]; exact ⟨x, h2, by simp⟩⟩
/-- The two must not change places. -/
def Stp.bound (a b : Stp) : Bool := meetsN a.ws b.rs || meetsN a.ws b.ws || meetsN b.ws a.rs || meetsN a.wb b.rb || meetsN a.wb b.wb || meetsN b.wb a.rb
/-- What stands ahead of each, nearly or far. -/
def nextA (acc : List Nat) (o : Oper) : List Nat := acc ++ [o.after.toList.foldl (fun s e => if Region.binds .any e then 2 ^ e.on ||| (acc.getD e.on 0 ||| s) else s) 0]
def aheads (ops : List Oper) : List Nat := ops.foldl nextA []
def boundOk (A : List Nat) : Nat → List Stp → List Stp → Bool
  | _, _, [] => true
  | j, done, b :: rest => (done.zipIdx.all fun (a, i) => !a.bound b || (A.getD j 0).testBit i) && boundOk A (j + 1) (done ++ [b]) rest
def edgesOk (ops : List Oper) : Bool := ops.zipIdx.all fun (o, j) => o.after.toList.all fun e => !Region.binds .any e || Nat.blt e.on j
def chkS (ops : List Oper) (sts : List Stp) : Bool := edgesOk ops && Nat.beq sts.length ops.length && boundOk (aheads ops) 0 [] sts

/-- S has with each step what stands ahead of it. -/
def Down (ops : List Oper) (S : Nat → Bool) : Prop := ∀ j o, ops[j]? = some o → S j = true → ∀ e ∈ o.after, Region.binds .any e = true → S e.on = true
def InvA (ops : List Oper) (A : List Nat) : Prop := A.length = ops.length ∧ ∀ (j : Nat) (o : Oper), ops[j]? = some o → ∀ x, (A.getD j 0).testBit x = true → ∃ e ∈ o.after, Region.binds .any e = true ∧ (x = e.on ∨ ((A.take j).getD e.on 0).testBit x = true)
theorem InvA.step {ops : List Oper} {A : List Nat} (h : InvA ops A) (o : Oper) : InvA (ops ++ [o]) (nextA A o) := by
  obtain ⟨h1, h2⟩ := h
  unfold nextA
  refine ⟨by simp [h1], fun j p hj x hx => ?_⟩
  rcases Nat.lt_or_ge j ops.length with hlt | hge
  · rw [List.getElem?_append_left hlt] at hj
    rw [List.getD_eq_getElem?_getD, List.getElem?_append_left (by omega), ← List.getD_eq_getElem?_getD] at hx
    obtain ⟨e, h3, h4, h5⟩ := h2 j p hj x hx
    refine ⟨e, h3, h4, ?_⟩
    rw [List.take_append_of_le_length (by omega)]
    exact h5
  · rw [List.getElem?_append_right hge] at hj
    have hj0 : j - ops.length = 0 := by
      have := (List.getElem?_eq_some_iff.1 hj).1
      simpa using this
    rw [hj0] at hj
    simp only [List.getElem?_cons_zero, Option.some.injEq] at hj
    subst hj
    obtain rfl : j = ops.length := by omega
    rw [← h1] at hx
    simp only [List.getD_eq_getElem?_getD, List.getElem?_concat_length, Option.getD_some] at hx
    have key : ∀ (es : List Edge) (s : Nat), (es.foldl (fun s e => if Region.binds .any e then 2 ^ e.on ||| (A[e.on]?.getD 0 ||| s) else s) s).testBit x = true → s.testBit x = true ∨ ∃ e ∈ es, Region.binds .any e = true ∧ (x = e.on ∨ (A[e.on]?.getD 0).testBit x = true) := by
      intro es
      induction es with
      | nil => intro s h; exact .inl h
      | cons e es ih =>
        intro s h
        simp only [List.foldl_cons] at h
        rcases ih _ h with h | ⟨e', h3, h4⟩
        · by_cases hb : Region.binds .any e = true
          · rw [if_pos hb] at h
            rw [Nat.testBit_or, Nat.testBit_or, Nat.testBit_two_pow, Bool.or_eq_true, Bool.or_eq_true, decide_eq_true_eq] at h
            rcases h with h | h | h
            · exact .inr ⟨e, List.mem_cons_self .., hb, .inl h.symm⟩
            · exact .inr ⟨e, List.mem_cons_self .., hb, .inr h⟩
            · exact .inl h
          · rw [if_neg hb] at h
            exact .inl h
        · exact .inr ⟨e', List.mem_cons_of_mem _ h3, h4⟩
    rcases key _ _ hx with h | ⟨e, h3, h4, h5⟩
    · simp at h
    · refine ⟨e, by simpa using h3, h4, ?_⟩
      rw [List.take_append_of_le_length (by omega), ← h1, List.take_length, List.getD_eq_getElem?_getD]
      exact h5
theorem InvA.all : ∀ (ops done : List Oper) (A : List Nat), InvA done A → InvA (done ++ ops) (ops.foldl nextA A)
  | [], done, A, h => by simpa using h
  | o :: ops, done, A, h => by
    have := InvA.all ops (done ++ [o]) (nextA A o) (h.step o)
    simpa using this
theorem aheads_spec (ops : List Oper) : InvA ops (aheads ops) := by
  have := InvA.all ops [] [] ⟨rfl, fun j o h => by simp at h⟩
  rw [List.nil_append] at this
  exact this
theorem ahead_in {ops : List Oper} {S : Nat → Bool} (hd : Down ops S) (he : edgesOk ops = true) : ∀ (j : Nat) (o : Oper), ops[j]? = some o → (∀ e ∈ o.after, Region.binds .any e = true → S e.on = true) → ∀ x, ((aheads ops).getD j 0).testBit x = true → S x = true := by
  intro j
  induction j using Nat.strongRecOn with
  | _ j ih =>
    intro o ho hS x hx
    obtain ⟨e, h1, h2, h3⟩ := (aheads_spec ops).2 j o ho x hx
    have hlt : e.on < j := by
      unfold edgesOk at he
      rw [List.all_eq_true] at he
      have h4 := he (o, j) (by rw [List.mem_zipIdx_iff_getElem?]; exact ho)
      rw [List.all_eq_true] at h4
      have h6 := h4 e (by simpa using h1)
      rw [h2] at h6
      simpa using h6
    rcases h3 with h3 | h3
    · rw [h3]; exact hS e h1 h2
    · have hj : j < ops.length := (List.getElem?_eq_some_iff.1 ho).1
      have h5 : ((aheads ops).getD e.on 0).testBit x = true := by
        rw [List.getD_eq_getElem?_getD, List.getElem?_take_of_lt hlt, ← List.getD_eq_getElem?_getD] at h3
        exact h3
      have ho' : ops[e.on]? = some ops[e.on] := List.getElem?_eq_getElem (by omega)
      exact ih e.on hlt _ ho' (fun e' h6 h7 => hd e.on _ ho' (hS e h1 h2) e' h6 h7) x h5
theorem boundOk_spec {A : List Nat} : ∀ (rest : List Stp) (j : Nat) (done : List Stp), done.length = j → boundOk A j done rest = true → ∀ (i k : Nat) (a b : Stp), (done ++ rest)[i]? = some a → (done ++ rest)[k]? = some b → i < k → j ≤ k → a.bound b = true → (A.getD k 0).testBit i = true
  | [], j, done, hl, _, i, k, a, b, hi, hk, hik, hjk, _ => by
    rw [List.append_nil] at hk
    have := (List.getElem?_eq_some_iff.1 hk).1
    omega
  | c :: rest, j, done, hl, h, i, k, a, b, hi, hk, hik, hjk, hb => by
    simp only [boundOk, Bool.and_eq_true] at h
    rcases Nat.lt_or_ge j k with hlt | hge
    · refine boundOk_spec rest (j + 1) (done ++ [c]) (by simp [hl]) h.2 i k a b ?_ ?_ hik hlt hb
      · rw [List.append_assoc]; exact hi
      · rw [List.append_assoc]; exact hk
    · obtain rfl : k = j := by omega
      rw [List.getElem?_append_right (by omega), hl, Nat.sub_self] at hk
      simp only [List.getElem?_cons_zero, Option.some.injEq] at hk
      subst hk
      rw [List.getElem?_append_left (by omega)] at hi
      have h1 := h.1
      rw [List.all_eq_true] at h1
      have h2 := h1 (a, i) (by rw [List.mem_zipIdx_iff_getElem?]; exact hi)
      simp only [hb, Bool.not_true, Bool.false_or] at h2
      exact h2

section
variable {P : Program} {X : Cx} {l : List Oper} {Q : Exit → Act → World → Prop}
/-- Operation i does what its words say, wherever what it reads is told as in the text's order. -/
def LOp (P : Program) (X : Cx) (l : List Oper) (Q : Exit → Act → World → Prop) (i : Nat) (al : List (Nat × AV)) (bs : Bs) (rs rb : List Nat) (sl : List (Nat × AV)) (bl : Bs) : Prop :=
  ∀ (ro : Option Nat) al2 bs2, (∀ n ∈ rs, lk al2 n = lk al n) → (∀ b ∈ rb, lk bs2 b = lk bs b) → ∀ E a W, HdE P X al2 bs2 E a W → ∀ K : Act → World → Prop, (∀ E' a' W', HdE P X (sl ++ al2) (bl ++ bs2) E' a' W' → K a' W') → WOp P ro l.toArray Q i K a W
/-- The steps of a region, told in the order of the text. -/
inductive Chain (P : Program) (X : Cx) (l : List Oper) (Q : Exit → Act → World → Prop) (al0 : List (Nat × AV)) (bs0 : Bs) : List Stp → List (List (Nat × AV)) → List Bs → List (Nat × AV) → Bs → Prop
  | nil : Chain P X l Q al0 bs0 [] [] [] al0 bs0
  | snoc {sts : List Stp} {sls : List (List (Nat × AV))} {bls : List Bs} {al : List (Nat × AV)} {bs : Bs} {rs rb : List Nat} {sl : List (Nat × AV)} {bl : Bs} (c : Chain P X l Q al0 bs0 sts sls bls al bs) (h : LOp P X l Q sts.length al bs rs rb sl bl) :
      Chain P X l Q al0 bs0 (sts ++ [⟨rs, sl.map (·.1), rb, bl.map (·.1)⟩]) (sls ++ [sl]) (bls ++ [bl]) (sl ++ al) (bl ++ bs)
theorem pushS_snoc {α : Type} (S : Nat → Bool) : ∀ (ws : List (List (Nat × α))) (i : Nat) (w l : List (Nat × α)), pushS S i (ws ++ [w]) l = if S (i + ws.length) = true then w ++ pushS S i ws l else pushS S i ws l
  | [], i, w, l => rfl
  | x :: ws, i, w, l => by
    rw [List.cons_append]
    unfold pushS
    rw [pushS_snoc S ws (i + 1) w, List.length_cons, show i + 1 + ws.length = i + (ws.length + 1) by omega]
theorem pushS_lt {α : Type} {S S' : Nat → Bool} : ∀ (ws : List (List (Nat × α))) (i : Nat) (l : List (Nat × α)), (∀ j, j < ws.length → S (i + j) = S' (i + j)) → pushS S i ws l = pushS S' i ws l
  | [], _, _, _ => rfl
  | w :: ws, i, l, h => by
    unfold pushS
    have h0 := h 0 (by simp)
    rw [Nat.add_zero] at h0
    rw [h0]
    exact pushS_lt ws (i + 1) _ (fun j hj => by have := h (j + 1) (by simp; omega); rw [show i + 1 + j = i + (j + 1) by omega]; exact this)
/-- What is known of step i. -/
structure Known (P : Program) (X : Cx) (l : List Oper) (Q : Exit → Act → World → Prop) (al0 : List (Nat × AV)) (bs0 : Bs) (sts : List Stp) (sls : List (List (Nat × AV))) (bls : List Bs) (i : Nat) : Prop where
  h : ∃ st sl bl, sts[i]? = some st ∧ sls[i]? = some sl ∧ bls[i]? = some bl ∧ st.ws = sl.map (·.1) ∧ st.wb = bl.map (·.1) ∧ LOp P X l Q i (pushS (fun j => Nat.blt j i) 0 sls al0) (pushS (fun j => Nat.blt j i) 0 bls bs0) st.rs st.rb sl bl
theorem Chain.known {al0 al : List (Nat × AV)} {bs0 bs : Bs} {sts : List Stp} {sls : List (List (Nat × AV))} {bls : List Bs} (c : Chain P X l Q al0 bs0 sts sls bls al bs) :
    sls.length = sts.length ∧ bls.length = sts.length ∧ al = pushS (fun _ => true) 0 sls al0 ∧ bs = pushS (fun _ => true) 0 bls bs0 ∧ ∀ i, i < sts.length → Known P X l Q al0 bs0 sts sls bls i := by
  induction c with
  | nil => exact ⟨rfl, rfl, rfl, rfl, fun i h => by simp at h⟩
  | @snoc sts sls bls al bs rs rb sl bl c h ih =>
    obtain ⟨h1, h2, h3, h4, h5⟩ := ih
    refine ⟨by simp [h1], by simp [h2], by rw [pushS_snoc, if_pos rfl, h3], by rw [pushS_snoc, if_pos rfl, h4], fun i hi => ?_⟩
    have cut : ∀ {α : Type} (ws : List (List (Nat × α))) (w l0 : List (Nat × α)), ws.length = sts.length → i ≤ sts.length → pushS (fun j => Nat.blt j i) 0 (ws ++ [w]) l0 = pushS (fun j => Nat.blt j i) 0 ws l0 := by
      intro α ws w l0 hw hi
      rw [pushS_snoc, if_neg (by simp; omega)]
    have all : ∀ {α : Type} (ws : List (List (Nat × α))) (l0 : List (Nat × α)), ws.length = sts.length → i = sts.length → pushS (fun j => Nat.blt j i) 0 ws l0 = pushS (fun _ => true) 0 ws l0 := by
      intro α ws l0 hw hi
      exact pushS_lt ws 0 l0 (fun j hj => by simp; omega)
    simp only [List.length_append, List.length_cons, List.length_nil, Nat.zero_add] at hi
    rcases Nat.lt_or_ge i sts.length with hlt | hge
    · obtain ⟨st, sl', bl', e1, e2, e3, e4, e5, e6⟩ := (h5 i hlt).h
      refine ⟨st, sl', bl', by rw [List.getElem?_append_left hlt]; exact e1, by rw [List.getElem?_append_left (by omega)]; exact e2, by rw [List.getElem?_append_left (by omega)]; exact e3, e4, e5, ?_⟩
      rw [cut sls sl al0 h1 (by omega), cut bls bl bs0 h2 (by omega)]
      exact e6
    · obtain rfl : i = sts.length := by omega
      refine ⟨_, sl, bl, List.getElem?_concat_length .., by rw [← h1]; exact List.getElem?_concat_length .., by rw [← h2]; exact List.getElem?_concat_length .., rfl, rfl, ?_⟩
      rw [cut sls sl al0 h1 (by omega), cut bls bl bs0 h2 (by omega), all sls al0 h1 rfl, all bls bs0 h2 rfl, ← h3, ← h4]
      exact h
/-- The region's whole, in any order. -/
theorem Chain.any (ro : Option Nat) {al0 al : List (Nat × AV)} {bs0 bs : Bs} {sts : List Stp} {sls : List (List (Nat × AV))} {bls : List Bs} (c : Chain P X l Q al0 bs0 sts sls bls al bs) (hchk : chkS l sts = true) (hQ : G P X al bs (Q .normal)) :
    ∀ (fuel : Nat) (listed : Array Bool), listed.size = l.length → listed.toList.count false = fuel → Down l (fun j => listed.getD j false) →
      ∀ al2 bs2 E a W, HdE P X al2 bs2 E a W → (∀ n, lk al2 n = lk (pushS (fun j => listed.getD j false) 0 sls al0) n) → (∀ b, lk bs2 b = lk (pushS (fun j => listed.getD j false) 0 bls bs0) b) → wpAnyIn (FR ro) 0 P .any l.toArray Q fuel listed a W := by
  obtain ⟨k1, k2, k3, k4, k5⟩ := c.known
  simp only [chkS, Bool.and_eq_true] at hchk
  obtain ⟨⟨hedge, hlen⟩, hbound⟩ := hchk
  have hlen' : sts.length = l.length := Nat.eq_of_beq_eq_true hlen
  have hbd : ∀ (i k : Nat) (x y : Stp), sts[i]? = some x → sts[k]? = some y → i < k → x.bound y = true → ((aheads l).getD k 0).testBit i = true := fun i k x y hi hk hik hb => boundOk_spec sts 0 [] rfl hbound i k x y hi hk hik (Nat.zero_le _) hb
  have done : ∀ (listed : Array Bool), listed.size = l.length → Region.ready .any l.toArray listed = [] → ∀ j, j < l.length → listed.getD j false = true := by
    intro listed hs hr j
    induction j using Nat.strongRecOn with
    | _ j ih =>
      intro hj
      cases hb : listed.getD j false with
      | true => rfl
      | false =>
        exfalso
        have : j ∈ Region.ready .any l.toArray listed := by
          refine mem_ready.2 ⟨?_, l[j], by simp [hj], fun e he hbe => ?_⟩
          · rw [Array.getD_eq_getD_getElem?, Array.getElem?_eq_getElem (by omega)] at hb ⊢
            exact hb
          · have hlt : e.on < j := by
              unfold edgesOk at hedge
              rw [List.all_eq_true] at hedge
              have h4 := hedge (l[j], j) (by rw [List.mem_zipIdx_iff_getElem?]; exact List.getElem?_eq_getElem hj)
              rw [List.all_eq_true] at h4
              have h6 := h4 e (by simpa using he)
              rw [hbe] at h6
              simpa using h6
            exact ih e.on hlt (by omega)
        rw [hr] at this
        cases this
  have fin : ∀ (listed : Array Bool), listed.size = l.length → Region.ready .any l.toArray listed = [] → ∀ al2 bs2 E a W, HdE P X al2 bs2 E a W → (∀ n, lk al2 n = lk (pushS (fun j => listed.getD j false) 0 sls al0) n) → (∀ b, lk bs2 b = lk (pushS (fun j => listed.getD j false) 0 bls bs0) b) → Q .normal a W := by
    intro listed hs hr al2 bs2 E a W hh ha hb
    have hd := done listed hs hr
    have e1 : pushS (fun j => listed.getD j false) 0 sls al0 = al := by
      rw [k3]
      exact pushS_lt sls 0 al0 (fun j hj => by rw [Nat.zero_add]; exact hd j (by omega))
    have e2 : pushS (fun j => listed.getD j false) 0 bls bs0 = bs := by
      rw [k4]
      exact pushS_lt bls 0 bs0 (fun j hj => by rw [Nat.zero_add]; exact hd j (by omega))
    rw [e1] at ha
    rw [e2] at hb
    exact hQ E a W (hh.same (fun n x hx => by rw [ha]; exact hx) (fun b => (hb b).symm))
  intro fuel
  induction fuel with
  | zero =>
    intro listed hs hc hD al2 bs2 E a W hh ha hb
    have hr : Region.ready .any l.toArray listed = [] := by
      rw [List.eq_nil_iff_forall_not_mem]
      intro j hj
      obtain ⟨h1, o, h2, _⟩ := mem_ready.1 hj
      have hjl : j < listed.size := by
        have := (Array.getElem?_eq_some_iff.1 h2).1
        simp only [List.size_toArray] at this
        omega
      rw [List.count_eq_zero] at hc
      apply hc
      rw [Array.getD_eq_getD_getElem?, Array.getElem?_eq_getElem hjl, Option.getD_some] at h1
      rw [← h1]
      simp
    exact ⟨hr, fin listed hs hr al2 bs2 E a W hh ha hb⟩
  | succ fuel ih =>
    intro listed hs hc hD al2 bs2 E a W hh ha hb
    refine ⟨fun hr => fin listed hs hr al2 bs2 E a W hh ha hb, fun i hi => ?_⟩
    obtain ⟨h1, o, h2, h3⟩ := mem_ready.1 hi
    have hil : i < l.length := by
      have := (Array.getElem?_eq_some_iff.1 h2).1
      simpa using this
    have h2' : l[i]? = some o := by simpa using h2
    have hSi : listed.getD i false = false := by
      rw [Array.getD_eq_getD_getElem?, Array.getElem?_eq_getElem (by omega)] at h1 ⊢
      exact h1
    obtain ⟨st, sl, bl, e1, e2, e3, e4, e5, e6⟩ := (k5 i (by omega)).h
    -- who is bound to i
    have before : ∀ (j : Nat) (x : Stp), sts[j]? = some x → j < i → x.bound st = true → listed.getD j false = true := fun j x hj hji hb => ahead_in hD hedge i o h2' h3 j (hbd j i x st hj e1 hji hb)
    have after : ∀ (j : Nat) (x : Stp), sts[j]? = some x → i < j → st.bound x = true → listed.getD j false = false := by
      intro j x hj hij hb
      cases hlj : listed.getD j false with
      | false => rfl
      | true =>
        have hjl : j < l.length := by have := (List.getElem?_eq_some_iff.1 hj).1; omega
        have := ahead_in hD hedge j l[j] (List.getElem?_eq_getElem hjl) (fun e he hbe => hD j l[j] (List.getElem?_eq_getElem hjl) hlj e he hbe) i (hbd i j st x e1 hj hij hb)
        rw [hSi] at this
        cases this
    have kn : ∀ (j : Nat) (w : List (Nat × AV)), sls[j]? = some w → ∃ x : Stp, sts[j]? = some x ∧ x.ws = w.map (·.1) := by
      intro j w hj
      have hjl : j < sts.length := by have := (List.getElem?_eq_some_iff.1 hj).1; omega
      obtain ⟨x, sl', bl', f1, f2, f3, f4, f5, _⟩ := (k5 j hjl).h
      rw [hj] at f2
      cases f2
      exact ⟨x, f1, f4⟩
    have knb : ∀ (j : Nat) (w : Bs), bls[j]? = some w → ∃ x : Stp, sts[j]? = some x ∧ x.wb = w.map (·.1) := by
      intro j w hj
      have hjl : j < sts.length := by have := (List.getElem?_eq_some_iff.1 hj).1; omega
      obtain ⟨x, sl', bl', f1, f2, f3, f4, f5, _⟩ := (k5 j hjl).h
      rw [hj] at f3
      cases f3
      exact ⟨x, f1, f5⟩
    have or1 : ∀ {a b c d e f : Bool}, (a = true ∨ b = true ∨ c = true ∨ d = true ∨ e = true ∨ f = true) → (a || b || c || d || e || f) = true := by
      intro a b c d e f h
      rcases h with h | h | h | h | h | h <;> simp [h]
    refine e6 ro al2 bs2 ?_ ?_ E a W hh _ (fun E' a' W' hh' => ?_)
    · intro n hn
      rw [ha]
      refine lk_push sls 0 _ _ rfl (fun j w hj hnw => ?_)
      obtain ⟨x, f1, f2⟩ := kn j w hj
      rw [← f2] at hnw
      simp only [Nat.zero_add]
      rcases Nat.lt_trichotomy j i with hji | hji | hji
      · rw [before j x f1 hji (or1 (.inl (meetsN_of hnw hn)))]
        simp [hji]
      · subst hji
        rw [hSi, nblt (Nat.le_refl _)]
      · rw [after j x f1 hji (or1 (.inr (.inr (.inl (meetsN_of hnw hn)))))]
        rw [nblt (Nat.le_of_lt hji)]
    · intro n hn
      rw [hb]
      refine lk_push bls 0 _ _ rfl (fun j w hj hnw => ?_)
      obtain ⟨x, f1, f2⟩ := knb j w hj
      rw [← f2] at hnw
      simp only [Nat.zero_add]
      rcases Nat.lt_trichotomy j i with hji | hji | hji
      · rw [before j x f1 hji (or1 (.inr (.inr (.inr (.inl (meetsN_of hnw hn))))))]
        simp [hji]
      · subst hji
        rw [hSi, nblt (Nat.le_refl _)]
      · rw [after j x f1 hji (or1 (.inr (.inr (.inr (.inr (.inr (meetsN_of hnw hn)))))))]
        rw [nblt (Nat.le_of_lt hji)]
    · have hset : ∀ j, (listed.setIfInBounds i true).getD j false = if j = i then true else listed.getD j false := by
        intro j
        by_cases he : j = i
        · subst he
          rw [if_pos rfl, Array.getD_eq_getD_getElem?, Array.getElem?_setIfInBounds_self_of_lt (by omega)]
          rfl
        · rw [if_neg he, getD_set_ne false (fun e => he e.symm)]
      have step : ∀ {α : Type} (ws : List (List (Nat × α))) (w : List (Nat × α)) (l0 l2 : List (Nat × α)), ws[i]? = some w → (∀ n, lk l2 n = lk (pushS (fun j => listed.getD j false) 0 ws l0) n) → (∀ n ∈ w.map (·.1), ∀ j w', i < j → ws[j]? = some w' → n ∈ w'.map (·.1) → listed.getD j false = false) →
          ∀ n, lk (w ++ l2) n = lk (pushS (fun j => (listed.setIfInBounds i true).getD j false) 0 ws l0) n := by
        intro α ws w l0 l2 hw h2 hlast n
        by_cases hn : n ∈ w.map (·.1)
        · obtain ⟨v, hv⟩ := lk_isin hn
          rw [lk_push_last (k := i) ws 0 l0 hw (by rw [Nat.zero_add, hset, if_pos rfl]) hn (fun j w' hj hw' hn' => by rw [Nat.zero_add, hset, if_neg (by omega)]; exact hlast n hn j w' hj hw' hn')]
          rw [lk_app, hv]
          rfl
        · rw [lk_app, lk_notin hn, Option.none_or, h2]
          refine lk_push ws 0 _ _ rfl (fun j w' hj hn' => ?_)
          rw [Nat.zero_add, hset]
          by_cases he : j = i
          · subst he
            rw [hw] at hj
            cases hj
            exact absurd hn' hn
          · rw [if_neg he]
      refine ih (listed.setIfInBounds i true) (by simp [hs]) ?_ ?_ _ _ E' a' W' hh' ?_ ?_
      · have hil' : i < listed.toList.length := by simpa using (by omega : i < listed.size)
        rw [Array.toList_setIfInBounds, List.count_set hil']
        have : listed.toList[i] = false := by
          rw [Array.getD_eq_getD_getElem?, Array.getElem?_eq_getElem (by omega), Option.getD_some] at hSi
          simpa using hSi
        rw [this, hc]
        simp
      · intro j oj hj hlj e he hbe
        dsimp only at hlj ⊢
        rw [hset] at hlj ⊢
        split
        · rfl
        · split at hlj
          · rename_i hji
            subst hji
            rw [h2'] at hj
            cases hj
            exact h3 e he hbe
          · exact hD j oj hj hlj e he hbe
      · refine step sls sl al0 al2 e2 ha (fun n hn j w' hij hw' hn' => ?_)
        obtain ⟨x, f1, f2⟩ := kn j w' hw'
        exact after j x f1 hij (or1 (.inr (.inl (meetsN_of (by rw [e4]; exact hn) (by rw [f2]; exact hn')))))
      · refine step bls bl bs0 bs2 e3 hb (fun n hn j w' hij hw' hn' => ?_)
        obtain ⟨x, f1, f2⟩ := knb j w' hw'
        exact after j x f1 hij (or1 (.inr (.inr (.inr (.inr (.inl (meetsN_of (by rw [e5]; exact hn) (by rw [f2]; exact hn'))))))))
/-- A region that draws its order. -/
theorem Chain.region {ro : Option Nat} {al0 al : List (Nat × AV)} {bs0 bs : Bs} {sts : List Stp} {sls : List (List (Nat × AV))} {bls : List Bs} {id : Nat} (hm : P.follows .mixedOrders = true) (c : Chain P X l Q al0 bs0 sts sls bls al bs) (hchk : chkS l sts = true) (hQ : G P X al bs (Q .normal)) :
    G P X al0 bs0 (Wp P ro (Code.region id l.toArray true) Q) := fun E a W hh => by
  refine wpIn_region_any hm ?_
  have hx : HdE P X al0 bs0 E a { W with drawn := W.drawn + 1 } := hh.grow (ext_drew W)
  have hr : ∀ j, (Array.replicate l.toArray.size false).getD j false = false := by
    intro j
    rw [Array.getD_eq_getD_getElem?, Array.getElem?_replicate]
    split <;> rfl
  have hnone : ∀ {α : Type} (ws : List (List (Nat × α))) (i : Nat) (l0 : List (Nat × α)), pushS (fun j => (Array.replicate l.toArray.size false).getD j false) i ws l0 = l0 := by
    intro α ws
    induction ws with
    | nil => intros; rfl
    | cons w ws ih => intro i l0; unfold pushS; rw [if_neg (by rw [hr]; exact Bool.false_ne_true)]; exact ih _ _
  refine c.any ro hchk hQ _ _ (by simp) (by simp) ?_ al0 bs0 E a _ hx (fun n => by rw [hnone]) (fun b => by rw [hnone])
  intro j o hj hl
  dsimp only at hl
  rw [hr] at hl
  cases hl
end

end Go.Proofs.Ytmajkjkakciaiaa

set_option linter.unusedSimpArgs false
set_option linter.unusedVariables false
namespace Go.Proofs.Ytmajkjkakciaiaa
open Go.RowKit

/-- May be entered: it has a body in Go. -/
def fbody (P : Program) (K : Nat) : Bool := match P.funcs[K]? with
  | some fn => fn.name != "runtime.NumGoroutine" && fn.body.isSome
  | none => false
/-- Function K, called with data ds, returns data of which R holds, and changes nothing. -/
def Fn (P : Program) (K : Nat) (ds : List D) (R : D → Prop) : Prop :=
  fbody P K = true ∧ ∀ (own : Nat → Prop) (W : World) (vs : List Value), (∀ r, own r → r < W.heap.size) → RL own W vs ds → Calls P K vs.toArray W (fun e W' => ∃ v x, e = .returned v ∧ R x ∧ Ext W W' ∧ RD own W' v x)
theorem Fn.mono {P : Program} {K : Nat} {ds : List D} {R R' : D → Prop} (h : Fn P K ds R) (hr : ∀ x, R x → R' x) : Fn P K ds R' :=
  ⟨h.1, fun own W vs ho hv => (h.2 own W vs ho hv).mono fun e W' ⟨v, x, h1, h2, h3⟩ => ⟨v, x, h1, hr x h2, h3⟩⟩
/-- The operands are us. -/
inductive EvL (al : List (Nat × AV)) : List Operand → List AV → Prop
  | nil : EvL al [] []
  | cons {x : Operand} {u : AV} {xs : List Operand} {us : List AV} (h : Evd al x u) (t : EvL al xs us) : EvL al (x :: xs) (u :: us)

section
variable {P : Program} {ro : Option Nat} {X : Cx} {al : List (Nat × AV)} {bs : Bs} {E : Env} {a : Act} {W : World}
theorem HdE.evsOk (h : HdE P X al bs E a W) : ∀ {xs : List Operand} {ys : List AV}, EvL al xs ys → RAL E (dom bs) (ownS E X.o bs) W (xs.map a.eval) ys
  | [], _, .nil => .nil
  | x :: xs, _, .cons hx t => .cons (h.evd hx) (h.evsOk t)
theorem callFunc_enter {K : Nat} {args : Array Value} (h : fbody P K = true) : (callFunc K args).run P W = .ok (.enter K args) W := by
  unfold fbody at h
  split at h
  · rename_i fn hf
    simp only [Bool.and_eq_true, bne_iff_ne, ne_eq] at h
    unfold callFunc
    obtain ⟨h1, h2⟩ := h
    obtain ⟨c, hc⟩ := Option.isSome_iff_exists.1 h2
    simp [hf, h1, hc]
  · cases h

/-- A step: wherever what it reads is told the same, the operation leads on to the state with these words more. -/
def LT (P : Program) (X : Cx) (al : List (Nat × AV)) (bs : Bs) (op : Op) (dst : Option Nat) (rb : List Nat) (sl : List (Nat × AV)) (bl : Bs) : Prop :=
  ∀ (ro : Option Nat) al2 bs2, Loc op al al2 → LocB rb bs bs2 → ∀ E a W, HdE P X al2 bs2 E a W → ∀ o : Oper, o.op = op → o.dst = dst → ∀ (K : Act → World → Prop) (Q : Exit → Act → World → Prop), (∀ E' a' W', HdE P X (sl ++ al2) (bl ++ bs2) E' a' W' → K a' W') → WO P ro o a W K Q
section
variable {ops : Array Oper} {Q : Exit → Act → World → Prop} {rest : List Oper} {d ty T b off k : Nat} {ps : String} {af : Array Edge} {x y : Operand} {u : AV} {op : Op} {dst : Option Nat} {rb : List Nat} {sl : List (Nat × AV)} {bl : Bs} {s : Nat × AV} {e e' : Nat × Option (TypeId × List AV)}
/-! #### In a plain region -/
theorem G.w (lt : LT P X al bs op dst rb sl bl) (h : G P X (sl ++ al) (bl ++ bs) (WL P ro ops Q rest)) :
    G P X al bs (WL P ro ops Q ({ dst := dst, op := op, type := ty, pos := ps, after := af, guard := none } :: rest)) := fun E a W hh =>
  WL.plain rfl (fun K hK => lt ro al bs (Loc.refl _) (LocB.refl _) E a W hh _ rfl rfl K Q (fun E' a' W' h' => hK _ _ (h E' a' W' h')))
theorem G.w1 (h : G P X (s :: al) bs (WL P ro ops Q rest)) (lt : LT P X al bs op dst rb [s] []) : G P X al bs (WL P ro ops Q ({ dst := dst, op := op, type := ty, pos := ps, after := af, guard := none } :: rest)) := G.w lt h
theorem G.w0 (h : G P X al (e :: bs) (WL P ro ops Q rest)) (lt : LT P X al bs op dst rb [] [e]) : G P X al bs (WL P ro ops Q ({ dst := dst, op := op, type := ty, pos := ps, after := af, guard := none } :: rest)) := G.w lt h
theorem G.w2 (h : G P X (s :: al) (e :: bs) (WL P ro ops Q rest)) (lt : LT P X al bs op dst rb [s] [e]) : G P X al bs (WL P ro ops Q ({ dst := dst, op := op, type := ty, pos := ps, after := af, guard := none } :: rest)) := G.w lt h
theorem G.w3 (h : G P X (s :: al) (e :: e' :: bs) (WL P ro ops Q rest)) (lt : LT P X al bs op dst rb [s] [e, e']) : G P X al bs (WL P ro ops Q ({ dst := dst, op := op, type := ty, pos := ps, after := af, guard := none } :: rest)) := G.w lt h
/-! A guard that is decided -/
theorem wanted_is {dj : Nat} {t want : Bool} {j : Nat} {o : Oper} {l : List Oper} (hg : o.guard = some (j, want)) (hj : (l[j]?).bind (·.dst) = some dj) (hh : HdE P X al bs E a W) (hs : lk al dj = some (.d (.s (.bool t)))) : Region.wanted o (yielded l.toArray a.tmps) = (t == want) := by
  obtain ⟨v, h1, h2⟩ := hh.sl dj _ hs
  obtain rfl := h2.scalar
  have : (l.toArray[j]?).bind (·.dst) = some dj := by simpa using hj
  rw [wanted_of hg, yielded_at this h1]
  cases t <;> cases want <;> rfl
theorem G.gT {l : List Oper} {dj : Nat} {t want : Bool} {j : Nat} (h : G P X al bs (WL P ro l.toArray Q ({ dst := dst, op := op, type := ty, pos := ps, after := af, guard := none } :: rest))) (hs : lk al dj = some (.d (.s (.bool t)))) (ht : t = want) (hj : (l[j]?).bind (·.dst) = some dj := by rfl) :
    G P X al bs (WL P ro l.toArray Q ({ dst := dst, op := op, type := ty, pos := ps, after := af, guard := some (j, want) } :: rest)) := fun E a W hh => by
  have h1 := h E a W hh
  have hw := wanted_is (o := { dst := dst, op := op, type := ty, pos := ps, after := af, guard := some (j, want) }) rfl hj hh hs
  exact WL.yes (by rw [hw, ht]; simp) (WL.inv (o := { dst := dst, op := op, type := ty, pos := ps, after := af, guard := none }) rfl h1)
theorem G.gF {l : List Oper} {dj : Nat} {t want : Bool} {j : Nat} (h : G P X ((d, .any) :: al) bs (WL P ro l.toArray Q rest)) (hs : lk al dj = some (.d (.s (.bool t)))) (ht : t = !want) (hj : (l[j]?).bind (·.dst) = some dj := by rfl) (hd : Nat.blt d X.N = true := by rfl) :
    G P X al bs (WL P ro l.toArray Q ({ dst := some d, op := op, type := ty, pos := ps, after := af, guard := some (j, want) } :: rest)) := fun E a W hh => by
  have hw := wanted_is (o := { dst := some d, op := op, type := ty, pos := ps, after := af, guard := some (j, want) }) rfl hj hh hs
  exact WL.no (by rw [hw, ht]; cases want <;> simp) (h E _ W (hh.put .any (by simpa using hd)))
theorem HdE.under {t want : Bool} (ht : t = want) (h : HdE P X ((d, u) :: al) bs E a W) : HdE P X ((d, .gd t want u) :: al) bs E a W := by
  refine ⟨h.ext, h.o0, h.df, h.sz, h.en, fun n x hx => ?_, h.bk, h.lo, h.nd⟩
  rw [lk_cons] at hx
  split at hx
  · rename_i he
    subst he
    simp only [Option.some.injEq] at hx
    subst hx
    obtain ⟨v, h1, h2⟩ := h.sl d u (lk_self _ _ _)
    exact ⟨v, h1, .gd (fun _ => h2) (fun e => absurd ht e)⟩
  · rename_i he
    exact h.sl n x (by rw [lk_ne _ _ he]; exact hx)
/-- A guard that is not decided: the result is told under it. -/
theorem G.gL {l : List Oper} {dj : Nat} {t want : Bool} {j : Nat} (h : G P X ((d, .gd t want u) :: al) bs (WL P ro l.toArray Q rest)) (lt : t = want → LT P X al bs op (some d) rb [(d, u)] []) (hj : (l[j]?).bind (·.dst) = some dj) (hs : lk al dj = some (.d (.s (.bool t)))) (hd : Nat.blt d X.N = true) :
    G P X al bs (WL P ro l.toArray Q ({ dst := some d, op := op, type := ty, pos := ps, after := af, guard := some (j, want) } :: rest)) := by
  by_cases ht : t = want
  · refine G.gT ?_ hs ht hj
    exact fun E a W hh => WL.plain rfl (fun K hK => lt ht ro al bs (Loc.refl _) (LocB.refl _) E a W hh _ rfl rfl K Q (fun E' a' W' h' => hK _ _ (h E' a' W' (HdE.under ht h'))))
  · intro E a W hh
    have hw := wanted_is (o := { dst := some d, op := op, type := ty, pos := ps, after := af, guard := some (j, want) }) rfl hj hh hs
    exact WL.no (by rw [hw]; simpa using ht) (h E _ W (hh.put (.gd (fun e => absurd e ht) (fun _ => rfl)) (by simpa using hd)))
/-! A guard that may itself be told under tests -/
def AV.wrap : AV → Bool → AV → AV
  | .gd t w y, want, u => .gd t w (AV.wrap y want u)
  | .d (.s (.bool t)), want, u => .gd t want u
  | x, _, _ => x
def AV.says (want : Bool) : AV → Prop
  | .gd t w y => t = w ∧ AV.says want y
  | .d (.s (.bool t)) => t = want
  | _ => False
def AV.isG : AV → Bool
  | .gd _ _ y => y.isG
  | .d (.s (.bool _)) => true
  | _ => false
theorem AV.says_iff {dm own : Nat → Prop} {want : Bool} : ∀ {y : AV} {v : Value}, y.isG = true → RA E dm own W v y → ((asB v == some want) = true ↔ y.says want)
  | .gd t w y, v, hg, h => by
    simp only [AV.isG] at hg
    cases h with
    | gd h h' =>
      simp only [AV.says]
      by_cases ht : t = w
      · rw [AV.says_iff hg (h ht)]
        simp [ht]
      · obtain rfl := h' ht
        simp [ht, undef, asB]
  | .d (.s (.bool t)), v, _, h => by
    obtain rfl := h.scalar
    simp only [AV.says, asB]
    cases t <;> cases want <;> simp
theorem RA.wrap {dm own : Nat → Prop} {want : Bool} {u : AV} {v : Value} : ∀ {y : AV}, y.isG = true → (y.says want → RA E dm own W v u) → (¬ y.says want → v = undef) → RA E dm own W v (y.wrap want u)
  | .gd t w y, hg, h, h' => by
    simp only [AV.isG] at hg
    simp only [AV.wrap]
    simp only [AV.says] at h h'
    exact .gd (fun ht => RA.wrap hg (fun hs => h ⟨ht, hs⟩) (fun hs => h' (fun e => hs e.2))) (fun ht => h' (fun e => ht e.1))
  | .d (.s (.bool t)), _, h, h' => .gd h h'
theorem wanted_says {dj : Nat} {y : AV} {want : Bool} {j : Nat} {o : Oper} {l : List Oper} (hg : o.guard = some (j, want)) (hj : (l[j]?).bind (·.dst) = some dj) (hh : HdE P X al bs E a W) (hs : lk al dj = some y) (hG : y.isG = true) : Region.wanted o (yielded l.toArray a.tmps) = true ↔ y.says want := by
  obtain ⟨v, h1, h2⟩ := hh.sl dj _ hs
  have hj' : (l.toArray[j]?).bind (·.dst) = some dj := by simpa using hj
  rw [wanted_of hg, yielded_at hj' h1]
  exact AV.says_iff hG h2
theorem HdE.wrapT {y : AV} {want : Bool} (hG : y.isG = true) (hs : y.says want) (h : HdE P X ((d, u) :: al) bs E a W) : HdE P X ((d, y.wrap want u) :: al) bs E a W := by
  refine ⟨h.ext, h.o0, h.df, h.sz, h.en, fun n x hx => ?_, h.bk, h.lo, h.nd⟩
  rw [lk_cons] at hx
  split at hx
  · rename_i he
    subst he
    simp only [Option.some.injEq] at hx
    subst hx
    obtain ⟨v, h1, h2⟩ := h.sl d u (lk_self _ _ _)
    exact ⟨v, h1, RA.wrap hG (fun _ => h2) (fun e => absurd hs e)⟩
  · rename_i he
    exact h.sl n x (by rw [lk_ne _ _ he]; exact hx)
theorem G.gN {l : List Oper} {dj : Nat} {want : Bool} {j : Nat} {y y' : AV} (h : G P X ((d, y') :: al) bs (WL P ro l.toArray Q rest)) (lt : y.says want → LT P X al bs op (some d) rb [(d, u)] []) (hy : y.wrap want u = y') (hj : (l[j]?).bind (·.dst) = some dj) (hs : lk al dj = some y) (hG : y.isG = true) (hd : Nat.blt d X.N = true) :
    G P X al bs (WL P ro l.toArray Q ({ dst := some d, op := op, type := ty, pos := ps, after := af, guard := some (j, want) } :: rest)) := by
  subst hy
  intro E a W hh
  have hw := wanted_says (o := { dst := some d, op := op, type := ty, pos := ps, after := af, guard := some (j, want) }) rfl hj hh hs hG
  by_cases hq : y.says want
  · exact WL.yes (hw.2 hq) (lt hq ro al bs (Loc.refl _) (LocB.refl _) E a W hh _ rfl rfl _ Q (fun E' a' W' h' => h E' a' W' (HdE.wrapT hG hq h')))
  · exact WL.no (fun e => hq (hw.1 e)) (h E _ W (hh.put (RA.wrap hG (fun e => absurd e hq) (fun _ => rfl)) (by simpa using hd)))
/-! #### In a region that draws its order -/
/-- The walk through such a region: sts steps are told, rest is to come. -/
def GD (P : Program) (X : Cx) (l : List Oper) (Q : Exit → Act → World → Prop) (id : Nat) (al0 : List (Nat × AV)) (bs0 : Bs) (sts : List Stp) (al : List (Nat × AV)) (bs : Bs) (rest : List Oper) : Prop :=
  (∃ sls bls, Chain P X l Q al0 bs0 sts sls bls al bs) → l.drop sts.length = rest → ∀ ro, G P X al0 bs0 (Wp P ro (Code.region id l.toArray true) Q)
section
variable {l : List Oper} {id : Nat} {al0 : List (Nat × AV)} {bs0 : Bs} {sts : List Stp} {rs : List Nat}
theorem GD.start (h : GD P X l Q id al bs [] al bs l) : G P X al bs (Wp P ro (Code.region id l.toArray true) Q) := h ⟨[], [], .nil⟩ rfl ro
theorem GD.done (h : G P X al bs (Q .normal)) (hm : P.follows .mixedOrders = true) (hchk : chkS l sts = true) : GD P X l Q id al0 bs0 sts al bs [] := fun ⟨_, _, c⟩ _ ro => c.region hm hchk h
theorem GD.go {o : Oper} (hl : l[sts.length]? = some o → LOp P X l Q sts.length al bs rs rb sl bl) (h : GD P X l Q id al0 bs0 (sts ++ [⟨rs, sl.map (·.1), rb, bl.map (·.1)⟩]) (sl ++ al) (bl ++ bs) rest) : GD P X l Q id al0 bs0 sts al bs (o :: rest) := fun ⟨_, _, c⟩ hd => by
  have ho : l[sts.length]? = some o := by
    have := congrArg List.head? hd
    rw [List.head?_drop] at this
    exact this
  refine h ⟨_, _, c.snoc (hl ho)⟩ ?_
  rw [List.length_append, List.length_singleton, ← List.drop_drop, hd]
  rfl
theorem LT.lop {i : Nat} {o : Oper} (lt : LT P X al bs o.op o.dst rb sl bl) (hg : o.guard = none) (ho : l[i]? = some o) : LOp P X l Q i al bs (opT o.op) rb sl bl := fun ro al2 bs2 hl hb E a W hh K hK =>
  WOp.yes (by simpa using ho) (by unfold Region.wanted; rw [hg]) (lt ro al2 bs2 hl hb E a W hh o rfl rfl K Q hK)
theorem LT.lopT {i j dj : Nat} {t want : Bool} {o : Oper} (lt : LT P X al bs o.op o.dst rb sl bl) (hg : o.guard = some (j, want)) (ho : l[i]? = some o) (hj : (l[j]?).bind (·.dst) = some dj) (hs : lk al dj = some (.d (.s (.bool t)))) (ht : t = want) : LOp P X l Q i al bs (dj :: opT o.op) rb sl bl := fun ro al2 bs2 hl hb E a W hh K hK =>
  WOp.yes (by simpa using ho) (by rw [wanted_is hg hj hh ((hl dj (List.mem_cons_self ..)).trans hs), ht]; simp) (lt ro al2 bs2 (fun n hn => hl n (List.mem_cons_of_mem _ hn)) hb E a W hh o rfl rfl K Q hK)
theorem lopF {i j dj : Nat} {t want : Bool} {o : Oper} (hdst : o.dst = some d) (hg : o.guard = some (j, want)) (ho : l[i]? = some o) (hj : (l[j]?).bind (·.dst) = some dj) (hs : lk al dj = some (.d (.s (.bool t)))) (ht : t = !want) (hd : Nat.blt d X.N = true) : LOp P X l Q i al bs [dj] [] [(d, .any)] [] := fun ro al2 bs2 hl hb E a W hh K hK =>
  WOp.no (o := o) (by simpa using ho) (by rw [wanted_is hg hj hh ((hl dj (List.mem_cons_self ..)).trans hs), ht]; cases want <;> simp) (by rw [hdst]; exact hK E _ W (hh.put .any (by simpa using hd)))
theorem LT.lopL {i j dj : Nat} {t want : Bool} {o : Oper} (lt : t = want → LT P X al bs o.op (some d) rb [(d, u)] []) (hdst : o.dst = some d) (hg : o.guard = some (j, want)) (ho : l[i]? = some o) (hj : (l[j]?).bind (·.dst) = some dj) (hs : lk al dj = some (.d (.s (.bool t)))) (hd : Nat.blt d X.N = true) : LOp P X l Q i al bs (dj :: opT o.op) rb [(d, .gd t want u)] [] := fun ro al2 bs2 hl hb E a W hh K hK => by
  have hw := wanted_is hg hj hh ((hl dj (List.mem_cons_self ..)).trans hs)
  have ho' : l.toArray[i]? = some o := by simpa using ho
  by_cases ht : t = want
  · exact WOp.yes ho' (by rw [hw, ht]; simp) (lt ht ro al2 bs2 (fun n hn => hl n (List.mem_cons_of_mem _ hn)) hb E a W hh o rfl hdst K Q (fun E' a' W' h' => hK E' a' W' (HdE.under ht h')))
  · exact WOp.no ho' (by rw [hw]; simpa using ht) (by rw [hdst]; exact hK E _ W (hh.put (.gd (fun e => absurd e ht) (fun _ => rfl)) (by simpa using hd)))
theorem GD.gL {j dj : Nat} {t want : Bool} (h : GD P X l Q id al0 bs0 (sts ++ [⟨dj :: opT op, [d], rb, []⟩]) ((d, .gd t want u) :: al) bs rest) (lt : t = want → LT P X al bs op (some d) rb [(d, u)] []) (hj : (l[j]?).bind (·.dst) = some dj) (hs : lk al dj = some (.d (.s (.bool t)))) (hd : Nat.blt d X.N = true) : GD P X l Q id al0 bs0 sts al bs ({ dst := some d, op := op, type := ty, pos := ps, after := af, guard := some (j, want) } :: rest) := GD.go (sl := [(d, .gd t want u)]) (bl := []) (fun ho => LT.lopL lt rfl rfl ho hj hs hd) h
theorem GD.gN {j dj : Nat} {want : Bool} {y y' : AV} (h : GD P X l Q id al0 bs0 (sts ++ [⟨dj :: opT op, [d], rb, []⟩]) ((d, y') :: al) bs rest) (lt : y.says want → LT P X al bs op (some d) rb [(d, u)] []) (hy : y.wrap want u = y') (hj : (l[j]?).bind (·.dst) = some dj) (hs : lk al dj = some y) (hG : y.isG = true) (hd : Nat.blt d X.N = true) : GD P X l Q id al0 bs0 sts al bs ({ dst := some d, op := op, type := ty, pos := ps, after := af, guard := some (j, want) } :: rest) := by
  subst hy
  refine GD.go (sl := [(d, y.wrap want u)]) (bl := []) (fun ho => ?_) h
  intro ro al2 bs2 hl hb E a W hh K hK
  have hw := wanted_says (o := { dst := some d, op := op, type := ty, pos := ps, after := af, guard := some (j, want) }) rfl hj hh ((hl dj (List.mem_cons_self ..)).trans hs) hG
  have ho' : l.toArray[sts.length]? = some { dst := some d, op := op, type := ty, pos := ps, after := af, guard := some (j, want) } := by simpa using ho
  by_cases hq : y.says want
  · refine WOp.yes ho' (hw.2 hq) ?_
    exact (lt hq ro al2 bs2 (fun n hn => hl n (List.mem_cons_of_mem _ hn)) hb E a W hh _ rfl rfl K Q (fun E' a' W' h' => hK E' a' W' (HdE.wrapT hG hq h')))
  · refine WOp.no ho' (fun e => hq (hw.1 e)) ?_
    exact hK E _ W (hh.put (RA.wrap hG (fun e => absurd e hq) (fun _ => rfl)) (by simpa using hd))
theorem GD.w1 (h : GD P X l Q id al0 bs0 (sts ++ [⟨opT op, [s.1], rb, []⟩]) (s :: al) bs rest) (lt : LT P X al bs op dst rb [s] []) : GD P X l Q id al0 bs0 sts al bs ({ dst := dst, op := op, type := ty, pos := ps, after := af, guard := none } :: rest) := GD.go (sl := [s]) (bl := []) (fun ho => LT.lop lt rfl ho) h
theorem GD.w0 (h : GD P X l Q id al0 bs0 (sts ++ [⟨opT op, [], rb, [e.1]⟩]) al (e :: bs) rest) (lt : LT P X al bs op dst rb [] [e]) : GD P X l Q id al0 bs0 sts al bs ({ dst := dst, op := op, type := ty, pos := ps, after := af, guard := none } :: rest) := GD.go (sl := []) (bl := [e]) (fun ho => LT.lop lt rfl ho) h
theorem GD.w2 (h : GD P X l Q id al0 bs0 (sts ++ [⟨opT op, [s.1], rb, [e.1]⟩]) (s :: al) (e :: bs) rest) (lt : LT P X al bs op dst rb [s] [e]) : GD P X l Q id al0 bs0 sts al bs ({ dst := dst, op := op, type := ty, pos := ps, after := af, guard := none } :: rest) := GD.go (sl := [s]) (bl := [e]) (fun ho => LT.lop lt rfl ho) h
theorem GD.w3 (h : GD P X l Q id al0 bs0 (sts ++ [⟨opT op, [s.1], rb, [e.1, e'.1]⟩]) (s :: al) (e :: e' :: bs) rest) (lt : LT P X al bs op dst rb [s] [e, e']) : GD P X l Q id al0 bs0 sts al bs ({ dst := dst, op := op, type := ty, pos := ps, after := af, guard := none } :: rest) := GD.go (sl := [s]) (bl := [e, e']) (fun ho => LT.lop lt rfl ho) h
theorem GD.g1 {j dj : Nat} {t want : Bool} (h : GD P X l Q id al0 bs0 (sts ++ [⟨dj :: opT op, [s.1], rb, []⟩]) (s :: al) bs rest) (lt : LT P X al bs op dst rb [s] []) (hs : lk al dj = some (.d (.s (.bool t)))) (ht : t = want) (hj : (l[j]?).bind (·.dst) = some dj := by rfl) : GD P X l Q id al0 bs0 sts al bs ({ dst := dst, op := op, type := ty, pos := ps, after := af, guard := some (j, want) } :: rest) := GD.go (sl := [s]) (bl := []) (fun ho => LT.lopT lt rfl ho hj hs ht) h
theorem GD.gF {j dj : Nat} {t want : Bool} (h : GD P X l Q id al0 bs0 (sts ++ [⟨[dj], [d], [], []⟩]) ((d, .any) :: al) bs rest) (hs : lk al dj = some (.d (.s (.bool t)))) (ht : t = !want) (hj : (l[j]?).bind (·.dst) = some dj := by rfl) (hd : Nat.blt d X.N = true := by rfl) : GD P X l Q id al0 bs0 sts al bs ({ dst := some d, op := op, type := ty, pos := ps, after := af, guard := some (j, want) } :: rest) := GD.go (sl := [(d, .any)]) (bl := []) (fun ho => lopF rfl rfl ho hj hs ht hd) h
end

/-! #### The steps -/
theorem LT.rd (hr : Rd P X al bs rb op u) (hd : Nat.blt d X.N = true) : LT P X al bs op (some d) rb [(d, u)] [] := fun ro al2 bs2 hl hb E a W hh o ho hdst K Q hK => by
  obtain ⟨v, h1, h2⟩ := hr al2 bs2 hl hb E a W hh
  refine WO.of (h2.nd ho) ?_
  rw [h2 o ho]
  dsimp only [Oper.uponIn]
  rw [hdst]
  exact hK E _ W (hh.put h1 (by simpa using hd))
theorem LT.of_store {cs' : List AV} {T' : Nat} (h : ∀ al2 bs2, Loc (.store T x y) al al2 → LocB [b] bs bs2 → ∀ E a W, HdE P X al2 bs2 E a W → ∃ W', (Instr.storeAt T (a.eval x) (a.eval y)).run P W = .ok () W' ∧ HdE P X al2 ((b, some (T', cs')) :: bs2) E a W') : LT P X al bs (.store T x y) none [b] [] [(b, some (T', cs'))] := fun ro al2 bs2 hl hb E a W hh o ho hdst K Q hK => by
  obtain ⟨W', hr, hh'⟩ := h al2 bs2 hl hb E a W hh
  refine WO.of (by rw [ho]; intro c h; cases h) ?_
  unfold execOp
  simp only [ho, Sem.run_bind, hr, Result.andThen_ok, Sem.run_pure]
  dsimp only [Oper.uponIn]
  rw [hdst]
  exact hK E _ W' hh'.put0
theorem mem_sx : x ∈ (Op.store T x y).operands.toList := by simp [Op.operands]
theorem mem_sy : y ∈ (Op.store T x y).operands.toList := by simp [Op.operands]
/-- One cell is stored. -/
theorem LT.sts {T' : Nat} {cs cs' : List AV} [hT : TZs P T 1] (hx : ev al x = some (.p b off) := by rfl) (hy : ev al y = some u := by rfl) (hb : lk bs b = some (some (T', cs)) := by rfl) (hu : u.cells = [u] := by rfl) (hc : u.cell = true := by rfl) [h1 : LSet cs off u cs'] (hl : Nat.blt off cs.length = true := by rfl) :
    LT P X al bs (.store T x y) none [b] [] [(b, some (T', cs'))] := LT.of_store fun al2 bs2 hL hB E a W hh => by
  simp only [Nat.blt_eq] at hl
  obtain ⟨W', hr, hh'⟩ := hh.stored (hB.at hb (List.mem_cons_self ..)) (hh.ev (hL.ev hx mem_sx)) (hh.ev (hL.ev hy mem_sy)) hT.h (by rw [hu]; rfl) (by rw [hu]; simp [hc]) (by omega)
  have e1 : cs.take off ++ (u.cells ++ cs.drop (off + u.cells.length)) = cs' := by
    rw [hu, ← h1.h, List.set_eq_take_append_cons_drop, if_pos hl]
    rfl
  rw [e1] at hh'
  exact ⟨W', hr, hh'⟩
/-- A struct is stored whole. -/
theorem LT.stc {T' N : Nat} {cs cs' : List AV} [hT : TZs P T N] (hx : ev al x = some (.p b off)) (hy : ev al y = some u) (hb : lk bs b = some (some (T', cs))) (h0 : off = 0) (hu : u.cells = cs') (hN : cs'.length = N) (hl : cs.length = N) (hc : cs'.all AV.cell = true) :
    LT P X al bs (.store T x y) none [b] [] [(b, some (T', cs'))] := LT.of_store fun al2 bs2 hL hB E a W hh => by
  subst h0
  subst hu
  obtain ⟨W', hr, hh'⟩ := hh.stored (hB.at hb (List.mem_cons_self ..)) (hh.ev (hL.ev hx mem_sx)) (hh.ev (hL.ev hy mem_sy)) hT.h hN hc (by omega)
  have e1 : cs.take 0 ++ (u.cells ++ cs.drop (0 + u.cells.length)) = u.cells := by
    simp only [List.take_zero, List.nil_append, Nat.zero_add]
    rw [List.drop_of_length_le (by omega), List.append_nil]
  rw [e1] at hh'
  exact ⟨W', hr, hh'⟩
theorem LT.stw {T' N : Nat} {cs : List AV} {ds : List D} [hT : TZs P T N] (hx : ev al x = some (.p b off) := by rfl) (hy : ev al y = some (.d (.st ds)) := by rfl) (hb : lk bs b = some (some (T', cs)) := by rfl) (h0 : off = 0 := by rfl) (hN : ds.length = N := by rfl) (hl : cs.length = N := by rfl) (hc : ds.all D.cell = true := by rfl) :
    LT P X al bs (.store T x y) none [b] [] [(b, some (T', ds.map .d))] := LT.stc hx hy hb h0 rfl (by rw [List.length_map]; exact hN) hl (by rw [List.all_map]; exact hc)
theorem LT.stwA {T' N : Nat} {cs cs' : List AV} [hT : TZs P T N] (hx : ev al x = some (.p b off) := by rfl) (hy : ev al y = some (.st cs') := by rfl) (hb : lk bs b = some (some (T', cs)) := by rfl) (h0 : off = 0 := by rfl) (hN : cs'.length = N := by rfl) (hl : cs.length = N := by rfl) (hc : cs'.all AV.cell = true := by rfl) :
    LT P X al bs (.store T x y) none [b] [] [(b, some (T', cs'))] := LT.stc hx hy hb h0 rfl hN hl hc
/-- A part of a struct is stored. -/
theorem LT.stp {T' N : Nat} {cs cs' : List AV} {ds : List D} [hT : TZs P T N] (hcs : cs.take off ++ (ds.map .d ++ cs.drop (off + N)) = cs') (hx : ev al x = some (.p b off) := by rfl) (hy : ev al y = some (.d (.st ds)) := by rfl) (hb : lk bs b = some (some (T', cs)) := by rfl) (hN : ds.length = N := by rfl) (hl : Nat.ble (off + N) cs.length = true := by rfl) (hc : ds.all D.cell = true := by rfl) :
    LT P X al bs (.store T x y) none [b] [] [(b, some (T', cs'))] := LT.of_store fun al2 bs2 hL hB E a W hh => by
  simp only [Nat.ble_eq] at hl
  obtain ⟨W', hr, hh'⟩ := hh.stored (hB.at hb (List.mem_cons_self ..)) (hh.ev (hL.ev hx mem_sx)) (hh.ev (hL.ev hy mem_sy)) hT.h (by simp only [AV.cells, List.length_map]; exact hN) (by simp only [AV.cells, List.all_map]; exact hc) hl
  simp only [AV.cells, List.length_map, hN] at hh'
  rw [hcs] at hh'
  exact ⟨W', hr, hh'⟩
theorem flat_set {α : Type} {m : Nat} : ∀ (rows : List (List α)) (j : Nat) (row : List α), (∀ r ∈ rows, r.length = m) → j < rows.length → row.length = m → rows.flatten.take (j * m) ++ (row ++ rows.flatten.drop (j * m + m)) = (rows.set j row).flatten
  | [], j, row, _, h, _ => by simp at h
  | r :: rows, 0, row, hm, h, hr => by
    have h1 := hm r (List.mem_cons_self ..)
    simp only [Nat.zero_mul, List.take_zero, List.nil_append, Nat.zero_add, List.flatten_cons, List.set_cons_zero]
    rw [← h1, List.drop_left]
  | r :: rows, j + 1, row, hm, h, hr => by
    have h1 := hm r (List.mem_cons_self ..)
    have e := flat_set rows j row (fun x hx => hm x (List.mem_cons_of_mem _ hx)) (by simpa using h) hr
    rw [List.set_cons_succ, List.flatten_cons, List.flatten_cons, ← e, show (j + 1) * m = r.length + j * m by rw [h1, Nat.add_mul, Nat.one_mul, Nat.add_comm], List.take_length_add_append, Nat.add_assoc, List.drop_length_add_append, List.append_assoc]
/-- An element of a row is replaced. -/
theorem LT.stRow {T' N : Nat} {rows : List (List D)} {row : List D} (j : Nat) [hT : TZs P T N] (hm : ∀ r ∈ rows, r.length = N) (hj : j < rows.length) (hN : row.length = N) (hc : row.all D.cell = true) (hx : ev al x = some (.p b (j * N)) := by rfl) (hy : ev al y = some (.d (.st row)) := by rfl) (hb : lk bs b = some (some (T', rows.flatten.map .d)) := by rfl) :
    LT P X al bs (.store T x y) none [b] [] [(b, some (T', (rows.set j row).flatten.map .d))] := LT.of_store fun al2 bs2 hL hB E a W hh => by
  have hfl := flat_len rows hm
  have hle : j * N + N ≤ rows.length * N := by rw [← Nat.succ_mul]; exact Nat.mul_le_mul_right _ hj
  obtain ⟨W', hr, hh'⟩ := hh.stored (hB.at hb (List.mem_cons_self ..)) (hh.ev (hL.ev hx mem_sx)) (hh.ev (hL.ev hy mem_sy)) hT.h (by simp only [AV.cells, List.length_map]; exact hN) (by simp only [AV.cells, List.all_map]; exact hc) (by simp only [List.length_map, hfl]; exact hle)
  have e1 : (rows.flatten.map AV.d).take (j * N) ++ ((AV.d (.st row)).cells ++ (rows.flatten.map AV.d).drop (j * N + (AV.d (.st row)).cells.length)) = (rows.set j row).flatten.map .d := by
    simp only [AV.cells, List.length_map, hN]
    rw [← List.map_take, ← List.map_drop, ← List.map_append, ← List.map_append, flat_set rows j row hm hj hN]
  rw [e1] at hh'
  exact ⟨W', hr, hh'⟩
theorem RAL.zeros {dm own : Nat → Prop} : ∀ {zs : List Value}, zs.all (·.oneCell') = true → RAL E dm own W zs (zs.map (fun v => .d (.s v)))
  | [], _ => .nil
  | z :: zs, h => by
    simp only [List.all_cons, Bool.and_eq_true] at h
    exact .cons (.d (.s h.1)) (RAL.zeros h.2)
/-- The zero value's cells. -/
class TZc (P : Program) (T : TypeId) (n : outParam Nat) (zs : outParam (List AV)) : Prop where
  h : ∃ (i : TypeInfo) (z : Value) (vs : List Value), P.info? T = some i ∧ i.zero = some z ∧ z.cells = vs.toArray ∧ i.size = n ∧ vs.length = n ∧ vs.all (·.oneCell') = true ∧ zs = vs.map (fun v => .d (.s v))
theorem LT.alc {n : Nat} {zs : List AV} [hT : TZc P T n zs] (hk : bs.length = k := by simp only [List.length_cons, List.length_nil, Nat.reduceAdd]; rfl) (hf : lk bs k = none := by rfl) (hd : Nat.blt d X.N = true := by rfl) :
    LT P X al bs (.alloc T) (some d) [k] [(d, .p k 0)] [(k, some (T, zs))] := fun ro al2 bs2 hL hB E a W hh o ho hdst K Q hK => by
  obtain ⟨i, z, vs, h1, h2, h3, h4, h5, h6, rfl⟩ := hT.h
  have hf2 : lk bs2 k = none := (hB k (List.mem_cons_self ..)).trans hf
  have hh' := hh.alloc (T := T) hf2 (RAL.zeros h6) (by rw [h1, Option.map_some, h4]) (n := 1) (by omega) (by decide)
  have hr : (Instr.alloc T true (.tuple #[])).run P W = .ok (.pointer (some ⟨W.heap.size, 0, none⟩)) (W.alloc (.cells vs.toArray T)) := by
    simp [Instr.alloc, zeroValue, typeInfo, h1, h2, newVar, newRow, newObj, h3, Sem.run]
  refine WO.of (by rw [ho]; intro c h; cases h) ?_
  unfold execOp
  simp only [ho, Sem.run_bind, hr, Result.andThen_ok, Sem.run_pure]
  dsimp only [Oper.uponIn]
  rw [hdst]
  refine hK _ _ _ (hh'.put ?_ (by simpa using hd))
  have := RA.p (E := E.set k W.heap.size (.slice (some ⟨W.heap.size, 0, none⟩) 1 1) false) (dm := dom ((k, some (T, vs.map (fun v => AV.d (.s v)))) :: bs2)) (own := ownS (E.set k W.heap.size (.slice (some ⟨W.heap.size, 0, none⟩) 1 1) false) X.o ((k, some (T, vs.map (fun v => AV.d (.s v)))) :: bs2)) (W := W.alloc (.cells vs.toArray T)) (b := k) (off := 0) ⟨_, lk_self _ _ _⟩ (Env.set_nl ..)
  rw [Env.set_A] at this
  exact this
theorem LT.bxc {n : Nat} {cs : List AV} [hT : TZs P T n] (hk : lk bs k = none) (hy : ev al x = some u) (hcs : u.cells = cs) (hn : cs.length = n) (hc : cs.all AV.cell = true) (hd : Nat.blt d X.N = true) :
    LT P X al bs (.box T x) (some d) [k] [(d, .p k 0)] [(k, some (T, cs))] := fun ro al2 bs2 hL hB E a W hh o ho hdst K Q hK => by
  subst hcs
  have hf2 : lk bs2 k = none := (hB k (List.mem_cons_self ..)).trans hk
  obtain ⟨g1, g2⟩ := (hh.ev (hL.ev hy (by simp [Op.operands]))).cellsOf hc
  have hh' := hh.alloc (T := T) hf2 g1 hT.h (n := 1) (by rw [g1.len, hn]; omega) (by decide)
  have hr : (Instr.box T (a.eval x)).run P W = .ok (.pointer (some ⟨W.heap.size, 0, none⟩)) (W.alloc (.cells (a.eval x).cells T)) := by
    simp [Instr.box, newVar, newRow, newObj, Sem.run]
  refine WO.of (by rw [ho]; intro c h; cases h) ?_
  unfold execOp
  simp only [ho, Sem.run_bind, hr, Result.andThen_ok, Sem.run_pure]
  rw [Array.toArray_toList] at hh'
  dsimp only [Oper.uponIn]
  rw [hdst]
  refine hK _ _ _ (hh'.put ?_ (by simpa using hd))
  have := RA.p (E := E.set k W.heap.size (.slice (some ⟨W.heap.size, 0, none⟩) 1 1) false) (dm := dom ((k, some (T, u.cells)) :: bs2)) (own := ownS (E.set k W.heap.size (.slice (some ⟨W.heap.size, 0, none⟩) 1 1) false) X.o ((k, some (T, u.cells)) :: bs2)) (W := W.alloc (.cells (a.eval x).cells T)) (b := k) (off := 0) ⟨_, lk_self _ _ _⟩ (Env.set_nl ..)
  rw [Env.set_A] at this
  exact this
/-- A variable in memory that begins with data. -/
theorem LT.bx {n : Nat} {ds : List D} [hT : TZs P T n] (hk : bs.length = k := by simp only [List.length_cons, List.length_nil, Nat.reduceAdd]; rfl) (hf : lk bs k = none := by rfl) (hy : ev al x = some (.d (.st ds)) := by rfl) (hn : ds.length = n := by rfl) (hc : ds.all D.cell = true := by rfl) (hd : Nat.blt d X.N = true := by rfl) :
    LT P X al bs (.box T x) (some d) [k] [(d, .p k 0)] [(k, some (T, ds.map .d))] := LT.bxc (cs := ds.map .d) hf hy rfl (by rw [List.length_map]; exact hn) (by rw [List.all_map]; exact hc) hd
theorem LT.bx1 [hT : TZs P T 1] (hk : bs.length = k := by simp only [List.length_cons, List.length_nil, Nat.reduceAdd]; rfl) (hf : lk bs k = none := by rfl) (hy : ev al x = some u := by rfl) (hu : u.cells = [u] := by rfl) (hc : u.cell = true := by rfl) (hd : Nat.blt d X.N = true := by rfl) :
    LT P X al bs (.box T x) (some d) [k] [(d, .p k 0)] [(k, some (T, [u]))] := LT.bxc (cs := [u]) hf hy hu rfl (by simp [hc]) hd
theorem EvL.loc {op : Op} {al2 : List (Nat × AV)} (hL : Loc op al al2) : ∀ {args : List Operand} {xs : List AV}, (∀ x ∈ args, x ∈ op.operands.toList) → EvL al args xs → EvL al2 args xs
  | [], _, _, .nil => .nil
  | x :: args, _, hm, .cons h t => .cons (hL.evd h (hm x (List.mem_cons_self ..))) (EvL.loc hL (fun z hz => hm z (List.mem_cons_of_mem _ hz)) t)
/-- What a call comes to. -/
theorem HdE.calls {K : Nat} {args : List Operand} {ats : Array TypeId} {xs : List AV} {ds : List D} {R : D → Prop} (hf : Fn P K ds R) (hh : HdE P X al bs E a W) (he : EvL al args xs) (hp : Pl xs ds) (o : Oper) (ho : o.op = .call { callee := .value (.func K), args := args.toArray, argTypes := ats }) (hdst : o.dst = some d) (hd : Nat.blt d X.N = true)
    (Kc : Act → World → Prop) (h : ∀ r, R r → ∀ E' a' W', HdE P X ((d, .d r) :: al) bs E' a' W' → Kc a' W') : WO P ro o a W Kc Q := by
  have hr := hh.evsOk he
  rw [hp.h] at hr
  refine WO.of (by rw [ho]; intro c h; cases h) ?_
  unfold execOp
  have hrun : (do let dd ← resolve a.eval { callee := .value (.func K), args := args.toArray, argTypes := ats } o.type; invoke dd.target dd.args : Sem Next).run P W = .ok (.enter K (args.map a.eval).toArray) W := by
    simp [resolve, Deferred.ofValue, Act.eval, invoke, callFunc_enter hf.1]
  simp only [ho]
  rw [hrun]
  rw [Oper.uponIn_enter]
  refine ⟨(fun hq => by cases hq), (callsIn_wide (n := 0)).2 ((hf.2 (ownS E X.o bs) W _ (fun r ho => hh.own_lt ho) hr.unmap).mono ?_)⟩
  rintro e W' ⟨v, x, rfl, hx, hE, hv⟩
  dsimp only
  rw [hdst]
  exact h x hx E _ W' ((hh.grow hE).put (.d hv) (by simpa using hd))
/-- A call of a function that takes data. -/
theorem G.cl {K : Nat} {args : List Operand} {ats : Array TypeId} {xs : List AV} {ds : List D} {R : D → Prop} (hf : Fn P K ds R) (h : ∀ r, R r → G P X ((d, .d r) :: al) bs (WL P ro ops Q rest)) (he : EvL al args xs := by repeat (first | exact EvL.nil | (apply EvL.cons; exact ⟨_, rfl, by (try (apply Und.gd; assumption; try (apply Und.gd; assumption; try (apply Und.gd; assumption)))); exact Und.refl _⟩))) [hp : Pl xs ds] (hd : Nat.blt d X.N = true := by rfl) :
    G P X al bs (WL P ro ops Q ({ dst := some d, op := .call { callee := .value (.func K), args := args.toArray, argTypes := ats }, type := ty, pos := ps, after := af, guard := none } :: rest)) := fun E a W hh =>
  WL.plain rfl (fun Kc hK => hh.calls hf he hp _ rfl rfl hd Kc (fun r hr E' a' W' h' => hK _ _ (h r hr E' a' W' h')))
/-- Its result is told. -/
theorem LT.ce {K : Nat} {args : List Operand} {ats : Array TypeId} {xs : List AV} {ds : List D} {r : D} (hf : Fn P K ds (· = r)) (he : EvL al args xs := by repeat (first | exact EvL.nil | (apply EvL.cons; exact ⟨_, rfl, by (try (apply Und.gd; assumption; try (apply Und.gd; assumption; try (apply Und.gd; assumption)))); exact Und.refl _⟩))) [hp : Pl xs ds] (hd : Nat.blt d X.N = true := by rfl) :
    LT P X al bs (.call { callee := .value (.func K), args := args.toArray, argTypes := ats }) (some d) [] [(d, .d r)] [] := fun ro al2 bs2 hL hB E a W hh o ho hdst K Q hK =>
  hh.calls hf (EvL.loc hL (fun x hx => by simp [Op.operands, Call.operands, hx]) he) hp o ho hdst hd K (fun _ hr E' a' W' h' => hK E' a' W' (by rw [hr] at h'; exact h'))
/-- append to a row of one's own. -/
theorem LT.ap {t e size bytes n : Nat} {rows0 rows : List (List D)} [hT : TAp P t e size bytes] (hm : ∀ r ∈ rows, r.length = size) (hc : rows.flatten.all D.cell = true) (h63 : n + rows.length ≤ 100000) (hby : Nat.ble bytes 1000000 = true := by rfl)
    (hk : bs.length = k := by simp only [List.length_cons, List.length_nil, Nat.reduceAdd]; rfl) (hf : lk bs k = none := by rfl) (hx : ev al x = some (.o b n) := by rfl) (hy : ev al y = some (.d (.l rows)) := by rfl) (hb : lk bs b = some (some (e, rows0.flatten.map .d)) := by rfl) (hd : Nat.blt d X.N = true := by rfl) :
    LT P X al bs (.call { callee := .builtin .append, args := #[x, y], argTypes := #[t, t] }) (some d) [b, k] [(d, .o k (n + rows.length))] [(k, some (e, (rows0 ++ rows).flatten.map .d)), (b, none)] := fun ro al2 bs2 hL hB E a W hh o ho hdst K Q hK => by
  simp only [Nat.ble_eq] at hby
  have hf2 : lk bs2 k = none := (hB k (by simp)).trans hf
  obtain ⟨v', W', E', hrun, g1, g2⟩ := hh.append (ty := o.type) k hf2 hT (hB.at hb (by simp)) (hh.ev (hL.ev hx (by simp [Op.operands, Call.operands]))) (hh.ev (hL.ev hy (by simp [Op.operands, Call.operands]))) hm hc (by unfold maxLen; omega) (by
    have := Nat.mul_le_mul h63 hby
    omega)
  rw [← List.map_append, ← List.flatten_append] at g1 g2
  refine WO.of (by rw [ho]; intro c h; cases h) ?_
  unfold execOp
  have : (do let dd ← resolve a.eval { callee := .builtin .append, args := #[x, y], argTypes := #[t, t] } o.type; invoke dd.target dd.args : Sem Next).run P W = .ok (.value v') W' := by
    simp [resolve, invoke, builtin, hrun]
  simp only [ho]
  rw [this]
  dsimp only [Oper.uponIn]
  rw [hdst]
  exact hK _ _ _ (g1.put g2 (by simpa using hd))
/-! #### One step, whichever -/
theorem G.sto (h : G P X al (e :: bs) (WL P ro ops Q rest)) (lt : LT P X al bs op none rb [] [e] := by first | exact LT.sts | exact LT.stw | exact LT.stwA) :
    G P X al bs (WL P ro ops Q ({ dst := none, op := op, type := ty, pos := ps, after := af, guard := none } :: rest)) := G.w0 h lt
theorem G.new (h : G P X ((d, u) :: al) (e :: bs) (WL P ro ops Q rest)) (lt : LT P X al bs op (some d) rb [(d, u)] [e] := by first | exact LT.alc | exact LT.bx | exact LT.bx1) :
    G P X al bs (WL P ro ops Q ({ dst := some d, op := op, type := ty, pos := ps, after := af, guard := none } :: rest)) := G.w2 h lt
theorem GD.sto {l : List Oper} {id : Nat} {al0 : List (Nat × AV)} {bs0 : Bs} {sts : List Stp} (h : GD P X l Q id al0 bs0 (sts ++ [⟨opT op, [], rb, [e.1]⟩]) al (e :: bs) rest) (lt : LT P X al bs op none rb [] [e] := by first | exact LT.sts | exact LT.stw | exact LT.stwA) :
    GD P X l Q id al0 bs0 sts al bs ({ dst := none, op := op, type := ty, pos := ps, after := af, guard := none } :: rest) := GD.w0 h lt
theorem GD.new {l : List Oper} {id : Nat} {al0 : List (Nat × AV)} {bs0 : Bs} {sts : List Stp} (h : GD P X l Q id al0 bs0 (sts ++ [⟨opT op, [d], rb, [e.1]⟩]) ((d, u) :: al) (e :: bs) rest) (lt : LT P X al bs op (some d) rb [(d, u)] [e] := by first | exact LT.alc | exact LT.bx | exact LT.bx1) :
    GD P X l Q id al0 bs0 sts al bs ({ dst := some d, op := op, type := ty, pos := ps, after := af, guard := none } :: rest) := GD.w2 h lt
end

/-! ### Slots told otherwise -/
theorem G.slots {c : Act → World → Prop} {n : Nat} {y : AV} {E' : Env} {al' : List (Nat × AV)} {bs' : Bs} {v : Value} (h3 : HdE P X al bs' E' a W) (h1 : a.tmps[n]? = some v) (h2 : RA E' (dom bs') (ownS E' X.o bs') W v y) (hc : G P X ((n, y) :: al) bs' c) : c a W := by
  refine hc E' a W ⟨h3.ext, h3.o0, h3.df, h3.sz, h3.en, fun k z hk => ?_, h3.bk, h3.lo, h3.nd⟩
  rw [lk_cons] at hk
  split at hk
  · rename_i he
    subst he
    simp only [Option.some.injEq] at hk
    subst hk
    exact ⟨_, h1, h2⟩
  · exact h3.sl k z hk
/-- A slot that holds nil becomes a row of one's own. -/
theorem G.nilRow {c : Act → World → Prop} {k : Nat} (n : Nat) (T : TypeId) (h : G P X ((n, .o k 0) :: al) ((k, some (T, ([] : List (List D)).flatten.map .d)) :: bs) c) (hk : bs.length = k := by simp only [List.length_cons, List.length_nil, Nat.reduceAdd]; rfl) (hf : lk bs k = none := by rfl) (hx : lk al n = some (.d (.s (.slice none 0 0))) := by rfl) : G P X al bs c := fun E a W hh => by
  obtain ⟨v, h1, h2⟩ := hh.sl n _ hx
  obtain rfl := h2.scalar
  exact G.slots (al' := al) (hh.nilRow k T hf) h1 (.o ⟨_, lk_self _ _ _⟩ (by rw [Env.set_V])) h
/-- A slot is told otherwise. -/
theorem G.tell {c : Act → World → Prop} (n : Nat) {x y : AV} (hx : lk al n = some x) (hxy : ∀ E dm own W v, RA E dm own W v x → RA E dm own W v y) (h : G P X ((n, y) :: al) bs c) : G P X al bs c := fun E a W hh => by
  obtain ⟨v, h1, h2⟩ := hh.sl n x hx
  exact G.slots (al' := al) hh h1 (hxy _ _ _ _ _ h2) h
theorem RD.nilL {own : Nat → Prop} {v : Value} (h : RD own W v (.s (.slice none 0 0))) : RD own W v (.l []) := by
  cases h with
  | s h => exact .nl
/-- nil is an empty list. -/
theorem G.nilL {c : Act → World → Prop} (n : Nat) (h : G P X ((n, .d (.l [])) :: al) bs c) (hx : lk al n = some (.d (.s (.slice none 0 0))) := by rfl) : G P X al bs c :=
  G.tell n hx (fun _ _ _ _ _ h => by cases h with | d h => exact .d h.nilL) h
/-- A row that is not changed any more. -/
theorem G.frz {c : Act → World → Prop} {b k m : Nat} {T : TypeId} {rows : List (List D)} (n : Nat) [hT : TZs P T m] (h : G P X ((n, .d (.l rows)) :: al) ((b, none) :: bs) c) (hm : ∀ r ∈ rows, r.length = m) (hk : k = rows.length) (hx : lk al n = some (.o b k) := by rfl) (hb : lk bs b = some (some (T, rows.flatten.map .d)) := by rfl) : G P X al bs c := fun E a W hh => by
  obtain ⟨v, e1, e2⟩ := hh.sl n _ hx
  exact G.slots (al' := al) (hh.drop b) e1 (.d (hh.data hb hm hT.h hk e2)) h

/-! ### Code -/
section
variable {Q : Exit → Act → World → Prop} {x y : Code}
theorem G.seq (h : ∀ K : Act → World → Prop, (∀ a w, Wp P ro y Q a w → K a w) → G P X al bs (Wp P ro x (Exit.then K Q))) : G P X al bs (Wp P ro (Code.seq x y) Q) := fun E a W hh => wpIn_seq_k (fun K hK => h K hK E a W hh)
theorem G.k {c K : Act → World → Prop} (hK : ∀ a w, c a w → K a w) (h : G P X al bs c) : G P X al bs K := fun E a W hh => hK a W (h E a W hh)
theorem G.reg {id : Nat} {l : List Oper} (h : G P X al bs (WL P ro l.toArray Q l)) : G P X al bs (Wp P ro (Code.region id l.toArray false) Q) := fun E a W hh => wpIn_region_lit (h E a W hh)
theorem G.nl {ops : Array Oper} (h : G P X al bs (Q .normal)) : G P X al bs (WL P ro ops Q []) := fun E a W hh => wpListIn_nil (h E a W hh)
theorem G.skip (h : G P X al bs (Q .normal)) : G P X al bs (Wp P ro Code.skip Q) := fun E a W hh => wpIn_skip (h E a W hh)
theorem G.block {id : Nat} (h : G P X al bs (Wp P ro x (Exit.inBlock id Q))) : G P X al bs (Wp P ro (Code.block id x) Q) := fun E a W hh => wpIn_block (h E a W hh)
theorem G.exit {id : Nat} (h : G P X al bs (Q (.exit id))) : G P X al bs (Wp P ro (Code.exit id) Q) := fun E a W hh => wpIn_exit (h E a W hh)
theorem G.ret (h : G P X al bs (Q .ret)) : G P X al bs (Wp P ro Code.ret Q) := fun E a W hh => wpIn_ret (h E a W hh)
theorem G.qN {K : Act → World → Prop} (h : G P X al bs K) : G P X al bs (Exit.then K Q .normal) := h
theorem G.qE {K : Act → World → Prop} {id : Nat} (h : G P X al bs (Q (.exit id))) : G P X al bs (Exit.then K Q (.exit id)) := h
theorem G.qR {K : Act → World → Prop} (h : G P X al bs (Q .ret)) : G P X al bs (Exit.then K Q .ret) := h
theorem G.bN {id : Nat} (h : G P X al bs (Q .normal)) : G P X al bs (Exit.inBlock id Q .normal) := h
theorem G.bR {id : Nat} (h : G P X al bs (Q .ret)) : G P X al bs (Exit.inBlock id Q .ret) := h
theorem G.bE {id : Nat} (h : G P X al bs (Q .normal)) : G P X al bs (Exit.inBlock id Q (.exit id)) := fun E a W hh => by
  simp only [Exit.inBlock, if_pos]
  exact h E a W hh
theorem G.bE' {id id' : Nat} (h : G P X al bs (Q (.exit id'))) (hne : Nat.beq id' id = false := by rfl) : G P X al bs (Exit.inBlock id Q (.exit id')) := fun E a W hh => by
  have : id' ≠ id := fun e => by subst e; simp at hne
  simp only [Exit.inBlock, if_neg this]
  exact h E a W hh
theorem G.ifT {c : Operand} {t : Bool} (ht : t = true) (h : G P X al bs (Wp P ro x Q)) (hc : ev al c = some (.d (.s (.bool t))) := by rfl) : G P X al bs (Wp P ro (Code.cond c x y) Q) := fun E a W hh => wpIn_cond_true (by rw [hh.evs (.of hc), ht]) (h E a W hh)
theorem G.ifF {c : Operand} {t : Bool} (ht : t = false) (h : G P X al bs (Wp P ro y Q)) (hc : ev al c = some (.d (.s (.bool t))) := by rfl) : G P X al bs (Wp P ro (Code.cond c x y) Q) := fun E a W hh => wpIn_cond_false (by rw [hh.evs (.of hc), ht]) (h E a W hh)
theorem G.ifS {c : Operand} {t : Bool} (h1 : t = true → G P X al bs (Wp P ro x Q)) (h2 : t = false → G P X al bs (Wp P ro y Q)) (hc : ev al c = some (.d (.s (.bool t))) := by rfl) : G P X al bs (Wp P ro (Code.cond c x y) Q) := by
  cases t with
  | true => exact G.ifT rfl (h1 rfl) hc
  | false => exact G.ifF rfl (h2 rfl) hc
/-- A state told as a member of a family. -/
def At (P : Program) (X : Cx) {α : Type} (I : α → List (Nat × AV) × Bs) (Φ : α → Prop) (a : Act) (W : World) : Prop := ∃ z E, Φ z ∧ HdE P X (I z).1 (I z).2 E a W
theorem G.at {α : Type} {I : α → List (Nat × AV) × Bs} {Φ : α → Prop} (z : α) (π : List (Nat × Nat)) (hΦ : Φ z) (hs : SubR π al (I z).1) (hb : BsR bs π π (I z).2) (hd : (π.map (·.2)).Nodup) (hk : X.k.all (fun b => (lk (I z).2 b).isSome && Nat.beq ((lk π b).getD 0) b) = true := by rfl) : G P X al bs (At P X I Φ) := fun E a W hh => ⟨z, _, hΦ, hh.ren π hs hb hd hk⟩
theorem G.of_at {α : Type} {I : α → List (Nat × AV) × Bs} {Φ : α → Prop} {c : Act → World → Prop} (h : ∀ z, Φ z → G P X (I z).1 (I z).2 c) {a : Act} {W : World} (hh : At P X I Φ a W) : c a W := by
  obtain ⟨z, E, h1, h2⟩ := hh
  exact h z h1 E a W h2
/-- A loop: every round takes a member z of the family to one of a smaller measure, or leaves. -/
theorem G.loop {α : Type} (I : α → List (Nat × AV) × Bs) (Φ : α → Prop) (μ : α → Nat) (h0 : G P X al bs (At P X I Φ)) (h : ∀ z, Φ z → G P X (I z).1 (I z).2 (Wp P ro x (Exit.then (At P X I (fun z' => Φ z' ∧ μ z' < μ z)) Q))) : G P X al bs (Wp P ro (Code.loop x) Q) := fun E a W hh => by
  obtain ⟨z0, E0, h1, h2⟩ := h0 E a W hh
  refine Wp.loopG (fun n a W => ∃ z E, (Φ z ∧ μ z = n) ∧ HdE P X (I z).1 (I z).2 E a W) (μ z0) ⟨z0, E0, ⟨h1, rfl⟩, h2⟩ ?_
  · rintro n a W ⟨z, E', ⟨h1, h2⟩, h3⟩
    refine Wp.mono (h z h1 E' a W h3) ?_
    intro e a' W' hq
    cases e with
    | normal =>
      obtain ⟨z', E'', ⟨g1, g2⟩, g3⟩ := hq
      exact ⟨μ z', by omega, z', E'', ⟨g1, rfl⟩, g3⟩
    | _ => exact hq
/-- A cut: what follows a piece is walked once, from a family of states. -/
theorem G.cut {α : Type} {K : Act → World → Prop} (I : α → List (Nat × AV) × Bs) (Φ : α → Prop) (h1 : ∀ z, Φ z → G P X (I z).1 (I z).2 K) (h : ∀ J : Act → World → Prop, (∀ a w, At P X I Φ a w → J a w) → G P X al bs (Wp P ro x (Exit.then J Q))) : G P X al bs (Wp P ro x (Exit.then K Q)) := fun E a W hh => by
  refine Wp.mono (h (At P X I Φ) (fun _ _ h => h) E a W hh) ?_
  intro e a' W' hq
  cases e with
  | normal => exact G.of_at h1 hq
  | _ => exact hq
end

/-! ### Functions -/
theorem rangeAt.nocells {W W' : World} {l r o : Nat} {vs : List Value} {ob : Obj} (hl : W.heap[l]? = some ob) (hc : ob.isCells = false) (hg : W.grownBy W' (some l)) (hr : r < W.heap.size) (h : W.rangeAt r o vs) : W'.rangeAt r o vs := by
  by_cases he : r = l
  · subst he
    intro j v hv
    have h1 := h j v hv
    exfalso
    unfold World.cell? at h1
    simp only [hl] at h1
    cases ob <;> simp [Obj.isCells] at hc h1
  · exact rangeAt.keeps h (hg.block r hr (fun e => he (Option.some.inj e)))
/-- An object that is no variable is replaced. -/
theorem HdE.putObj (h : HdE P X al bs E a W) {l : Nat} {ob ob' : Obj} {a' : Act} (hl : W.heap[l]? = some ob) (hc : ob.isCells = false) (hx : X.w.heap.size ≤ l ∨ X.m l) (ha : a'.tmps = a.tmps) (hd : DfOk (fun D => X.w.heap.size ≤ D ∨ X.m D) a' (W.putObj l ob')) : HdE P X al bs E a' (W.putObj l ob') := by
  have hg := grownBy_putObj' W l ob'
  have hne : ∀ b, live E bs b → E.A b ≠ l := by
    intro b hb e
    obtain ⟨T, cs, h1⟩ := h.blkOf hb
    unfold Blk at h1
    rw [e, hl] at h1
    simp only [Option.some.injEq] at h1
    subst h1
    cases hc
  have k : Keeps (ownS E X.o bs) (ownS E X.o bs) W (W.putObj l ob') := ⟨fun r hr _ o vs h1 => rangeAt.nocells hl hc hg hr h1, hg.size, fun _ _ h => h⟩
  refine ⟨h.ext.grow hg (fun r e => by cases e; exact hx), h.o0, hd, by rw [ha]; exact h.sz, h.en, fun n x hn => ?_, fun b T cs hb => ?_, h.lo, h.nd⟩
  · obtain ⟨v, h1, h2⟩ := h.sl n x hn
    exact ⟨v, by rw [ha]; exact h1, h2.keeps k (Env.le.refl _ _) (fun _ h => h)⟩
  · exact (h.bk b T cs hb).keeps k (Env.le.refl _ _) (fun _ h => h) ⟨_, hb⟩ (fun hn => hg.block _ (h.live_lt ⟨⟨_, hb⟩, hn⟩) (fun e => hne b ⟨⟨_, hb⟩, hn⟩ (Option.some.inj e)))
/-- A frame that leaves shuts its rounds' block. -/
theorem HdE.leave {fn : Func} {R : Ending → World → Prop} (hh : HdE P X al bs E a W) (h : ∀ a' W', a'.tmps = a.tmps → HdE P X al bs E a' W' → ∃ v, (results fn a'.tmps).run P W' = .ok v W' ∧ R (.returned v) W') : bodyPostM (FR none) 0 P fn R .ret a W := by
  show LeavesInM (FR none) 0 P fn a.tmps R a.defers .returning W
  have key : ∀ (Ds : List Nat) (a' : Act) (W' : World), a'.tmps = a.tmps → a'.defers = Ds.map (fun D => { target := .collected D, args := #[] }) → Ds.Nodup → (∀ D ∈ Ds, (X.w.heap.size ≤ D ∨ X.m D) ∧ W'.heap[D]? = some (.deferred (some []))) → HdE P X al bs E a' W' → LeavesInM (FR none) 0 P fn a.tmps R a'.defers .returning W' := by
    intro Ds
    induction Ds with
    | nil =>
      intro a' W' ht hd _ _ hh'
      rw [hd, ← ht]
      exact h a' W' ht hh'
    | cons D Ds ih =>
      intro a' W' ht hd hn hD hh'
      rw [hd]
      obtain ⟨h1, h2⟩ := hD D (List.mem_cons_self ..)
      obtain ⟨hn1, hn2⟩ := List.nodup_cons.1 hn
      have hrest : ∀ D' ∈ Ds, (X.w.heap.size ≤ D' ∨ X.m D') ∧ (W'.putObj D (.deferred none)).heap[D']? = some (.deferred (some [])) := fun D' hD' => by
        obtain ⟨h3, h4⟩ := hD D' (List.mem_cons_of_mem _ hD')
        exact ⟨h3, (World.putObj_heap_other (fun e => hn1 (by rw [← e]; exact hD'))).trans h4⟩
      refine ⟨by simp, .inl ⟨D, _, rfl, run_takeDeferred h2, ?_⟩⟩
      exact ih { a' with defers := Ds.map (fun D => { target := .collected D, args := #[] }) } _ ht rfl hn2 hrest (hh'.putObj h2 rfl h1 rfl ⟨Ds, rfl, hn2, hrest⟩)
  obtain ⟨Ds, h1, h2, h3⟩ := hh.df
  exact key Ds a W rfl h1 h2 h3 hh
def alOf : Nat → List D → List (Nat × AV)
  | _, [] => []
  | n, x :: xs => (n, .d x) :: alOf (n + 1) xs
theorem lk_alOf {n k : Nat} {x : AV} : ∀ (ds : List D) (m : Nat), lk (alOf m ds) k = some x → m ≤ k ∧ ∃ y, ds[k - m]? = some y ∧ x = .d y
  | [], m, h => by simp [alOf, lk] at h
  | y :: ds, m, h => by
    simp only [alOf, lk] at h
    cases hb : Nat.beq m k with
    | true =>
      obtain rfl := Nat.eq_of_beq_eq_true hb
      rw [hb, cond_true, Option.some.injEq] at h
      exact ⟨Nat.le_refl _, y, by simp, h.symm⟩
    | false =>
      rw [hb, cond_false] at h
      obtain ⟨h1, z, h2, h3⟩ := lk_alOf (n := n) ds (m + 1) h
      refine ⟨by omega, z, ?_, h3⟩
      rw [show k - m = (k - (m + 1)) + 1 by omega, List.getElem?_cons_succ]
      exact h2
/-- What a function owes where it ends. -/
def fin (P : Program) (fn : Func) (X : Cx) (R : D → Prop) : Exit → Act → World → Prop := bodyPostM (FR none) 0 P fn (fun e W' => ∃ v x, e = .returned v ∧ R x ∧ ExtM X.m X.w W' ∧ RD X.o W' v x)
theorem Fn.of {K : Nat} {fn : Func} {c : Code} {ds : List D} {R : D → Prop} {N : Nat} {al : List (Nat × AV)} (hf : P.funcs[K]? = some fn) (hN : fn.ntmps = N) (hb : fn.body = some c) (hn : fbody P K = true)
    (h : ∀ w o, G P (cx0 w o N) al [] (Wp P none c (fin P fn (cx0 w o N) R))) (hl : Nat.ble ds.length N = true := by rfl) (hal : alOf 0 ds = al := by simp only [alOf, Nat.reduceAdd]; rfl) : Fn P K ds R := by
  subst hN
  subst hal
  simp only [Nat.ble_eq] at hl
  refine ⟨hn, fun own W vs ho hv => Calls.mono (R := fun e W' => ∃ v x, e = .returned v ∧ R x ∧ ExtM (fun _ => False) W W' ∧ RD own W' v x) ((callsIn_wide (n := 0)).1 (callsIn_of_wp_marks (F := FR none) hf hb trivial ?_)) (fun e W' ⟨v, x, h1, h2, h3, h4⟩ => ⟨v, x, h1, h2, h3.ext, h4⟩)⟩
  have hlen := hv.len
  refine h W own { A := fun _ => 0, V := fun _ => .nilFunc, nl := fun _ => true } _ W ⟨ExtM.refl _ W, fun r hr => ⟨ho r hr, id⟩, .nil rfl, ?_, .nil, fun n x hx => ?_, fun b T cs hb => ?_, fun b hb => ?_, fun b b' hb => ?_⟩
  · simp only [Array.size_append, List.size_toArray, Array.size_replicate]
    omega
  · obtain ⟨_, y, h1, rfl⟩ := lk_alOf (n := n) ds 0 hx
    obtain ⟨v, h2, h3⟩ := hv.get _ y h1
    refine ⟨v, ?_, .d (h3.keeps (.of (fun _ _ _ => rfl) (Nat.le_refl _) (fun r _ hr => ?_)))⟩
    · rw [Nat.sub_zero] at h2
      have h4 := (List.getElem?_eq_some_iff.1 h2).1
      rw [Array.getElem?_append_left (by simpa using h4)]
      simpa using h2
    · rcases hr with hr | ⟨b, ⟨⟨en, hb⟩, _⟩, _⟩
      · exact hr
      · simp [lk] at hb
  · simp [lk] at hb
  · obtain ⟨⟨en, h1⟩, _⟩ := hb
    simp [lk] at h1
  · obtain ⟨⟨en, h1⟩, _⟩ := hb
    simp [lk] at h1
def rdv (tm : Array Value) : ResultVar → Sem Value
  | .tmp t => pure (tm.getD t undef)
  | .cell c t => do loadVar t (← asAddr (tm.getD c undef))
theorem results_rdv (fn : Func) (tm : Array Value) : results fn tm = (do let vs ← fn.results.mapM (rdv tm); pure (if h : vs.size = 1 then vs[0] else .tuple vs)) := by
  unfold results
  congr 1
/-- A result that can be told. -/
def rvOk (P : Program) (X : Cx) (al : List (Nat × AV)) (bs : Bs) : ResultVar → D → Prop := fun r x => ∀ E a W, HdE P X al bs E a W → ∃ v, (rdv a.tmps r).run P W = .ok v W ∧ RD (ownS E X.o bs) W v x
theorem rvOk.tmp {n : Nat} {x : D} (h : lk al n = some (.d x) := by rfl) : rvOk P X al bs (.tmp n) x := fun E a W hh => by
  obtain ⟨v, h1, h2⟩ := hh.sl n _ h
  cases h2 with
  | d h2 =>
    refine ⟨v, ?_, h2⟩
    unfold rdv
    rw [Sem.run_pure, Array.getD_eq_getD_getElem?, h1]
    rfl
theorem rvOk.cellS {n b N T T' : Nat} {cs : List AV} {ds : List D} [hT : TRw P T N] (h : lk al n = some (.p b 0) := by rfl) (hb : lk bs b = some (some (T', cs)) := by rfl) (hN : cs.length = N := by rfl) [hp : Pl cs ds] : rvOk P X al bs (.cell n T) (.st ds) := fun E a W hh => by
  obtain ⟨v, h1, h2⟩ := hh.sl n _ h
  cases h2 with
  | p hb' hn =>
    obtain ⟨vs, sp, m, k, c, g1, g2, _⟩ := hh.blk hb hn
    have hl := g2.len
    rw [hp.h] at g2
    obtain ⟨dd, hu, hd, hi⟩ := hT.get
    refine ⟨.agg vs.toArray, ?_, .st g2.unmap⟩
    have h3 : a.tmps.getD n undef = .pointer (some ⟨E.A b, 0, none⟩) := by rw [Array.getD_eq_getD_getElem?, h1]; rfl
    have h4 := run_loadVar_mid (P := P) W (E.A b) 0 T vs dd (g1.rangeIn 0 vs (fun j hj => by rw [Nat.zero_add, List.getElem?_append_left hj])) hu hd (by rw [hi, hl, hN])
    simp [rdv, h3, asAddr, h4]
theorem rvOk.cell1 {n b T T' : Nat} {x : D} {cs : List AV} [hT : TSc P T] (h : lk al n = some (.p b 0) := by rfl) (hb : lk bs b = some (some (T', .d x :: cs)) := by rfl) : rvOk P X al bs (.cell n T) x := fun E a W hh => by
  obtain ⟨v, h1, h2⟩ := hh.sl n _ h
  cases h2 with
  | p hb' hn =>
    obtain ⟨vs, sp, m, k, c, g1, g2, _⟩ := hh.blk hb hn
    obtain ⟨u, g3, g4⟩ := g2.at (sp := sp) (off := 0) rfl
    obtain ⟨dd, hu, hd⟩ := hT.get
    cases g4 with
    | d g4 =>
      refine ⟨u, ?_, g4⟩
      have h3 : a.tmps.getD n undef = .pointer (some ⟨E.A b, 0, none⟩) := by rw [Array.getD_eq_getD_getElem?, h1]; rfl
      have hc : W.cell? ⟨E.A b, 0, none⟩ = some u := (g1.cell 0).trans g3
      simp [rdv, h3, asAddr, loadVar, isAgg_false hu hd, hc]
theorem RD.fin {own own' : Nat → Prop} {v : Value} {x : D} (h : RD own W v x) (ho : ∀ r, own' r → own r) : RD own' W v x := h.keeps (.of (fun _ _ _ => rfl) (Nat.le_refl _) (fun r _ h => ho r h))
section
variable {fn : Func} {R : D → Prop} {r1 r2 r3 : ResultVar} {x y z : D}
theorem G.fin1 (hx : rvOk P X al bs r1 x) (hr : fn.results = #[r1]) (h : R x) : G P X al bs (fin P fn X R .ret) := fun E a W hh => hh.leave fun a' W' _ hh => by
  obtain ⟨v, h1, h2⟩ := hx E a' W' hh
  refine ⟨v, ?_, v, x, rfl, h, hh.ext, h2.fin (fun r ho => .inl ho)⟩
  simp [results_rdv, hr, h1]
theorem G.fin2 (hx : rvOk P X al bs r1 x) (hy : rvOk P X al bs r2 y) (hr : fn.results = #[r1, r2]) (h : R (.tup [x, y])) : G P X al bs (fin P fn X R .ret) := fun E a W hh => hh.leave fun a' W' _ hh => by
  obtain ⟨v, h1, h2⟩ := hx E a' W' hh
  obtain ⟨u, h3, h4⟩ := hy E a' W' hh
  refine ⟨.tuple #[v, u], ?_, _, _, rfl, h, hh.ext, (RD.tup (.cons h2 (.cons h4 .nil))).fin (fun r ho => .inl ho)⟩
  simp [results_rdv, hr, h1, h3]
theorem G.fin3 (hx : rvOk P X al bs r1 x) (hy : rvOk P X al bs r2 y) (hz : rvOk P X al bs r3 z) (hr : fn.results = #[r1, r2, r3]) (h : R (.tup [x, y, z])) : G P X al bs (fin P fn X R .ret) := fun E a W hh => hh.leave fun a' W' _ hh => by
  obtain ⟨v, h1, h2⟩ := hx E a' W' hh
  obtain ⟨u, h3, h4⟩ := hy E a' W' hh
  obtain ⟨t, h5, h6⟩ := hz E a' W' hh
  refine ⟨.tuple #[v, u, t], ?_, _, _, rfl, h, hh.ext, (RD.tup (.cons h2 (.cons h4 (.cons h6 .nil)))).fin (fun r ho => .inl ho)⟩
  simp [results_rdv, hr, h1, h3, h5]
end
end

end Go.Proofs.Ytmajkjkakciaiaa
