/- Calls that may write: functions that are given blocks of the caller's, function values. -/
import Derived.Test.YtohpbfcechbngaaAvh
set_option linter.unusedSimpArgs false
set_option linter.unusedVariables false
namespace Go.Proofs.Ytohpbfcechbngaa
open Go.RowKit

mutual
/-- All the numbers that the word names are such. -/
def AV.nums (p : Nat → Bool) : AV → Bool
  | .p b _ => p b
  | .o b _ => p b
  | .vw b _ _ _ => p b
  | .st cs => AV.numsL p cs
  | .tup cs => AV.numsL p cs
  | .fn _ cs => AV.numsL p cs
  | .gd _ _ x => AV.nums p x
  | .d _ => true
  | .any => true
def AV.numsL (p : Nat → Bool) : List AV → Bool
  | [] => true
  | c :: cs => AV.nums p c && AV.numsL p cs
end
mutual
theorem RA.nums {E : Env} {dm dm' own : Nat → Prop} {W : World} {p : Nat → Bool} (hp : ∀ b, dm b → p b = true → dm' b) : ∀ {v : Value} {x : AV}, RA E dm own W v x → x.nums p = true → RA E dm' own W v x
  | _, _, .d h, _ => .d h
  | _, _, .p hb hn, h => .p (hp _ hb h) hn
  | _, _, .o hb hv, h => .o (hp _ hb h) hv
  | _, _, .vw hb hn hc hm h0, h => .vw (hp _ hb h) hn hc hm h0
  | _, _, .st h, hx => .st (RAL.nums hp h hx)
  | _, _, .tup h, hx => .tup (RAL.nums hp h hx)
  | _, _, .fn h, hx => .fn (RAL.nums hp h hx)
  | _, _, .gd h h', hx => .gd (fun e => RA.nums hp (h e) hx) h'
  | _, _, .any, _ => .any
theorem RAL.nums {E : Env} {dm dm' own : Nat → Prop} {W : World} {p : Nat → Bool} (hp : ∀ b, dm b → p b = true → dm' b) : ∀ {vs : List Value} {xs : List AV}, RAL E dm own W vs xs → AV.numsL p xs = true → RAL E dm' own W vs xs
  | _, _, .nil, _ => .nil
  | _, _, .cons h t, hx => by
    simp only [AV.numsL, Bool.and_eq_true] at hx
    exact .cons (RA.nums hp h hx.1) (RAL.nums hp t hx.2)
end
/-- The numbers that stay what they are across a call: odd ones from 100 on are rows that may move. -/
def kn (b : Nat) : Bool := Nat.blt b 100 || Nat.beq (b % 2) 0
def kns (bs : Bs) : List Nat := (bs.map (·.1)).filter kn
def inB (bs : Bs) (b : Nat) : Bool := bs.any (fun e => Nat.beq e.1 b)
theorem inB_iff {bs : Bs} {b : Nat} : inB bs b = true ↔ dom bs b := by
  unfold dom
  induction bs with
  | nil => simp [inB, lk]
  | cons e bs ih =>
    obtain ⟨m, x⟩ := e
    rw [lk_cons]
    simp only [inB, List.any_cons, Bool.or_eq_true, Nat.beq_eq] at ih ⊢
    by_cases h : m = b
    · simp [h]
    · simp only [h, false_or, if_false]
      exact ih
theorem kns_iff {bs : Bs} {b : Nat} : b ∈ kns bs ↔ dom bs b ∧ kn b = true := by
  rw [← inB_iff]
  simp only [kns, List.mem_filter, List.mem_map, inB, List.any_eq_true, Nat.beq_eq]

/-- What holds of blocks, told without a frame. -/
structure HB (P : Program) (X : Cx) (bs : Bs) (E : Env) (W : World) : Prop where
  ext : ExtM X.m X.w W
  o0 : ∀ r, X.o r → r < X.w.heap.size ∧ ¬ X.m r
  en : EnK X.k X.E0 E bs
  bk : ∀ b T cs, lk bs b = some (some (T, cs)) → EnOk P E (dom bs) (ownS E X.o bs) W b T cs
  lo : ∀ b, live E bs b → X.w.heap.size ≤ E.A b ∨ X.m (E.A b)
  nd : ∀ b b', live E bs b → live E bs b' → E.A b = E.A b' → b = b'
section
variable {P : Program} {X : Cx} {al : List (Nat × AV)} {bs : Bs} {E : Env} {a : Act} {W : World}
theorem HdE.hb (h : HdE P X al bs E a W) : HB P X bs E W := ⟨h.ext, h.o0, h.en, h.bk, h.lo, h.nd⟩
theorem HB.hd (h : HB P X bs E W) (hd : DfOk (fun D => X.w.heap.size ≤ D ∨ X.m D) a W) (hz : a.tmps.size = X.N) (hs : ∀ n x, lk al n = some x → ∃ v, a.tmps[n]? = some v ∧ RA E (dom bs) (ownS E X.o bs) W v x) : HdE P X al bs E a W := ⟨h.ext, h.o0, hd, hz, h.en, hs, h.bk, h.lo, h.nd⟩
theorem HB.blkOf (h : HB P X bs E W) {b : Nat} (hl : live E bs b) : ∃ T cs, Blk W (E.A b) T cs := by
  obtain ⟨⟨⟨T, cs⟩, he⟩, hn⟩ := hl
  rcases h.bk b T cs he with ⟨h1, _⟩ | ⟨_, vs, sp, m, n, c, h1, _⟩
  · rw [hn] at h1; cases h1
  · exact ⟨_, _, h1⟩
theorem HB.own_lt (h : HB P X bs E W) {r : Nat} (ho : ownS E X.o bs r) : r < W.heap.size := by
  rcases ho with ho | ⟨b, hb, rfl⟩
  · exact Nat.lt_of_lt_of_le (h.o0 r ho).1 h.ext.size
  · obtain ⟨T, cs, h1⟩ := h.blkOf hb
    exact h1.lt
end

/-! ### Contracts -/
/-- The callee's context: what the caller hands over (its blocks bs), at the moment of the call. -/
structure SubX (X X' : Cx) (bs : Bs) (E : Env) (W : World) : Prop where
  w : X'.w = W
  E0 : X'.E0 = E
  m : ∀ r, X'.m r → ∃ b, live E bs b ∧ E.A b = r
  o : ∀ r, X'.o r → ownS E X.o bs r
  k : ∀ b ∈ X.k, Nat.ble 100 b = true → b ∈ X'.k
/-- A word on contexts that callees hand on. -/
structure Cc (C : Cx → Prop) : Prop where
  sub : ∀ (P : Program) (X X' : Cx) (bs : Bs) (E : Env) (W : World), C X → HB P X bs E W → SubX X X' bs E W → C X'
  N : ∀ (X : Cx) (N : Nat), C X → C { X with N := N }
def CT : Cx → Prop := fun _ => True
theorem CT.c : Cc CT := ⟨fun _ _ _ _ _ _ _ _ _ => trivial, fun _ _ _ => trivial⟩
/-- A call of a function value. -/
def CallsV (P : Program) (f : Value) (args : Array Value) (W : World) (R : Ending → World → Prop) : Prop :=
  (∃ K caps, f = .func (.func K) #[] caps ∧ fbody P K = true ∧ Calls P K (args ++ caps) W R) ∨
  (∃ l, f = .func (.yield l) #[] #[] ∧ YieldAt (FR none) 0 P l args W R)
/-- What is left when a call has ended that told x and left the blocks as bs'. -/
def Left (P : Program) (X : Cx) (x : AV) (bs' : Bs) (e : Ending) (W' : World) : Prop := ∃ u E', e = .returned u ∧ HB P X bs' E' W' ∧ RA E' (dom bs') (ownS E' X.o bs') W' u x
/-- Function value fv, called with as while the blocks are bs, answers x and leaves them as bs'. -/
def FvB (P : Program) (C : Cx → Prop) (fv : AV) (xs : List AV) (bs : Bs) (x : AV) (bs' : Bs) : Prop :=
  ∀ (X : Cx) (f : Value) (vs : List Value), C X → X.k = kns bs → HB P X bs X.E0 X.w → RA X.E0 (dom bs) (ownS X.E0 X.o bs) X.w f fv → RAL X.E0 (dom bs) (ownS X.E0 X.o bs) X.w vs xs → CallsV P f vs.toArray X.w (Left P X x bs')
/-- Function K likewise. -/
def FnB (P : Program) (C : Cx → Prop) (K : Nat) (xs : List AV) (bs : Bs) (x : AV) (bs' : Bs) : Prop :=
  fbody P K = true ∧ ∀ (X : Cx) (vs : List Value), C X → X.k = kns bs → HB P X bs X.E0 X.w → RAL X.E0 (dom bs) (ownS X.E0 X.o bs) X.w vs xs → Calls P K vs.toArray X.w (Left P X x bs')
section
variable {P : Program} {C : Cx → Prop} {K : Nat} {xs cs : List AV} {bs bs' : Bs} {x : AV}
theorem FnB.v (h : FnB P C K (xs ++ cs) bs x bs') : FvB P C (.fn K cs) xs bs x bs' := fun X f vs hC hk hb hf ha => by
  cases hf with
  | @fn _ us _ hc =>
    have := h.2 X (vs ++ us) hC hk hb (ha.app hc)
    exact .inl ⟨K, us.toArray, rfl, h.1, by rw [List.append_toArray]; exact this⟩
theorem FnB.v0 (h : FnB P C K xs bs x bs') : FvB P C (.fn K []) xs bs x bs' := FnB.v (cs := []) (by rw [List.append_nil]; exact h)
theorem FnB.vd {ds : List D} (h : FnB P C K (xs ++ ds.map .d) bs x bs') : FvB P C (.d (.fn K ds)) xs bs x bs' := fun X f vs hC hk hb hf ha => by
  cases hf with
  | d hf =>
    cases hf with
    | @fn _ us _ hc =>
      have := h.2 X (vs ++ us) hC hk hb (ha.app (RAL.map hc))
      exact .inl ⟨K, us.toArray, rfl, h.1, by rw [List.append_toArray]; exact this⟩
theorem FvB.ct {fv : AV} (h : FvB P CT fv xs bs x bs') : FvB P C fv xs bs x bs' := fun X f vs _ hk hb hf ha => h X f vs trivial hk hb hf ha
theorem HB.grow {X : Cx} {E : Env} {W W' : World} (h : HB P X bs E W) (hE : Ext W W') : HB P X bs E W' := by
  have hb := hE.below
  have k : Keeps (ownS E X.o bs) (ownS E X.o bs) W W' := .of (fun r hr _ => hb.block r hr) hb.size (fun r _ ho => ho)
  exact ⟨h.ext.trans hE, h.o0, h.en, fun b T cs hc => (h.bk b T cs hc).keeps k (Env.le.refl _ _) (fun _ h => h) ⟨_, hc⟩ (fun hn => hb.block _ (by obtain ⟨T, cs, h1⟩ := h.blkOf ⟨⟨_, hc⟩, hn⟩; exact h1.lt)), h.lo, h.nd⟩
/-- A function that takes data changes no blocks. -/
theorem Fn.b {ds : List D} {r : D} (h : Fn P K ds (· = r)) : FnB P C K (ds.map .d) bs (.d r) bs := ⟨h.1, fun X vs _ hk hb ha => by
  refine (h.2 (ownS X.E0 X.o bs) X.w vs (fun r ho => hb.own_lt ho) ha.unmap).mono ?_
  rintro e W' ⟨v, y, rfl, rfl, hE, hv⟩
  exact ⟨v, X.E0, rfl, hb.grow hE, .d hv⟩⟩
end

/-! ### The caller's step -/
/-- The slots that may still be told when numbers have moved. -/
inductive Fk : List (Nat × AV) → List (Nat × AV) → Prop
  | nil : Fk [] []
  | k {n : Nat} {x : AV} {l l' : List (Nat × AV)} (h : x.nums kn = true) (t : Fk l l') : Fk ((n, x) :: l) ((n, x) :: l')
  | x {n : Nat} {x : AV} {l l' : List (Nat × AV)} (t : Fk l l') : Fk ((n, x) :: l) ((n, .any) :: l')
inductive FkB : Bs → Bs → Prop
  | nil : FkB [] []
  | n {b : Nat} {l l' : Bs} (t : FkB l l') : FkB ((b, none) :: l) ((b, none) :: l')
  | k {b : Nat} {T : TypeId} {cs : List AV} {l l' : Bs} (h : AV.numsL kn cs = true) (t : FkB l l') : FkB ((b, some (T, cs)) :: l) ((b, some (T, cs)) :: l')
  | x {b : Nat} {e : Option (TypeId × List AV)} {l l' : Bs} (t : FkB l l') : FkB ((b, e) :: l) ((b, none) :: l')
theorem Fk.get {al al' : List (Nat × AV)} (h : Fk al al') : ∀ {n : Nat} {y : AV}, lk al' n = some y → ∃ x, lk al n = some x ∧ (y = .any ∨ (y = x ∧ x.nums kn = true)) := by
  induction h with
  | nil => intro n y h; simp [lk] at h
  | k hx t ih =>
    intro n y h
    rw [lk_cons] at h ⊢
    split at h
    · rename_i he
      rw [if_pos he]
      simp only [Option.some.injEq] at h
      subst h
      exact ⟨_, rfl, .inr ⟨rfl, hx⟩⟩
    · rename_i he
      rw [if_neg he]
      exact ih h
  | x t ih =>
    intro n y h
    rw [lk_cons] at h ⊢
    split at h
    · rename_i he
      rw [if_pos he]
      simp only [Option.some.injEq] at h
      subst h
      exact ⟨_, rfl, .inl rfl⟩
    · rename_i he
      rw [if_neg he]
      exact ih h
theorem FkB.dom {bs bs' : Bs} (h : FkB bs bs') : ∀ b, dom bs b ↔ dom bs' b := by
  intro b
  rw [← inB_iff, ← inB_iff]
  induction h with
  | nil => exact Iff.rfl
  | _ => simp only [inB, List.any_cons, Bool.or_eq_true] at *; rename_i ih; rw [ih]
theorem FkB.get {bs bs' : Bs} (h : FkB bs bs') : ∀ {b T : Nat} {cs : List AV}, lk bs' b = some (some (T, cs)) → lk bs b = some (some (T, cs)) ∧ AV.numsL kn cs = true := by
  induction h with
  | nil => intro b T cs h; simp [lk] at h
  | n t ih =>
    intro b T cs h
    rw [lk_cons] at h ⊢
    split at h
    · simp at h
    · rename_i he; rw [if_neg he]; exact ih h
  | k hx t ih =>
    intro b T cs h
    rw [lk_cons] at h ⊢
    split at h
    · rename_i he
      rw [if_pos he]
      simp only [Option.some.injEq, Prod.mk.injEq] at h
      obtain ⟨rfl, rfl⟩ := h
      exact ⟨rfl, hx⟩
    · rename_i he; rw [if_neg he]; exact ih h
  | x t ih =>
    intro b T cs h
    rw [lk_cons] at h ⊢
    split at h
    · simp at h
    · rename_i he; rw [if_neg he]; exact ih h
/-- The callee's blocks are among the caller's. -/
def SubB (bs : Bs) : Bs → Prop
  | [] => True
  | (b, e) :: l => (lk bs b = some e ∨ e = none) ∧ SubB bs l
theorem SubB.get {bs : Bs} : ∀ {bsC : Bs}, SubB bs bsC → ∀ {b : Nat} {q : TypeId × List AV}, lk bsC b = some (some q) → lk bs b = some (some q)
  | [], _, b, q, h => by simp [lk] at h
  | (m, e) :: l, ⟨h1, h2⟩, b, q, h => by
    rw [lk_cons] at h
    split at h
    · rename_i he
      subst he
      simp only [Option.some.injEq] at h
      subst h
      rcases h1 with h1 | h1
      · exact h1
      · cases h1
    · exact SubB.get h2 h
/-- The cells name no other numbers. -/
def ClE (p : Nat → Bool) (e : Option (TypeId × List AV)) : Prop := ∀ T cs, e = some (T, cs) → AV.numsL p cs = true
theorem ClE.none {p : Nat → Bool} : ClE p none := fun _ _ h => by cases h
theorem ClE.some {p : Nat → Bool} {T : TypeId} {cs : List AV} (h : AV.numsL p cs = true) : ClE p (some (T, cs)) := fun _ _ e => by cases e; exact h
def ClB (p : Nat → Bool) : Bs → Prop
  | [] => True
  | (_, e) :: l => ClE p e ∧ ClB p l
theorem ClB.get {p : Nat → Bool} : ∀ {bs : Bs}, ClB p bs → ∀ {b T : Nat} {cs : List AV}, lk bs b = some (some (T, cs)) → AV.numsL p cs = true
  | [], _, b, T, cs, h => by simp [lk] at h
  | (m, e) :: l, ⟨h1, h2⟩, b, T, cs, h => by
    rw [lk_cons] at h
    split at h
    · simp only [Option.some.injEq] at h
      exact h1 _ _ h
    · exact ClB.get h2 h
/-- The old words, the new ones for what p names. -/
def Env.up (E E' : Env) (p : Nat → Bool) : Env := ⟨fun b => bif p b then E'.A b else E.A b, fun b => bif p b then E'.V b else E.V b, fun b => bif p b then E'.nl b else E.nl b⟩
section
variable {E E' : Env} {p : Nat → Bool} {b : Nat}
theorem Env.up_t (h : p b = true) : (E.up E' p).A b = E'.A b ∧ (E.up E' p).V b = E'.V b ∧ (E.up E' p).nl b = E'.nl b := by simp [Env.up, h]
theorem Env.up_f (h : p b = false) : (E.up E' p).A b = E.A b ∧ (E.up E' p).V b = E.V b ∧ (E.up E' p).nl b = E.nl b := by simp [Env.up, h]
end
theorem EnOk.turn {P : Program} {E E' : Env} {dm dm' own own' : Nat → Prop} {W W' : World} {b T : Nat} {cs : List AV} (h : EnOk P E dm own W b T cs) (hA : E'.A b = E.A b) (hV : E'.V b = E.V b) (hn : E'.nl b = E.nl b) (hk : E.nl b = false → W'.heap[E.A b]? = W.heap[E.A b]?) (hc : ∀ vs, RAL E dm own W vs cs → RAL E' dm' own' W' vs cs) : EnOk P E' dm' own' W' b T cs := by
  unfold EnOk at *
  rw [hn, hA, hV]
  rcases h with h | ⟨h0, vs, sp, m, n, c, h1, h2, h3⟩
  · exact .inl h
  · exact .inr ⟨h0, vs, sp, m, n, c, (hk h0).trans h1, hc vs h2, h3⟩
theorem dom_map {bs bs' : Bs} (h : bs'.map (·.1) = bs.map (·.1)) (b : Nat) : inB bs' b = inB bs b := by
  have e : ∀ l : Bs, inB l b = (l.map (·.1)).any (fun m => Nat.beq m b) := fun l => by simp only [inB, List.any_map]; rfl
  rw [e, e, h]
theorem lk_app_some {α : Type} {w l : List (Nat × α)} {n : Nat} {v : α} (h : lk (w ++ l) n = some v) : lk w n = some v ∨ (lk w n = none ∧ lk l n = some v) := by
  rw [lk_app] at h
  cases hw : lk w n with
  | none => rw [hw] at h; exact .inr ⟨rfl, h⟩
  | some u => rw [hw] at h; exact .inl h
section
variable {P : Program} {X : Cx} {al al' : List (Nat × AV)} {bs bsC bs' bsF : Bs} {E : Env} {a : Act} {W : World} {fv x : AV} {xs : List AV} {C : Cx → Prop}
/-- The context that the callee is given. -/
def subx (X : Cx) (bs bsC : Bs) (E : Env) (W : World) : Cx := ⟨W, fun r => ownS E X.o bs r ∧ ¬ ∃ b, live E bsC b ∧ E.A b = r, 0, fun r => ∃ b, live E bsC b ∧ E.A b = r, E, kns bsC⟩
theorem HB.enter (h : HB P X bs E W) (hs : SubB bs bsC) (hcl : ClB (inB bsC) bsC) : HB P (subx X bs bsC E W) bsC E W := by
  have hl : ∀ b, live E bsC b → live E bs b := fun b ⟨⟨q, h1⟩, h2⟩ => ⟨⟨q, hs.get h1⟩, h2⟩
  have ho : ∀ r, ownS E (subx X bs bsC E W).o bsC r → ownS E X.o bs r := by
    rintro r (h1 | ⟨b, h1, rfl⟩)
    · exact h1.1
    · exact .inr ⟨b, hl b h1, rfl⟩
  have k : Keeps (ownS E X.o bs) (ownS E (subx X bs bsC E W).o bsC) W W := .of (fun _ _ _ => rfl) (Nat.le_refl _) (fun r _ h => ho r h)
  refine ⟨ExtM.refl _ _, fun r hr => ⟨h.own_lt hr.1, hr.2⟩, ⟨fun b hb => (kns_iff.1 hb).1, fun _ _ => rfl, fun _ _ => rfl, fun _ _ => rfl⟩, fun b T cs hb => ?_, fun b hb => .inr ⟨b, hb, rfl⟩, fun b b' h1 h2 => h.nd b b' (hl b h1) (hl b' h2)⟩
  refine (h.bk b T cs (hs.get hb)).turn rfl rfl rfl (fun _ => rfl) (fun vs hr => ?_)
  exact (hr.nums (dm' := dom bsC) (fun b _ hb => inB_iff.1 hb) (hcl.get hb)).keeps k (Env.le.refl _ _) (fun _ h => h)
theorem HB.back (h : HB P X bs E W) (hs : SubB bs bsC) (hdm : bs'.map (·.1) = bsC.map (·.1)) {E' : Env} {W' : World} (h' : HB P (subx X bs bsC E W) bs' E' W') (hF : FkB bs bsF) (hk : X.k.all kn = true) :
    HB P X (bs' ++ bsF) (E.up E' (inB bs')) W' ∧ (∀ v y, RA E' (dom bs') (ownS E' (subx X bs bsC E W).o bs') W' v y → RA (E.up E' (inB bs')) (dom (bs' ++ bsF)) (ownS (E.up E' (inB bs')) X.o (bs' ++ bsF)) W' v y) ∧
    (∀ v y, RA E (dom bs) (ownS E X.o bs) W v y → y.nums kn = true → RA (E.up E' (inB bs')) (dom (bs' ++ bsF)) (ownS (E.up E' (inB bs')) X.o (bs' ++ bsF)) W' v y) ∧ W.heap.size ≤ W'.heap.size ∧ (∀ (r : Nat) (o : Obj), W.heap[r]? = some o → o.isCells = false → W'.heap[r]? = some o) := by
  have hl : ∀ b, live E bsC b → live E bs b := fun b ⟨⟨q, h1⟩, h2⟩ => ⟨⟨q, hs.get h1⟩, h2⟩
  have hdom : ∀ b, inB bs' b = inB bsC b := dom_map hdm
  -- a number of the new state
  have hlive : ∀ b, live (E.up E' (inB bs')) (bs' ++ bsF) b → (inB bs' b = true ∧ live E' bs' b) ∨ (inB bs' b = false ∧ live E bs b) := by
    rintro b ⟨⟨q, h1⟩, h2⟩
    rcases lk_app_some h1 with h1 | ⟨h0, h1⟩
    · have hin : inB bs' b = true := inB_iff.2 ⟨_, h1⟩
      rw [(Env.up_t hin).2.2] at h2
      exact .inl ⟨hin, ⟨q, h1⟩, h2⟩
    · have hin : inB bs' b = false := by
        cases hq : inB bs' b with
        | false => rfl
        | true => obtain ⟨y, hy⟩ := inB_iff.1 hq; rw [h0] at hy; cases hy
      rw [(Env.up_f hin).2.2] at h2
      obtain ⟨T, cs⟩ := q
      exact .inr ⟨hin, ⟨_, (hF.get h1).1⟩, h2⟩
  have hoX : ∀ r, X.o r → (subx X bs bsC E W).o r := fun r hr => ⟨.inl hr, fun ⟨b, h1, h2⟩ => by
    rcases h.lo b (hl b h1) with h3 | h3
    · have := (h.o0 r hr).1; omega
    · rw [h2] at h3; exact (h.o0 r hr).2 h3⟩
  have hnew : ∀ r, ownS (E.up E' (inB bs')) X.o (bs' ++ bsF) r → ownS E' (subx X bs bsC E W).o bs' r := by
    rintro r (hr | ⟨b, h1, rfl⟩)
    · exact .inl (hoX r hr)
    · rcases hlive b h1 with ⟨h2, h3⟩ | ⟨h2, h3⟩
      · rw [(Env.up_t h2).1]
        exact .inr ⟨b, h3, rfl⟩
      · rw [(Env.up_f h2).1]
        refine .inl ⟨.inr ⟨b, h3, rfl⟩, fun ⟨b', h4, h5⟩ => ?_⟩
        have := h.nd b' b (hl b' h4) h3 h5
        subst this
        have hq : inB bs' b' = true := by rw [hdom]; obtain ⟨⟨q, h6⟩, _⟩ := h4; exact inB_iff.2 ⟨_, h6⟩
        rw [h2] at hq; cases hq
  have hold : ∀ r, r < W.heap.size → ownS (E.up E' (inB bs')) X.o (bs' ++ bsF) r → ownS E X.o bs r := by
    rintro r hr (ho | ⟨b, h1, rfl⟩)
    · exact .inl ho
    · rcases hlive b h1 with ⟨h2, h3⟩ | ⟨h2, h3⟩
      · rw [(Env.up_t h2).1] at hr ⊢
        rcases h'.lo b h3 with h4 | ⟨b', h4, h5⟩
        · have : W.heap.size ≤ E'.A b := h4
          omega
        · exact .inr ⟨b', hl b' h4, h5⟩
      · rw [(Env.up_f h2).1]
        exact .inr ⟨b, h3, rfl⟩
  have kw : Keeps (ownS E' (subx X bs bsC E W).o bs') (ownS (E.up E' (inB bs')) X.o (bs' ++ bsF)) W' W' := .of (fun _ _ _ => rfl) (Nat.le_refl _) (fun r _ hr => hnew r hr)
  have ko : Keeps (ownS E X.o bs) (ownS (E.up E' (inB bs')) X.o (bs' ++ bsF)) W W' :=
    .of (fun r hr hno => h'.ext.blk r hr (fun ⟨b, h1, h2⟩ => hno (.inr ⟨b, hl b h1, h2⟩))) h'.ext.size hold
  have hd1 : ∀ b, dom bs' b → dom (bs' ++ bsF) b := fun b ⟨y, hy⟩ => ⟨y, by rw [lk_app, hy]; rfl⟩
  have hd2 : ∀ b, dom bs b → dom (bs' ++ bsF) b := fun b hb => by
    obtain ⟨y, hy⟩ := (hF.dom b).1 hb
    rw [← inB_iff]
    have : inB bsF b = true := inB_iff.2 ⟨y, hy⟩
    simp only [inB, List.any_append, Bool.or_eq_true] at this ⊢
    exact .inr this
  have le1 : Env.le (dom bs') E' (E.up E' (inB bs')) := ⟨fun b hb => (Env.up_t (inB_iff.2 hb)).1, fun b hb => (Env.up_t (inB_iff.2 hb)).2.1, fun b hb => (Env.up_t (inB_iff.2 hb)).2.2⟩
  have le2 : ∀ b, kn b = true → (E.up E' (inB bs')).A b = E.A b ∧ (E.up E' (inB bs')).V b = E.V b ∧ (E.up E' (inB bs')).nl b = E.nl b := fun b hb => by
    cases hq : inB bs' b with
    | false => exact Env.up_f hq
    | true =>
      obtain ⟨h1, h2, h3⟩ := Env.up_t (E := E) (E' := E') hq
      have hkb : b ∈ kns bsC := kns_iff.2 ⟨inB_iff.1 (by rw [← hdom]; exact hq), hb⟩
      exact ⟨h1.trans (h'.en.A b hkb), h2.trans (h'.en.V b hkb), h3.trans (h'.en.nl b hkb)⟩
  have hra1 : ∀ v y, RA E' (dom bs') (ownS E' (subx X bs bsC E W).o bs') W' v y → RA (E.up E' (inB bs')) (dom (bs' ++ bsF)) (ownS (E.up E' (inB bs')) X.o (bs' ++ bsF)) W' v y := fun v y hr => hr.keeps kw le1 hd1
  have lek : Env.le (fun b => dom bs b ∧ kn b = true) E (E.up E' (inB bs')) := ⟨fun b hb => (le2 b hb.2).1, fun b hb => (le2 b hb.2).2.1, fun b hb => (le2 b hb.2).2.2⟩
  have hra2 : ∀ v y, RA E (dom bs) (ownS E X.o bs) W v y → y.nums kn = true → RA (E.up E' (inB bs')) (dom (bs' ++ bsF)) (ownS (E.up E' (inB bs')) X.o (bs' ++ bsF)) W' v y := fun v y hr hy =>
    (hr.nums (dm' := fun b => dom bs b ∧ kn b = true) (fun b hb hp => ⟨hb, hp⟩) hy).keeps ko lek (fun b hb => hd2 b hb.1)
  have hcells : ∀ (r : Nat) (o : Obj), W.heap[r]? = some o → o.isCells = false → W'.heap[r]? = some o := fun r o ho hc => by
    rw [h'.ext.blk r (Array.getElem?_eq_some_iff.1 ho).1 (fun ⟨b, h1, h2⟩ => ?_)]
    · exact ho
    · obtain ⟨T, cs, hb⟩ := h.blkOf (hl b h1)
      unfold Blk at hb
      rw [h2, ho] at hb
      simp only [Option.some.injEq] at hb
      subst hb
      cases hc
  refine ⟨⟨h.ext.step h'.ext (fun r ⟨b, h1, h2⟩ => by rw [← h2]; exact h.lo b (hl b h1)), h.o0, ?_, ?_, ?_, ?_⟩, hra1, hra2, h'.ext.size, hcells⟩
  · refine ⟨fun b hb => hd2 b (h.en.dk b hb), fun b hb => ?_, fun b hb => ?_, fun b hb => ?_⟩
    · exact (le2 b (List.all_eq_true.1 hk b hb)).1.trans (h.en.A b hb)
    · exact (le2 b (List.all_eq_true.1 hk b hb)).2.1.trans (h.en.V b hb)
    · exact (le2 b (List.all_eq_true.1 hk b hb)).2.2.trans (h.en.nl b hb)
  · intro b T cs hb
    rcases lk_app_some hb with hb | ⟨h0, hb⟩
    · have hin : inB bs' b = true := inB_iff.2 ⟨_, hb⟩
      obtain ⟨e1, e2, e3⟩ := Env.up_t (E := E) (E' := E') hin
      exact (h'.bk b T cs hb).turn e1 e2 e3 (fun _ => rfl) (fun vs hr => hr.keeps kw le1 hd1)
    · have hin : inB bs' b = false := by
        cases hq : inB bs' b with
        | false => rfl
        | true => obtain ⟨y, hy⟩ := inB_iff.1 hq; rw [h0] at hy; cases hy
      obtain ⟨e1, e2, e3⟩ := Env.up_f (E := E) (E' := E') hin
      obtain ⟨hb1, hb2⟩ := hF.get hb
      refine (h.bk b T cs hb1).turn e1 e2 e3 (fun hn => ?_) (fun vs hr => (hr.nums (dm' := fun b => dom bs b ∧ kn b = true) (fun b hb hp => ⟨hb, hp⟩) hb2).keeps ko lek (fun b hb => hd2 b hb.1))
      have hlb : live E bs b := ⟨⟨_, hb1⟩, hn⟩
      obtain ⟨T', cs', hB⟩ := h.blkOf hlb
      refine h'.ext.blk _ hB.lt (fun ⟨b', h1, h2⟩ => ?_)
      have := h.nd b' b (hl b' h1) hlb h2
      subst this
      have hq : inB bs' b' = true := by rw [hdom]; obtain ⟨⟨q, h6⟩, _⟩ := h1; exact inB_iff.2 ⟨_, h6⟩
      rw [hin] at hq; cases hq
  · intro b hb
    rcases hlive b hb with ⟨h2, h3⟩ | ⟨h2, h3⟩
    · rw [(Env.up_t h2).1]
      rcases h'.lo b h3 with h4 | ⟨b', h4, h5⟩
      · exact .inl (Nat.le_trans h.ext.size h4)
      · rw [← h5]; exact h.lo b' (hl b' h4)
    · rw [(Env.up_f h2).1]
      exact h.lo b h3
  · intro b1 b2 g1 g2 he
    have cross : ∀ {b c : Nat}, live E' bs' b → live E bs c → inB bs' c = false → E'.A b = E.A c → False := by
      intro b c h3 h4 h5 h6
      obtain ⟨T, cs, hB⟩ := h.blkOf h4
      rcases h'.lo b h3 with h7 | ⟨b', h7, h8⟩
      · have h9 : W.heap.size ≤ E'.A b := h7
        have h10 : E.A c < W.heap.size := hB.lt
        omega
      · have := h.nd b' c (hl b' h7) h4 (by rw [h8, h6])
        subst this
        have hq : inB bs' b' = true := by rw [hdom]; obtain ⟨⟨q, h6⟩, _⟩ := h7; exact inB_iff.2 ⟨_, h6⟩
        rw [h5] at hq; cases hq
    rcases hlive b1 g1 with ⟨e1, f1⟩ | ⟨e1, f1⟩ <;> rcases hlive b2 g2 with ⟨e2, f2⟩ | ⟨e2, f2⟩
    · rw [(Env.up_t e1).1, (Env.up_t e2).1] at he
      exact h'.nd b1 b2 f1 f2 he
    · rw [(Env.up_t e1).1, (Env.up_f e2).1] at he
      exact (cross f1 f2 e2 he).elim
    · rw [(Env.up_f e1).1, (Env.up_t e2).1] at he
      exact (cross f2 f1 e1 he.symm).elim
    · rw [(Env.up_f e1).1, (Env.up_f e2).1] at he
      exact h.nd b1 b2 f1 f2 he
end

end Go.Proofs.Ytohpbfcechbngaa
