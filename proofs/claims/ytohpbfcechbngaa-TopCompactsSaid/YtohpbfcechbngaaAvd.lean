/- How a walk's state goes on: new blocks, stores, rows that grow, rows that nobody changes any more, other numbers. -/
import Derived.Test.YtohpbfcechbngaaAvc
set_option linter.unusedSimpArgs false
set_option linter.unusedVariables false
namespace Go.Proofs.Ytohpbfcechbngaa
open Go.RowKit

section
variable {P : Program} {X : Cx} {al : List (Nat × AV)} {bs : Bs} {E : Env} {a : Act} {W : World}
theorem live_ne {E' : Env} {o : Option (TypeId × List AV)} {b k : Nat} (hE : Env.le (dom bs) E E') (hne : k ≠ b) : live E' ((k, o) :: bs) b ↔ live E bs b := by
  unfold live
  rw [lk_ne _ _ hne]
  constructor
  · rintro ⟨⟨en, h1⟩, h2⟩
    exact ⟨⟨en, h1⟩, by rw [← hE.nl b ⟨_, h1⟩]; exact h2⟩
  · rintro ⟨⟨en, h1⟩, h2⟩
    exact ⟨⟨en, h1⟩, by rw [hE.nl b ⟨_, h1⟩]; exact h2⟩
/-- A new block, or a new row that has none yet, under a number that was free. -/
theorem HdE.new (h : HdE P X al bs E a W) {E' : Env} {W' : World} {k : Nat} {T : TypeId} {cs : List AV} (hf : lk bs k = none) (hE : Env.le (dom bs) E E') (hx : Ext W W') (hA : E'.nl k = false → W.heap.size ≤ E'.A k)
    (hk : ∀ own', (∀ r, r < W.heap.size → own' r → ownS E X.o bs r) → EnOk P E' (dom ((k, some (T, cs)) :: bs)) own' W' k T cs) : HdE P X al ((k, some (T, cs)) :: bs) E' a W' := by
  have hb := hx.below
  have hd : ¬ dom bs k := fun ⟨o, ho⟩ => by rw [hf] at ho; cases ho
  have ho : ∀ r, r < W.heap.size → ownS E' X.o ((k, some (T, cs)) :: bs) r → ownS E X.o bs r := by
    rintro r hr (ho | ⟨b, hl, rfl⟩)
    · exact .inl ho
    · by_cases he : k = b
      · subst he
        have := hA hl.2
        omega
      · have h1 := (live_ne hE he).1 hl
        exact .inr ⟨b, h1, (hE.A b h1.dom).symm⟩
  have kk : Keeps (ownS E X.o bs) (ownS E' X.o ((k, some (T, cs)) :: bs)) W W' := .of (fun r hr _ => hb.block r hr) hb.size ho
  refine ⟨h.ext.trans hx, h.o0, h.df.grow (grown_ext hx none) (fun r e => by cases e) rfl, h.sz, h.en.step hE dom_cons, fun n x hn => ?_, fun b T' cs' hc => ?_, fun b hl => ?_, fun b b' hl hl' he => ?_⟩
  · obtain ⟨v, h1, h2⟩ := h.sl n x hn
    exact ⟨v, h1, h2.keeps kk hE dom_cons⟩
  · by_cases he : k = b
    · subst he
      rw [lk_self] at hc
      simp only [Option.some.injEq, Prod.mk.injEq] at hc
      obtain ⟨rfl, rfl⟩ := hc
      exact hk _ ho
    · rw [lk_ne _ _ he] at hc
      exact (h.bk b T' cs' hc).keeps kk hE dom_cons ⟨_, hc⟩ (fun hn => hb.block _ (h.live_lt ⟨⟨_, hc⟩, hn⟩))
  · by_cases he : k = b
    · subst he
      exact .inl (Nat.le_trans h.ext.size (hA hl.2))
    · have h1 := (live_ne hE he).1 hl
      rw [hE.A b h1.dom]
      exact h.lo b h1
  · by_cases h1 : k = b <;> by_cases h2 : k = b'
    · omega
    · subst h1
      have h3 := (live_ne hE h2).1 hl'
      have h4 := h.live_lt h3
      have h5 := hA hl.2
      rw [hE.A b' h3.dom] at he
      omega
    · subst h2
      have h3 := (live_ne hE h1).1 hl
      have h4 := h.live_lt h3
      have h5 := hA hl'.2
      rw [hE.A b h3.dom] at he
      omega
    · have h3 := (live_ne hE h1).1 hl
      have h4 := (live_ne hE h2).1 hl'
      rw [hE.A b h3.dom, hE.A b' h4.dom] at he
      exact h.nd b b' h3 h4 he
/-- A new block of n elements. -/
theorem HdE.alloc (h : HdE P X al bs E a W) {k : Nat} {T : TypeId} {vs : List Value} {cs : List AV} {n m : Nat} (hf : lk bs k = none) (hr : RAL E (dom bs) (ownS E X.o bs) W vs cs) (hm : (P.info? T).map (·.size) = some m) (hn : vs.length = n * m) (hmx : n ≤ maxLen) :
    HdE P X al ((k, some (T, cs)) :: bs) (E.set k W.heap.size (.slice (some ⟨W.heap.size, 0, none⟩) n n) false) a (W.alloc (.cells vs.toArray T)) := by
  have hx := ext_alloc W (.cells vs.toArray T)
  have hd : ¬ dom bs k := fun ⟨o, ho⟩ => by rw [hf] at ho; cases ho
  refine h.new hf (Env.le_set _ hd _ _ _) hx (fun _ => by rw [Env.set_A]; exact Nat.le_refl _) (fun own' ho => .inr ⟨Env.set_nl _ _ _ _ _, vs, [], m, n, n, ?_, ?_, hm, ?_, Nat.le_refl _, hmx, hn, by simpa using hn⟩)
  · rw [Env.set_A, List.append_nil]
    exact Blk.newAt rfl
  · exact hr.keeps (.of (fun r hr _ => hx.below.block r hr) hx.below.size ho) (Env.le_set _ hd _ _ _) dom_cons
  · rw [Env.set_A, Env.set_V]
/-- A row without a block. -/
theorem HdE.nilRow (h : HdE P X al bs E a W) (k : Nat) (T : TypeId) (hf : lk bs k = none) : HdE P X al ((k, some (T, [])) :: bs) (E.set k 0 (.slice none 0 0) true) a W :=
  have hd : ¬ dom bs k := fun ⟨o, ho⟩ => by rw [hf] at ho; cases ho
  h.new hf (Env.le_set _ hd _ _ _) (Ext.refl W) (fun hn => by rw [Env.set_nl] at hn; cases hn) (fun own' ho => .inl ⟨Env.set_nl _ _ _ _ _, rfl, Env.set_V _ _ _ _ _⟩)
theorem live_set {b b' : Nat} {en : TypeId × List AV} (hb : live E bs b) : live E ((b, some en) :: bs) b' ↔ live E bs b' := by
  by_cases he : b = b'
  · subst he
    unfold live
    rw [lk_self]
    exact ⟨fun h => ⟨hb.1, h.2⟩, fun h => ⟨⟨_, rfl⟩, h.2⟩⟩
  · exact live_ne (Env.le.refl _ _) he
theorem ownS_set {b : Nat} {en : TypeId × List AV} (hb : live E bs b) (r : Nat) : ownS E X.o ((b, some en) :: bs) r ↔ ownS E X.o bs r := by
  unfold ownS
  simp only [live_set hb]
/-- A block is written. -/
theorem HdE.store (h : HdE P X al bs E a W) {b : Nat} {T : TypeId} {cs cs' : List AV} {vs vs' sp : List Value} {W' : World} {m n c : Nat} (hb : lk bs b = some (some (T, cs))) (hnl : E.nl b = false) (hg : W.grownBy W' (some (E.A b)))
    (hB : Blk W' (E.A b) T (vs' ++ sp)) (hr : RAL E (dom bs) (ownS E X.o bs) W vs' cs') (hl : vs'.length = vs.length) (hm : (P.info? T).map (·.size) = some m) (hV : E.V b = .slice (some ⟨E.A b, 0, none⟩) n c) (hc : n ≤ c) (hmx : c ≤ maxLen) (h1 : vs.length = n * m) (h2 : (vs ++ sp).length = c * m) :
    HdE P X al ((b, some (T, cs')) :: bs) E a W' := by
  have hlb : live E bs b := ⟨⟨_, hb⟩, hnl⟩
  have k : Keeps (ownS E X.o bs) (ownS E X.o ((b, some (T, cs')) :: bs)) W W' :=
    .of (fun r hr ho => hg.block r hr (fun e => ho (.inr ⟨b, hlb, (Option.some.inj e).symm⟩))) hg.size (fun r _ ho => (ownS_set hlb r).1 ho)
  refine ⟨h.ext.grow hg (fun r hr => by cases hr; exact h.lo b hlb), h.o0, h.df.grow hg (fun r hr => by cases hr; exact h.blkOf hlb) rfl, h.sz, h.en.step (Env.le.refl _ _) dom_cons, fun n x hn => ?_, fun b' T' cs'' hc' => ?_, fun b' hl' => h.lo b' ((live_set hlb).1 hl'), fun b1 b2 hl1 hl2 he => h.nd b1 b2 ((live_set hlb).1 hl1) ((live_set hlb).1 hl2) he⟩
  · obtain ⟨v, h1, h2⟩ := h.sl n x hn
    exact ⟨v, h1, h2.keeps k (Env.le.refl _ _) dom_cons⟩
  · by_cases he : b = b'
    · subst he
      rw [lk_self] at hc'
      simp only [Option.some.injEq, Prod.mk.injEq] at hc'
      obtain ⟨rfl, rfl⟩ := hc'
      exact .inr ⟨hnl, vs', sp, m, n, c, hB, hr.keeps k (Env.le.refl _ _) dom_cons, hm, hV, hc, hmx, by rw [hl, h1], by rw [List.length_append, hl, ← List.length_append, h2]⟩
    · rw [lk_ne _ _ he] at hc'
      refine (h.bk b' T' cs'' hc').keeps k (Env.le.refl _ _) dom_cons ⟨_, hc'⟩ (fun hn => hg.block _ (h.live_lt ⟨⟨_, hc'⟩, hn⟩) (fun e => he ?_))
      exact (h.nd b b' hlb ⟨⟨_, hc'⟩, hn⟩ (Option.some.inj e).symm)
theorem live_none {b b' : Nat} (h : live E ((b, none) :: bs) b') : live E bs b' ∧ b' ≠ b := by
  obtain ⟨⟨en, h1⟩, h2⟩ := h
  by_cases he : b = b'
  · subst he
    rw [lk_self] at h1
    simp at h1
  · rw [lk_ne _ _ he] at h1
    exact ⟨⟨⟨en, h1⟩, h2⟩, fun e => he e.symm⟩
/-- A block is given up. -/
theorem HdE.drop (h : HdE P X al bs E a W) (b : Nat) : HdE P X al ((b, none) :: bs) E a W := by
  have ho : ∀ r, ownS E X.o ((b, none) :: bs) r → ownS E X.o bs r := by
    rintro r (ho | ⟨b', hl, rfl⟩)
    · exact .inl ho
    · exact .inr ⟨b', (live_none hl).1, rfl⟩
  have k : Keeps (ownS E X.o bs) (ownS E X.o ((b, none) :: bs)) W W := .of (fun r _ _ => rfl) (Nat.le_refl _) (fun r _ h => ho r h)
  refine ⟨h.ext, h.o0, h.df, h.sz, h.en.step (Env.le.refl _ _) dom_cons, fun n x hn => ?_, fun b' T' cs hc => ?_, fun b' hl => h.lo b' (live_none hl).1, fun b1 b2 h1 h2 he => h.nd b1 b2 (live_none h1).1 (live_none h2).1 he⟩
  · obtain ⟨v, h1, h2⟩ := h.sl n x hn
    exact ⟨v, h1, h2.keeps k (Env.le.refl _ _) dom_cons⟩
  · have hc0 : lk bs b' = some (some (T', cs)) := by
      by_cases he : b = b'
      · subst he
        rw [lk_self] at hc
        simp at hc
      · rw [lk_ne _ _ he] at hc
        exact hc
    exact (h.bk b' T' cs hc0).keeps k (Env.le.refl _ _) dom_cons ⟨_, hc0⟩ (fun _ => rfl)
/-- The rows of a list of cells. -/
theorem flat_at {α : Type} {m : Nat} : ∀ (rows : List (List α)) (i : Nat) (row : List α), (∀ r ∈ rows, r.length = m) → rows[i]? = some row → (rows.flatten.drop (i * m)).take m = row
  | [], i, row, _, h => by simp at h
  | r :: rows, 0, row, hm, h => by
    simp only [List.getElem?_cons_zero, Option.some.injEq] at h
    subst h
    have hr := hm r (List.mem_cons_self ..)
    rw [Nat.zero_mul, List.drop_zero, List.flatten_cons, List.take_append_of_le_length (by omega), ← hr, List.take_length]
  | r :: rows, i + 1, row, hm, h => by
    simp only [List.getElem?_cons_succ] at h
    have hr := hm r (List.mem_cons_self ..)
    have e := flat_at rows i row (fun x hx => hm x (List.mem_cons_of_mem _ hx)) h
    rw [List.flatten_cons, show (i + 1) * m = r.length + i * m by rw [hr, Nat.add_mul, Nat.one_mul, Nat.add_comm], ← List.drop_drop, List.drop_left]
    exact e
/-- A row that nobody changes any more is data. -/
theorem HdE.data (h : HdE P X al bs E a W) {b k m : Nat} {T : TypeId} {rows : List (List D)} {v : Value} (hb : lk bs b = some (some (T, rows.flatten.map .d))) (hm : ∀ r ∈ rows, r.length = m) (hsz : (P.info? T).map (·.size) = some m) (hk : k = rows.length) (hv : RA E (dom bs) (ownS E X.o bs) W v (.o b k)) : RD (ownS E X.o ((b, none) :: bs)) W v (.l rows) := by
  subst hk
  cases hv with
  | @o _ _ c p hb' hV =>
    rcases h.bk b T _ hb with ⟨h0, h1, h2⟩ | ⟨h0, vs, sp, m', n, c', h1, h2, h3, h4, h5, h6, h7, h8⟩
    · rw [hV] at h2
      simp only [Value.slice.injEq] at h2
      obtain ⟨rfl, h2, rfl⟩ := h2
      have hr0 := List.length_eq_zero_iff.1 h2
      subst hr0
      exact .nl
    · rw [hV] at h4
      simp only [Value.slice.injEq] at h4
      obtain ⟨rfl, rfl, rfl⟩ := h4
      have hmm : m' = m := by rw [hsz] at h3; exact (Option.some.inj h3).symm
      subst hmm
      have hl : live E bs b := ⟨⟨_, hb⟩, h0⟩
      have ho : ∀ r, ownS E X.o ((b, none) :: bs) r → ownS E X.o bs r := by
        rintro r (ho | ⟨b', hl, rfl⟩)
        · exact .inl ho
        · exact .inr ⟨b', (live_none hl).1, rfl⟩
      have kk : Keeps (ownS E X.o bs) (ownS E X.o ((b, none) :: bs)) W W := .of (fun r _ _ => rfl) (Nat.le_refl _) (fun r _ h => ho r h)
      have h2' := h2.unmap
      refine .l (m := m') (fun i => (vs.drop (i * m')).take m') rfl h5 h6 h1.lt ?_ (fun i row hi => hm row (List.mem_of_getElem? hi)) ?_ ?_
      · rintro (hh | ⟨b', hl', he⟩)
        · have h6 := h.o0 _ hh
          rcases h.lo b hl with h7 | h7
          · omega
          · exact h6.2 h7
        · exact (live_none hl').2 (h.nd b' b (live_none hl').1 hl he)
      · intro i row hi
        have hlt : i < rows.length := (List.getElem?_eq_some_iff.1 hi).1
        have hle : i * m' + m' ≤ vs.length := by
          rw [h7, ← Nat.succ_mul]
          exact Nat.mul_le_mul_right _ hlt
        intro j u hu
        have hj : j < m' := by
          have := (List.getElem?_eq_some_iff.1 hu).1
          simp only [List.length_take, List.length_drop] at this
          omega
        rw [List.getElem?_take_of_lt hj, List.getElem?_drop] at hu
        rw [h1.cell, Nat.zero_add, List.getElem?_append_left (by omega)]
        exact hu
      · intro i row hi
        rw [← flat_at rows i row hm hi]
        exact ((h2'.drop _).take _).keeps kk
/-! ### Stores -/
theorem Blk.splice {r : Nat} {T : TypeId} {post : List Value} : ∀ (cs : List Value) (w : World) (pre old : List Value), Blk w r T (pre ++ (old ++ post)) → old.length = cs.length → Blk (w.setCells r pre.length cs) r T (pre ++ (cs ++ post)) ∧ w.grownBy (w.setCells r pre.length cs) (some r)
  | [], w, pre, old, h, hl => by
    obtain rfl : old = [] := List.length_eq_zero_iff.1 hl
    exact ⟨h, grown_ext (Ext.refl w) _⟩
  | v :: cs, w, pre, old, h, hl => by
    cases old with
    | nil => simp at hl
    | cons x old =>
      have h1 := h.set pre.length v
      rw [List.set_append_right _ _ (Nat.le_refl _), Nat.sub_self, List.cons_append, List.set_cons_zero] at h1
      have h2 : Blk (w.setCell ⟨r, pre.length, none⟩ v) r T ((pre ++ [v]) ++ (old ++ post)) := by simpa using h1
      have := Blk.splice cs _ (pre ++ [v]) old h2 (by simpa using hl)
      rw [List.length_append, List.append_assoc] at this
      exact ⟨this.1, grown_trans (grown_set _ _ _ _) this.2⟩
theorem run_storeVar_vs (w : World) (b o : Nat) (ty : TypeId) (v : Value) (vs : List Value) (hv : v.cells.toList = vs) (ht : w.there b o vs.length) (hi : (P.info? ty).map (·.size) = some vs.length) (h1 : vs.all (·.oneCell') = true) :
    (storeVar ty ⟨b, o, none⟩ v).run P w = .ok () (w.setCells b o vs) := by
  have := run_storeCells_cells (P := P) b o vs 0 w (fun j hj => by simpa using (ht j (by simpa using hj)).1) (fun j hj => by simpa using (ht j (by simpa using hj)).2)
    (fun v hv => (List.all_eq_true.1 h1) v hv)
  cases hq : P.info? ty with
  | none => simp [hq] at hi
  | some i =>
    have hs : vs.length = i.size := by simp [hq] at hi; omega
    have hs2 : v.cells.size = i.size := by rw [← hs, ← hv]; simp
    simp only [Nat.add_zero] at this
    simp [storeVar, sizeOf, typeInfo, hq, hs2, hv, this]
/-- The cells that a value takes. -/
def AV.cells : AV → List AV
  | .d (.st ds) => ds.map .d
  | .st cs => cs
  | x => [x]
/-- One cell? -/
def D.cell : D → Bool
  | .s _ | .l _ | .pe _ _ | .fn _ _ => true
  | _ => false
def AV.cell : AV → Bool
  | .d x => x.cell
  | .p _ _ | .o _ _ | .vw _ _ _ _ | .fn _ _ => true
  | _ => false
section
variable {dm own : Nat → Prop} {v : Value} {x : AV}
theorem RD.cell {d : D} (h : RD own W v d) (hc : d.cell = true) : v.oneCell' = true := by
  cases h with
  | s h => exact h
  | nl => rfl
  | l => rfl
  | st => cases hc
  | tup => cases hc
  | pe => rfl
  | fn => rfl
theorem RA.cell (h : RA E dm own W v x) (hc : x.cell = true) : v.oneCell' = true := by
  cases h with
  | d h => exact h.cell hc
  | p => rfl
  | o => rfl
  | vw => rfl
  | st => cases hc
  | tup => cases hc
  | fn => rfl
  | gd => cases hc
  | any => cases hc
theorem RA.cellsOf (h : RA E dm own W v x) (hc : x.cells.all AV.cell = true) : RAL E dm own W v.cells.toList x.cells ∧ v.cells.toList.all (·.oneCell') = true := by
  have key : ∀ {vs : List Value} {cs : List AV}, RAL E dm own W vs cs → cs.all AV.cell = true → vs.all (·.oneCell') = true := by
    intro vs
    induction vs with
    | nil => intros; rfl
    | cons u vs ih =>
      intro cs h hc
      cases h with
      | cons h t =>
        simp only [List.all_cons, Bool.and_eq_true] at hc ⊢
        exact ⟨h.cell hc.1, ih t hc.2⟩
  have h2 : RAL E dm own W v.cells.toList x.cells := by
    cases h with
    | d h =>
      cases h with
      | s h1 =>
        have : v.cells.toList = [v] := by cases v <;> simp_all [Value.cells, Value.oneCell']
        rw [this]
        exact .cons (.d (.s h1)) .nil
      | nl => exact .cons (.d .nl) .nil
      | l f hn hc' hm hr ho h1 h2 h3 => exact .cons (.d (.l f hn hc' hm hr ho h1 h2 h3)) .nil
      | st h => exact RAL.map h
      | tup h => simp [AV.cells, AV.cell, D.cell] at hc
      | pe h1 h2 h3 h4 => exact .cons (.d (.pe h1 h2 h3 h4)) .nil
      | fn h => exact .cons (.d (.fn h)) .nil
    | p h1 h2 => exact .cons (.p h1 h2) .nil
    | o h1 h2 => exact .cons (.o h1 h2) .nil
    | vw h1 h2 h3 h4 h5 => exact .cons (.vw h1 h2 h3 h4 h5) .nil
    | st h => exact h
    | tup h => simp [AV.cells, AV.cell] at hc
    | fn h => exact .cons (.fn h) .nil
    | gd => simp [AV.cells, AV.cell] at hc
    | any => simp [AV.cells, AV.cell] at hc
  exact ⟨h2, key h2 hc⟩
end
theorem RAL.split {dm own : Nat → Prop} : ∀ (off : Nat) {vs : List Value} {cs ys : List AV} {us : List Value}, RAL E dm own W vs cs → RAL E dm own W us ys → RAL E dm own W (vs.take off ++ (us ++ vs.drop (off + us.length))) (cs.take off ++ (ys ++ cs.drop (off + ys.length))) := by
  intro off vs cs ys us h h'
  have := h'.len
  rw [← this]
  exact (h.take off).app (h'.app (h.drop _))
/-- A value is stored into a block of one's own. -/
theorem HdE.stored (h : HdE P X al bs E a W) {b off N : Nat} {T T' : TypeId} {cs : List AV} {p v : Value} {y : AV} (hb : lk bs b = some (some (T', cs))) (hx : RA E (dom bs) (ownS E X.o bs) W p (.p b off)) (hy : RA E (dom bs) (ownS E X.o bs) W v y)
    (hT : (P.info? T).map (·.size) = some N) (hN : y.cells.length = N) (hc : y.cells.all AV.cell = true) (hle : off + N ≤ cs.length) :
    ∃ W', (Instr.storeAt T p v).run P W = .ok () W' ∧ HdE P X al ((b, some (T', cs.take off ++ (y.cells ++ cs.drop (off + y.cells.length)))) :: bs) E a W' := by
  obtain ⟨g1, g2⟩ := hy.cellsOf hc
  cases hx with
  | p hb' hn =>
    obtain ⟨vs, sp, m, n, c, h1, h2, h3, h4, h5, h6, h7, h8⟩ := h.blk hb hn
    have hlv := h2.len
    have hlu := g1.len
    have he : vs ++ sp = vs.take off ++ ((vs.drop off).take N ++ (vs.drop (off + N) ++ sp)) := by
      rw [← List.append_assoc ((vs.drop off).take N), ← List.drop_drop, List.take_append_drop, ← List.append_assoc, List.take_append_drop]
    have h1' := h1
    rw [he] at h1'
    have hlo : (vs.take off).length = off := by simp; omega
    have hl2 : ((vs.drop off).take N).length = v.cells.toList.length := by rw [hlu, hN]; simp; omega
    have hs := Blk.splice v.cells.toList W _ _ h1' hl2
    rw [hlo] at hs
    have hth : W.there (E.A b) off v.cells.toList.length := fun j hj => by
      rw [h1.cell (off + j), List.getElem?_eq_getElem (by simp only [List.length_append]; omega)]
      exact ⟨rfl, h1.frozen _⟩
    refine ⟨_, ?_, h.store (vs := vs) (vs' := vs.take off ++ (v.cells.toList ++ vs.drop (off + v.cells.toList.length))) (sp := sp) hb hn hs.2 ?_ (RAL.split off h2 g1) ?_ h3 h4 h5 h6 h7 h8⟩
    · simp only [Instr.storeAt, Instr.sureAddr, Sem.run_bind, Sem.run_pure, Result.andThen_ok]
      exact run_storeVar_vs W (E.A b) off T v _ rfl hth (by rw [hT, hlu, hN]) g2
    · rw [hlu, hN]
      simpa using hs.1
    · simp only [List.length_append, List.length_take, List.length_drop]
      omega
end

end Go.Proofs.Ytohpbfcechbngaa
