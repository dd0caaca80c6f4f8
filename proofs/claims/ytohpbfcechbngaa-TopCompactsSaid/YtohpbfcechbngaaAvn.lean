/- Cells told otherwise. -/
import Derived.Test.YtohpbfcechbngaaAvm
set_option linter.unusedSimpArgs false
set_option linter.unusedVariables false
namespace Go.Proofs.Ytohpbfcechbngaa
open Go.RowKit

section
variable {P : Program} {X : Cx} {al : List (Nat × AV)} {bs : Bs} {E : Env} {a : Act} {W : World}
/-- An element's place; the index is told in whatever way. -/
theorem Rd.ixv {T : TypeId} {x y : Operand} {k : IntKind} {e sz : Nat} {rows : List (List D)} {row : List D} {i : Int} (j : Nat) (hrow : rows[j]? = some row) [hT : TSl P T e sz] (hx : Evd al x (.d (.l rows)) := by exact ⟨_, rfl, by (try (apply Und.gd; assumption; try (apply Und.gd; assumption; try (apply Und.gd; assumption)))); exact Und.refl _⟩) (hy : Evd al y (.d (.s (.int k i))) := by exact ⟨_, rfl, by (try (apply Und.gd; assumption; try (apply Und.gd; assumption; try (apply Und.gd; assumption)))); exact Und.refl _⟩) (hi : i = j := by first | rfl | omega) (hsz : row.length = sz := by first | rfl | assumption) :
    Rd P X al bs [] (.indexAddr T x y) (.e row 0) := Rd.ixl j hrow hi hsz hx hy
/-- An element's place in a row of one's own. -/
theorem Rd.ixov {T T' b n : Nat} {x y : Operand} {k : IntKind} {e sz : Nat} {cs : List AV} {i : Int} (j : Nat) (hj : j < n) [hT : TSl P T e sz] (hx : Evd al x (.o b n) := by exact ⟨_, rfl, by (try (apply Und.gd; assumption; try (apply Und.gd; assumption; try (apply Und.gd; assumption)))); exact Und.refl _⟩) (hb : lk bs b = some (some (T', cs)) := by rfl) (hy : Evd al y (.d (.s (.int k i))) := by exact ⟨_, rfl, by (try (apply Und.gd; assumption; try (apply Und.gd; assumption; try (apply Und.gd; assumption)))); exact Und.refl _⟩) (hi : i = j := by first | rfl | omega) :
    Rd P X al bs [b] (.indexAddr T x y) (.p b (j * sz)) := Rd.ixo j hi hj hx hb hy
/-- An element of a row of one's own is read. -/
theorem Rd.ldR {T T' b N : Nat} {x : Operand} {rows : List (List D)} {row : List D} (j : Nat) (hrow : rows[j]? = some row) [hT : TRw P T N] (hm : ∀ r ∈ rows, r.length = N) (hx : Evd al x (.p b (j * N)) := by exact ⟨_, rfl, by (try (apply Und.gd; assumption; try (apply Und.gd; assumption; try (apply Und.gd; assumption)))); exact Und.refl _⟩) (hb : lk bs b = some (some (T', rows.flatten.map .d)) := by rfl) : Rd P X al bs [b] (.load T x) (.d (.st row)) :=
  Rd.ldpP (ds := row) hx hb (by rw [← List.map_drop, ← List.map_take, flat_at rows j row hm hrow]) (hm row (List.mem_of_getElem? hrow))
/-- A store into an element of a row of one's own, the element's data found first. -/
theorem LT.stRv {T : TypeId} {x y : Operand} {b T' N : Nat} {rows : List (List D)} {row : List D} (j : Nat) [hT : TZs P T N] (hm : ∀ r ∈ rows, r.length = N) (hj : j < rows.length) (hx : ev al x = some (.p b (j * N)) := by rfl) (hy : ev al y = some (.d (.st row)) := by rfl) (hb : lk bs b = some (some (T', rows.flatten.map .d)) := by rfl) (hN : row.length = N := by rfl) (hc : row.all D.cell = true := by rfl) : LT P X al bs (.store T x y) none [b] [] [(b, some (T', (rows.set j row).flatten.map .d))] :=
  LT.stRow j hm hj hN hc hx hy hb
theorem flat_get1 {α : Type} {N f : Nat} {row : List α} (hf : f < N) : ∀ (rows : List (List α)) (j : Nat), (∀ r ∈ rows, r.length = N) → rows[j]? = some row → rows.flatten[j * N + f]? = row[f]?
  | [], j, _, h => by simp at h
  | r :: rows, 0, hm, h => by
    simp only [List.getElem?_cons_zero, Option.some.injEq] at h
    subst h
    rw [List.flatten_cons, Nat.zero_mul, Nat.zero_add, List.getElem?_append_left (by rw [hm r (List.mem_cons_self ..)]; exact hf)]
  | r :: rows, j + 1, hm, h => by
    rw [List.getElem?_cons_succ] at h
    have h1 := hm r (List.mem_cons_self ..)
    rw [List.flatten_cons, List.getElem?_append_right (by rw [h1, Nat.add_mul]; omega), h1, show (j + 1) * N + f - N = j * N + f by rw [Nat.add_mul]; omega]
    exact flat_get1 hf rows j (fun x hx => hm x (List.mem_cons_of_mem _ hx)) h
theorem flat_set1 {α : Type} {N f : Nat} {row : List α} {d : α} (hf : f < N) : ∀ (rows : List (List α)) (j : Nat), (∀ r ∈ rows, r.length = N) → rows[j]? = some row → rows.flatten.set (j * N + f) d = (rows.set j (row.set f d)).flatten
  | [], j, _, h => by simp at h
  | r :: rows, 0, hm, h => by
    simp only [List.getElem?_cons_zero, Option.some.injEq] at h
    subst h
    rw [List.flatten_cons, Nat.zero_mul, Nat.zero_add, List.set_append_left _ _ (by rw [hm r (List.mem_cons_self ..)]; exact hf)]
    rfl
  | r :: rows, j + 1, hm, h => by
    rw [List.getElem?_cons_succ] at h
    have h1 := hm r (List.mem_cons_self ..)
    rw [List.flatten_cons, List.set_append_right _ _ (by rw [h1, Nat.add_mul]; omega), h1, show (j + 1) * N + f - N = j * N + f by rw [Nat.add_mul]; omega, flat_set1 hf rows j (fun x hx => hm x (List.mem_cons_of_mem _ hx)) h]
    rfl
/-- A field of an element of a row of one's own is read. -/
theorem Rd.ldF {T T' b N off : Nat} {x : Operand} {rows : List (List D)} {row : List D} {d : D} (j f : Nat) (hrow : rows[j]? = some row) [hT : TSc P T] (hm : ∀ r ∈ rows, r.length = N) (hx : Evd al x (.p b off) := by exact ⟨_, rfl, by (try (apply Und.gd; assumption; try (apply Und.gd; assumption; try (apply Und.gd; assumption)))); exact Und.refl _⟩) (hb : lk bs b = some (some (T', rows.flatten.map .d)) := by rfl) (ho : off = j * N + f := by first | rfl | omega) (hf : f < N := by decide) (hd : row[f]? = some d := by rfl) : Rd P X al bs [b] (.load T x) (.d d) :=
  Rd.ldp hx hb (by subst ho; rw [List.getElem?_map, flat_get1 hf rows j hm hrow, hd]; rfl)
/-- A field of an element of a row of one's own is stored. -/
theorem LT.stF {T T' b N off : Nat} {x y : Operand} {rows : List (List D)} {row : List D} {d : D} (j f : Nat) (hrow : rows[j]? = some row) [hT : TZs P T 1] (hm : ∀ r ∈ rows, r.length = N) (hx : ev al x = some (.p b off) := by rfl) (hy : ev al y = some (.d d) := by rfl) (hb : lk bs b = some (some (T', rows.flatten.map .d)) := by rfl) (ho : off = j * N + f := by first | rfl | omega) (hf : f < N := by decide) (hc : d.cell = true := by rfl) (hu : (AV.d d).cells = [AV.d d] := by rfl) : LT P X al bs (.store T x y) none [b] [] [(b, some (T', (rows.set j (row.set f d)).flatten.map .d))] := by
  have hlt : j * N + f < (rows.flatten.map AV.d).length := by
    have h2 := flat_get1 hf rows j hm hrow
    have h3 : row[f]? = some (row[f]'(by rw [hm row (List.mem_of_getElem? hrow)]; exact hf)) := List.getElem?_eq_getElem _
    rw [h3] at h2
    rw [List.length_map]
    exact (List.getElem?_eq_some_iff.1 h2).1
  haveI : LSet (rows.flatten.map AV.d) off (AV.d d) ((rows.set j (row.set f d)).flatten.map AV.d) := ⟨by rw [ho, ← List.map_set, flat_set1 hf rows j hm hrow]⟩
  exact LT.sts hx hy hb hu hc (by rw [ho]; simpa using hlt)
theorem GD.gTt {Q : Exit → Act → World → Prop} {op : Op} {dst : Option Nat} {ty : TypeId} {ps : String} {af : Array Edge} {rest l : List Oper} {id : Nat} {al0 : List (Nat × AV)} {bs0 : Bs} {sts : List Stp} {rb : List Nat} {s : Nat × AV} {j dj : Nat} (h : GD P X l Q id al0 bs0 (sts ++ [⟨dj :: opT op, [s.1], rb, []⟩]) (s :: al) bs rest) (hj : (l[j]?).bind (·.dst) = some dj) (hs : lk al dj = some (.d (.s (.bool true)))) (lt : LT P X al bs op dst rb [s] []) :
    GD P X l Q id al0 bs0 sts al bs ({ dst := dst, op := op, type := ty, pos := ps, after := af, guard := some (j, true) } :: rest) := GD.g1 h lt hs rfl hj
theorem ClB.d {p : Nat → Bool} {b T : Nat} {ds : List D} {l : Bs} (h : ClB p l) : ClB p ((b, some (T, ds.map .d)) :: l) := ⟨ClE.some (numsL_d _ _), h⟩
/-- A guard that is plainly there. -/
theorem G.gTt {ro : Option Nat} {Q : Exit → Act → World → Prop} {op : Op} {dst : Option Nat} {ty : TypeId} {ps : String} {af : Array Edge} {rest l : List Oper} {j dj : Nat} (h : G P X al bs (WL P ro l.toArray Q ({ dst := dst, op := op, type := ty, pos := ps, after := af, guard := none } :: rest))) (hj : (l[j]?).bind (·.dst) = some dj) (hs : lk al dj = some (.d (.s (.bool true)))) :
    G P X al bs (WL P ro l.toArray Q ({ dst := dst, op := op, type := ty, pos := ps, after := af, guard := some (j, true) } :: rest)) := G.gT h hs rfl hj
/-- A guard that is plainly there: what it wants is false. -/
theorem G.gTn {ro : Option Nat} {Q : Exit → Act → World → Prop} {op : Op} {dst : Option Nat} {ty : TypeId} {ps : String} {af : Array Edge} {rest l : List Oper} {j dj : Nat} (h : G P X al bs (WL P ro l.toArray Q ({ dst := dst, op := op, type := ty, pos := ps, after := af, guard := none } :: rest))) (hj : (l[j]?).bind (·.dst) = some dj) (hs : lk al dj = some (.d (.s (.bool false)))) :
    G P X al bs (WL P ro l.toArray Q ({ dst := dst, op := op, type := ty, pos := ps, after := af, guard := some (j, false) } :: rest)) := G.gT h hs rfl hj
/-- A block's cells are told otherwise. -/
theorem HdE.tellB (h : HdE P X al bs E a W) {b T : Nat} {cs cs' : List AV} (hb : lk bs b = some (some (T, cs))) (hn : cs = [] → cs' = []) (hc : ∀ vs, RAL E (dom bs) (ownS E X.o bs) W vs cs → RAL E (dom bs) (ownS E X.o bs) W vs cs') : HdE P X al ((b, some (T, cs')) :: bs) E a W := by
  have hdm : ∀ k, dom ((b, some (T, cs')) :: bs) k → dom bs k := fun k ⟨y, hy⟩ => by
    by_cases he : b = k
    · subst he; exact ⟨_, hb⟩
    · rw [lk_ne _ _ he] at hy; exact ⟨y, hy⟩
  have hl : ∀ k, live E ((b, some (T, cs')) :: bs) k → live E bs k := fun k ⟨⟨q, hq⟩, h2⟩ => by
    by_cases he : b = k
    · subst he; exact ⟨⟨_, hb⟩, h2⟩
    · rw [lk_ne _ _ he] at hq; exact ⟨⟨q, hq⟩, h2⟩
  have ho : ∀ r, ownS E X.o ((b, some (T, cs')) :: bs) r → ownS E X.o bs r := by
    rintro r (h1 | ⟨k, h1, rfl⟩)
    · exact .inl h1
    · exact .inr ⟨k, hl k h1, rfl⟩
  have k : Keeps (ownS E X.o bs) (ownS E X.o ((b, some (T, cs')) :: bs)) W W := .of (fun _ _ _ => rfl) (Nat.le_refl _) (fun r _ h => ho r h)
  refine ⟨h.ext, h.o0, h.df, h.sz, h.en.step (Env.le.refl _ _) dom_cons, fun n x hx => ?_, fun k' T' cs'' hk => ?_, fun k' hk => h.lo k' (hl k' hk), fun k1 k2 h1 h2 => h.nd k1 k2 (hl k1 h1) (hl k2 h2)⟩
  · obtain ⟨v, h1, h2⟩ := h.sl n x hx
    exact ⟨v, h1, h2.keeps k (Env.le.refl _ _) dom_cons⟩
  · by_cases he : b = k'
    · subst he
      rw [lk_self] at hk
      simp only [Option.some.injEq, Prod.mk.injEq] at hk
      obtain ⟨rfl, rfl⟩ := hk
      rcases h.bk b T cs hb with ⟨e1, e2, e3⟩ | ⟨e0, vs, sp, m, n, c, e1, e2, e3⟩
      · exact .inl ⟨e1, hn e2, e3⟩
      · exact .inr ⟨e0, vs, sp, m, n, c, e1, (hc vs e2).keeps k (Env.le.refl _ _) dom_cons, e3⟩
    · rw [lk_ne _ _ he] at hk
      exact (h.bk k' T' cs'' hk).turn rfl rfl rfl (fun _ => rfl) (fun vs hr => hr.keeps k (Env.le.refl _ _) dom_cons)
/-- A variable's data are told by words that say less. -/
theorem G.leB {c : Act → World → Prop} (b : Nat) {T : Nat} {ds : List D} (es : List D) (hl : DL.le ds es) (h : G P X al ((b, some (T, es.map .d)) :: bs) c) (hb : lk bs b = some (some (T, ds.map .d)) := by rfl) : G P X al bs c := fun E a W hh => by
  refine h _ a W (hh.tellB hb (fun e => ?_) (fun vs hr => RAL.map (hl _ _ _ hr.unmap)))
  have h1 : ds = [] := List.map_eq_nil_iff.1 e
  subst h1
  have := hl (fun _ => False) W [] .nil
  cases this
  rfl
/-- A variable that holds nil holds a row of one's own. -/
theorem G.nilCell {c : Act → World → Prop} (b q T : Nat) {T0 : Nat} (h : G P X al ((b, some (T0, [.o q 0])) :: (q, some (T, ([] : List (List D)).flatten.map .d)) :: bs) c) (hf : lk bs q = none := by rfl) (hb : lk bs b = some (some (T0, [.d (.s (.slice none 0 0))])) := by rfl) : G P X al bs c := fun E a W hh => by
  have hne : q ≠ b := fun e => by subst e; rw [hf] at hb; cases hb
  refine h _ a W ((hh.nilRow q T hf).tellB (cs := [.d (.s (.slice none 0 0))]) (by rw [lk_ne _ _ hne]; exact hb) (fun e => by cases e) (fun vs hr => ?_))
  cases hr with
  | cons h1 h2 =>
    cases h2
    obtain rfl := h1.scalar
    exact .cons (.o ⟨_, lk_self _ _ _⟩ (by rw [Env.set_V])) .nil
/-- A variable's row is not changed any more. -/
theorem G.frzC {c : Act → World → Prop} (b q : Nat) {T0 T k m : Nat} {rows : List (List D)} [hT : TZs P T m] (h : G P X al ((b, some (T0, [.d (.l rows)])) :: (q, none) :: bs) c) (hm : ∀ r ∈ rows, r.length = m) (hk : k = rows.length) (hb : lk bs b = some (some (T0, [.o q k])) := by rfl) (hq : lk bs q = some (some (T, rows.flatten.map .d)) := by rfl) : G P X al bs c := fun E a W hh => by
  have hne : q ≠ b := fun e => by
    subst e
    rw [hb] at hq
    simp only [Option.some.injEq, Prod.mk.injEq] at hq
    obtain ⟨_, h2⟩ := hq
    have := congrArg List.head? h2
    cases hfl : rows.flatten with
    | nil => rw [hfl] at h2; cases h2
    | cons y ys => rw [hfl] at h2; cases h2
  refine h _ a W ((hh.drop q).tellB (T := T0) (cs := [.o q k]) (by rw [lk_ne _ _ hne]; exact hb) (fun e => by cases e) (fun vs hr => ?_))
  have hd : ∀ b', dom ((q, none) :: bs) b' → dom bs b' := fun b' ⟨y, hy⟩ => by
    by_cases he : q = b'
    · subst he; exact ⟨_, hq⟩
    · rw [lk_ne _ _ he] at hy; exact ⟨y, hy⟩
  cases hr with
  | cons h1 h2 =>
    cases h2
    refine .cons (.d (hh.data hq hm hT.h hk ?_)) .nil
    cases h1 with
    | o g1 g2 => exact .o (hd _ g1) g2
end
mutual
theorem AV.nums_mono {p q : Nat → Bool} (h : ∀ b, p b = true → q b = true) : ∀ x : AV, x.nums p = true → x.nums q = true
  | .p b _, e => h b e
  | .o b _, e => h b e
  | .vw b _ _ _, e => h b e
  | .st cs, e => AV.numsL_mono h cs e
  | .tup cs, e => AV.numsL_mono h cs e
  | .fn _ cs, e => AV.numsL_mono h cs e
  | .gd _ _ x, e => AV.nums_mono h x e
  | .d _, _ => rfl
  | .any, _ => rfl
theorem AV.numsL_mono {p q : Nat → Bool} (h : ∀ b, p b = true → q b = true) : ∀ xs : List AV, AV.numsL p xs = true → AV.numsL q xs = true
  | [], _ => rfl
  | x :: xs, e => by
    simp only [AV.numsL, Bool.and_eq_true] at e ⊢
    exact ⟨AV.nums_mono h x e.1, AV.numsL_mono h xs e.2⟩
end
/-- One variable more. -/
theorem Is.cl6 {c : Nat → Option (TypeId × List AV)} {T : TypeId} {ds : List D} (h : ∀ j, ClE inI (c j)) : ClB (inB ((6, some (T, ds.map .d)) :: Is c)) ((6, some (T, ds.map .d)) :: Is c) := by
  have m : ∀ j, ClE (inB ((6, some (T, ds.map .d)) :: Is c)) (c j) := fun j T' cs e => AV.numsL_mono (fun b hb => by
    unfold inI inB Is at hb
    unfold inB Is
    simp only [List.any_cons, List.any_nil, Bool.or_eq_true] at hb ⊢
    exact .inr hb) cs (h j T' cs e)
  exact ⟨.some (numsL_d _ _), m 0, m 1, m 2, m 3, m 4, m 5, trivial⟩
/-- Words that are data, functions by name among them. -/
class PlF (cs : List AV) (ds : outParam (List D)) : Prop where
  h : ∀ {E : Env} {dm own : Nat → Prop} {W : World} {vs : List Value}, RAL E dm own W vs cs → RL own W vs ds
instance : PlF [] [] := ⟨fun h => by cases h; exact .nil⟩
instance {x : D} {cs : List AV} {ds : List D} [i : PlF cs ds] : PlF (.d x :: cs) (x :: ds) := ⟨fun h => by
  cases h with
  | cons h t =>
    cases h with
    | d h => exact .cons h (i.h t)⟩
instance {K : Nat} {cs : List AV} {ds : List D} [i : PlF cs ds] : PlF (.fn K [] :: cs) (.fn K [] :: ds) := ⟨fun h => by
  cases h with
  | cons h t =>
    cases h with
    | @fn _ us _ hc =>
      cases hc
      exact .cons (.fn .nil) (i.h t)⟩
/-- A call that is given a function by name. -/
theorem LT.ceF {P : Program} {X : Cx} {al : List (Nat × AV)} {bs : Bs} {K d : Nat} {args : List Operand} {ats : Array TypeId} {xs : List AV} {ds : List D} {r : D} (hf : Fn P K ds (· = r)) (he : EvL al args xs) (hp : PlF xs ds) (hd : Nat.blt d X.N = true) :
    LT P X al bs (.call { callee := .value (.func K), args := args.toArray, argTypes := ats }) (some d) [] [(d, .d r)] [] := fun ro al2 bs2 hL hB E a W hh o ho hdst Kc Q hK => by
  have hr := hp.h (hh.evsOk (EvL.loc hL (fun x hx => by simp [Op.operands, Call.operands, hx]) he))
  refine WO.of (by rw [ho]; intro c h; cases h) ?_
  unfold execOp
  have hrun : (do let dd ← resolve a.eval { callee := .value (.func K), args := args.toArray, argTypes := ats } o.type; invoke dd.target dd.args : Sem Next).run P W = .ok (.enter K (args.map a.eval).toArray) W := by
    simp [resolve, Deferred.ofValue, Act.eval, invoke, callFunc_enter hf.1]
  simp only [ho]
  rw [hrun]
  rw [Oper.uponIn_enter]
  refine ⟨(fun hq => by cases hq), (callsIn_wide (n := 0)).2 ((hf.2 (ownS E X.o bs2) W _ (fun r ho => hh.own_lt ho) hr).mono ?_)⟩
  rintro e W' ⟨v, x, rfl, hx, hE, hv⟩
  dsimp only
  rw [hdst]
  subst hx
  exact hK E _ W' ((hh.grow hE).put (.d hv) (by simpa using hd))
/-- A literal that will be written on: a row of one's own. -/
theorem LT.bsO {P : Program} {X : Cx} {al : List (Nat × AV)} {bs : Bs} {t e size bytes n d k : Nat} {parts : List (Nat × Operand)} {rows : List (List D)} [hT : TAp P t e size bytes] (hp : EvR al parts rows) (hm : ∀ r ∈ rows, r.length = size) (hi : parts.map (·.1) = List.range' 0 parts.length := by rfl) (hn : parts.length = n := by rfl) (h0 : Nat.blt 0 n = true := by rfl) (hb : Nat.ble (n * size) 10000 = true := by rfl) (hk : bs.length = k := by simp only [List.length_cons, List.length_nil, Nat.reduceAdd]; rfl) (hf : lk bs k = none := by rfl) (hd : Nat.blt d X.N = true := by rfl) :
    LT P X al bs (.buildSlice t n parts.toArray) (some d) [k] [(d, .o k n)] [(k, some (e, rows.flatten.map .d))] := fun ro al2 bs2 hL hB E a W hh o ho hdst K Q hK => by
  have hf2 : lk bs2 k = none := (hB k (List.mem_cons_self ..)).trans hf
  obtain ⟨i0, z, hu, hie, hz, hsz, hbs, hzs, hpos⟩ := hT.h
  have hp2 := EvR.loc hL (fun p hp => by simp [Op.operands]; exact ⟨_, hp⟩) hp
  have hlen := hp2.len
  have hrl := hp2.rl hh
  have hsz2 := hp2.sz hh hm
  simp only [Nat.ble_eq] at hb
  have h0' : 0 < n := by simpa using h0
  have hns : 0 < n * size := Nat.mul_pos h0' hpos
  generalize hvs : parts.map (fun p => a.eval p.2) = vs at hrl hsz2
  have hvl : vs.length = n := by rw [← hvs, List.length_map, hn]
  generalize hfl : vs.flatMap (fun v => v.cells.toList) = flat at hrl
  have hflen : flat.length = n * size := by rw [hrl.len, flat_len rows hm, ← hlen, hn]
  have hpz : parts.map (fun p => (p.1, a.eval p.2)) = (vs.zipIdx 0).map fun x => (x.2, x.1) := by
    have := parts_zip (parts.map (fun p => (p.1, a.eval p.2))) 0 (by simpa [Function.comp_def] using hi)
    rw [this, List.map_map, ← hvs]
    rfl
  have hfill := Great.fill_whole hpos vs ((Array.range (n * i0.size)).map (z.cells[· % z.cells.size]!)) hsz2 (by rw [hvl, hsz]; simp)
  rw [hfl] at hfill
  have hrun := run_buildSlice (P := P) W t e n (parts.toArray.map fun (i, x) => (i, a.eval x)) flat.toArray i0 z hu hie hz (by rw [hsz]; omega) (by rw [hsz]; omega) (by rw [hsz] at hfill ⊢; simpa [hpz] using hfill)
  have hh' := hh.alloc (T := e) (n := n) (m := size) hf2 (RAL.map hrl) (by rw [hie, Option.map_some, hsz]) hflen (by
    unfold maxLen
    have : n * 1 ≤ n * size := Nat.mul_le_mul_left _ hpos
    omega)
  refine WO.of (by rw [ho]; intro c h; cases h) ?_
  unfold execOp
  simp only [ho, Sem.run_bind, hrun, Result.andThen_ok, Sem.run_pure]
  dsimp only [Oper.uponIn]
  rw [hdst]
  exact hK _ _ _ (hh'.put (.o ⟨_, lk_self _ _ _⟩ (by rw [Env.set_V])) (by simpa using hd))
theorem Iter.of {P : Program} {fd : D} {xs : List D} (h : ∀ (C : Cx → Prop), Cc C → ∀ (l : Nat) (c : Nat → Nat → Option (TypeId × List AV)), (∀ i j, ClE inI (c i j)) → (∀ i x, xs[i]? = some x → FvB P C (yv l) [.d x] (Is (c i)) (.d (.s (.bool true))) (Is (c (i + 1)))) → FvB P C (.d fd) [yv l] (Is (c 0)) .any (Is (c xs.length))) : Iter P fd xs := h
end Go.Proofs.Ytohpbfcechbngaa
