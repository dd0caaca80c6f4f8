/- Further steps of the walk: nil told, cells that hold rows, parts of rows, numbers converted. -/
import Derived.Test.YtohpbfcechbngaaAvp
import Derived.Lib.SliceRun
import Derived.Laws.MakeOwn
import Derived.Laws.Shifts
set_option linter.unusedSimpArgs false
set_option linter.unusedVariables false
namespace Go.Proofs.Ytohpbfcechbngaa
open Go.RowKit

/-- An empty literal: a row of one's own. -/
theorem LT.bs0 {P : Program} {X : Cx} {al : List (Nat × AV)} {bs : Bs} {t e size bytes d k : Nat} [hT : TAp P t e size bytes] (hk : bs.length = k := by simp only [List.length_cons, List.length_nil, Nat.reduceAdd]; rfl) (hf : lk bs k = none := by rfl) (hd : Nat.blt d X.N = true := by rfl) :
    LT P X al bs (.buildSlice t 0 #[]) (some d) [k] [(d, .o k 0)] [(k, some (e, ([] : List (List D)).flatten.map .d))] := fun ro al2 bs2 hL hB E a W hh o ho hdst K Q hK => by
  have hf2 : lk bs2 k = none := (hB k (List.mem_cons_self ..)).trans hf
  obtain ⟨i0, z, hu, hie, hz, hsz, hbs, hzs, hpos⟩ := hT.h
  have hh' := hh.alloc (T := e) (n := 0) (m := size) (vs := []) (cs := []) hf2 .nil (by rw [hie, Option.map_some, hsz]) (by simp) (by decide)
  have hrun : (Instr.buildSlice t 0 #[]).run P W = .ok (.slice (some ⟨W.heap.size, 0, none⟩) 0 0) (W.alloc (.cells #[] e)) := by
    simp [Instr.buildSlice, run_underlying hu, sizeOf, typeInfo, hie, newRow, newObj, Instr.fill, Sem.run]
    rw [show Array.map (fun _ => (default : Value)) (Array.range 0) = #[] from Array.eq_empty_of_size_eq_zero (by simp)]
  refine WO.of (by rw [ho]; intro c h; cases h) ?_
  unfold execOp
  simp only [ho, Sem.run_bind, List.map_toArray, List.map_nil, Array.map_empty, hrun, Result.andThen_ok, Sem.run_pure]
  dsimp only [Oper.uponIn]
  rw [hdst]
  exact hK _ _ _ (hh'.put (.o ⟨_, lk_self _ _ _⟩ (by rw [Env.set_V])) (by simpa using hd))

section
variable {P : Program} {X : Cx} {al : List (Nat × AV)} {bs : Bs} {T T' d : Nat} {x y : Operand} {e sz : Nat} {rows : List (List D)}
theorem yl_eqN {a : Act} {W : World} {p : Option Addr} {n c : Nat} (hT : TSl P T e sz) (hx : a.eval x = .slice p n c) : Yld P a W (.binOp .eql T x (.const (.slice none 0 0)) T') (.bool p.isNone) := by
  intro op ho
  obtain ⟨inf, hu, hi, hs⟩ := hT.get
  have h1 := Lib.run_eql_slice_nil (P := P) W T e p n c 0 0 hu
  have h0 : a.eval (.const (.slice none 0 0)) = .slice none 0 0 := rfl
  unfold execOp
  simp [ho, hx, h0, eqGuard, h1]
/-- x == nil: a row that has elements is not. -/
theorem LT.eqN (hne : rows ≠ []) [hT : TSl P T e sz] (hx : Evd al x (.d (.l rows)) := by exact ⟨_, rfl, by (try (apply Und.gd; assumption; try (apply Und.gd; assumption; try (apply Und.gd; assumption)))); exact Und.refl _⟩) (hd : Nat.blt d X.N = true := by rfl) : LT P X al bs (.binOp .eql T x (.const (.slice none 0 0)) T') (some d) [] [(d, .d (.s (.bool false)))] [] :=
  LT.rd (fun al2 bs2 hl hB E a W h => by
    have h1 := h.evd (hl.evd hx (by simp [Op.operands]))
    generalize hq : a.eval x = q at h1
    cases h1 with
    | d h1 =>
      cases h1 with
      | nl => exact absurd rfl hne
      | l f hn hc hm hr ho g1 g2 g3 => exact ⟨_, .d (.s rfl), yl_eqN hT hq⟩) hd
theorem LT.eqNN [hT : TSl P T e sz] (hx : Evd al x (.d (.s (.slice none 0 0))) := by exact ⟨_, rfl, by (try (apply Und.gd; assumption; try (apply Und.gd; assumption; try (apply Und.gd; assumption)))); exact Und.refl _⟩) (hd : Nat.blt d X.N = true := by rfl) : LT P X al bs (.binOp .eql T x (.const (.slice none 0 0)) T') (some d) [] [(d, .d (.s (.bool true)))] [] :=
  LT.rd (fun al2 bs2 hl hB E a W h => ⟨_, .d (.s rfl), yl_eqN hT (h.evs (hl.evd hx (by simp [Op.operands])))⟩) hd
/-- x == nil, of an empty row: either may be. -/
theorem G.eqE {ro : Option Nat} {ops : Array Oper} {Q : Exit → Act → World → Prop} {rest : List Oper} {ty : Nat} {ps : String} {af : Array Edge} [hT : TSl P T e sz] (h : ∀ t, G P X ((d, .d (.s (.bool t))) :: al) bs (WL P ro ops Q rest)) (hx : Evd al x (.d (.l [])) := by exact ⟨_, rfl, by (try (apply Und.gd; assumption; try (apply Und.gd; assumption; try (apply Und.gd; assumption)))); exact Und.refl _⟩) (hd : Nat.blt d X.N = true := by rfl) :
    G P X al bs (WL P ro ops Q ({ dst := some d, op := .binOp .eql T x (.const (.slice none 0 0)) T', type := ty, pos := ps, after := af, guard := none } :: rest)) := fun E a W hh => by
  have h1 := hh.evd hx
  generalize hq : a.eval x = q at h1
  have key : ∃ p n c, q = .slice p n c := by
    cases h1 with
    | d h1 =>
      cases h1 with
      | nl => exact ⟨_, _, _, rfl⟩
      | l f hn hc hm hr ho g1 g2 g3 => exact ⟨_, _, _, rfl⟩
  obtain ⟨p, n, c, rfl⟩ := key
  refine WL.plain rfl (fun K hK => ?_)
  have hy := yl_eqN (P := P) (T' := T') (W := W) hT hq
  refine WO.of (hy.nd rfl) ?_
  rw [hy _ rfl]
  exact hK _ _ (h p.isNone E _ W (hh.put (.d (.s rfl)) (by simpa using hd)))
/-- A cell that holds nil holds a row of one's own. -/
theorem G.nilAt {c : Act → World → Prop} (b i q T : Nat) {T0 : Nat} {cs cs' : List AV} [hL : LSet cs i (.o q 0) cs'] (h : G P X al ((b, some (T0, cs')) :: (q, some (T, ([] : List (List D)).flatten.map .d)) :: bs) c) (hf : lk bs q = none := by rfl) (hb : lk bs b = some (some (T0, cs)) := by rfl) (hi : cs[i]? = some (.d (.s (.slice none 0 0))) := by rfl) : G P X al bs c := fun E a W hh => by
  have hne : q ≠ b := fun e => by subst e; rw [hf] at hb; cases hb
  refine h _ a W ((hh.nilRow q T hf).tellB (cs := cs) (by rw [lk_ne _ _ hne]; exact hb) (fun e => by subst e; simp at hi) (fun vs hr => ?_))
  obtain ⟨v, g1, g2⟩ := hr.get i _ hi
  obtain rfl := g2.scalar
  have := hr.set i (v := .slice none 0 0) (d := .o q 0) (.o ⟨_, lk_self _ _ _⟩ (by rw [Env.set_V]))
  rw [hL.h] at this
  have e2 : vs.set i (Value.slice none 0 0) = vs := by
    apply List.ext_getElem?
    intro k
    by_cases hk : i = k
    · subst hk
      rw [List.getElem?_set_self (List.getElem?_eq_some_iff.1 g1).1, g1]
    · rw [List.getElem?_set_ne hk]
  rwa [e2] at this
/-- A cell's row is not changed any more. -/
theorem G.frzAt {c : Act → World → Prop} (b i q : Nat) {T0 T k m : Nat} {cs cs' : List AV} {rows : List (List D)} [hT : TZs P T m] [hL : LSet cs i (.d (.l rows)) cs'] (h : G P X al ((b, some (T0, cs')) :: (q, none) :: bs) c) (hne : Nat.beq q b = false) (hm : ∀ r ∈ rows, r.length = m) (hk : k = rows.length) (hb : lk bs b = some (some (T0, cs)) := by rfl) (hi : cs[i]? = some (.o q k) := by rfl) (hq : lk bs q = some (some (T, rows.flatten.map .d)) := by rfl) : G P X al bs c := fun E a W hh => by
  have hne : q ≠ b := Nat.ne_of_beq_eq_false hne
  have hd : ∀ b', dom ((q, none) :: bs) b' → dom bs b' := fun b' ⟨y, hy⟩ => by
    by_cases he : q = b'
    · subst he; exact ⟨_, hq⟩
    · rw [lk_ne _ _ he] at hy; exact ⟨y, hy⟩
  refine h _ a W ((hh.drop q).tellB (T := T0) (cs := cs) (by rw [lk_ne _ _ hne]; exact hb) (fun e => by subst e; simp at hi) (fun vs hr => ?_))
  obtain ⟨v, g1, g2⟩ := hr.get i _ hi
  have := hr.set i (v := v) (d := .d (.l rows)) (.d (hh.data hq hm hT.h hk (by
    cases g2 with
    | o f1 f2 => exact .o (hd _ f1) f2)))
  rw [hL.h] at this
  have e2 : vs.set i v = vs := by
    apply List.ext_getElem?
    intro k
    by_cases hk : i = k
    · subst hk
      rw [List.getElem?_set_self (List.getElem?_eq_some_iff.1 g1).1, g1]
    · rw [List.getElem?_set_ne hk]
  rwa [e2] at this
/-- A cell is told by a word that says less. -/
theorem G.leAt {c : Act → World → Prop} (b i : Nat) {T0 : Nat} {u : D} {cs cs' : List AV} (w : D) (hl : D.le u w) [hL : LSet cs i (.d w) cs'] (h : G P X al ((b, some (T0, cs')) :: bs) c) (hb : lk bs b = some (some (T0, cs)) := by rfl) (hi : cs[i]? = some (.d u) := by rfl) : G P X al bs c := fun E a W hh => by
  refine h _ a W (hh.tellB (T := T0) (cs := cs) hb (fun e => by subst e; simp at hi) (fun vs hr => ?_))
  obtain ⟨v, g1, g2⟩ := hr.get i _ hi
  cases g2 with
  | d g2 =>
  have := hr.set i (v := v) (d := .d w) (.d (hl _ _ _ g2))
  rw [hL.h] at this
  have e2 : vs.set i v = vs := by
    apply List.ext_getElem?
    intro k
    by_cases hk : i = k
    · subst hk
      rw [List.getElem?_set_self (List.getElem?_eq_some_iff.1 g1).1, g1]
    · rw [List.getElem?_set_ne hk]
  rwa [e2] at this
/-- A function's end: its one result lies in a variable. -/
theorem G.finBc {fn : Func} {bs' : Bs} {n b N T T' : Nat} {cs : List AV} [hT : TRw P T N] (h : lk al n = some (.p b 0)) (hb : lk bs b = some (some (T', cs))) (hN : cs.length = N) (hr : fn.results = #[.cell n T]) (hn : (AV.st cs).nums (inB bs') = true) (hs : SubB bs bs') (hcl : ClB (inB bs') bs') (hk : X.k.all (inB bs') = true) : G P X al bs (finB P fn X (.st cs) bs' .ret) := fun E a W hh => hh.leave fun a' W' _ hh => by
  obtain ⟨v, h1, h2⟩ := hh.sl n _ h
  cases h2 with
  | p hb' hnl =>
    obtain ⟨vs, sp, m, k, c, g1, g2, _⟩ := hh.blk hb hnl
    have hl := g2.len
    obtain ⟨dd, hu, hd, hi⟩ := hT.get
    obtain ⟨h3, h4⟩ := hh.hb.res hs hcl hk
    refine ⟨.agg vs.toArray, ?_, _, E, rfl, h3, h4 _ _ (.st g2) hn⟩
    have h5 : a'.tmps.getD n undef = .pointer (some ⟨E.A b, 0, none⟩) := by rw [Array.getD_eq_getD_getElem?, h1]; rfl
    have h6 := run_loadVar_mid (P := P) W' (E.A b) 0 T vs dd (g1.rangeIn 0 vs (fun j hj => by rw [Nat.zero_add, List.getElem?_append_left hj])) hu hd (by rw [hi, hl, hN])
    simp [results_rdv, hr, rdv, h5, asAddr, h6]
/-- A function that is named holds no variables: data. -/
theorem G.fnD {c : Act → World → Prop} (n : Nat) {K : Nat} (h : G P X ((n, .d (.fn K [])) :: al) bs c) (hx : lk al n = some (.fn K []) := by rfl) : G P X al bs c :=
  G.tell n hx (fun E dm own W v hv => by
    cases hv with
    | fn hv => cases hv; exact .d (.fn .nil)) h
/-- A struct that holds rows of one's own is put into a variable. -/
theorem LT.bxA {n k : Nat} {cs : List AV} [hT : TZs P T n] (hk : bs.length = k := by simp only [List.length_cons, List.length_nil, Nat.reduceAdd]; rfl) (hf : lk bs k = none := by rfl) (hy : ev al x = some (.st cs) := by rfl) (hn : cs.length = n := by rfl) (hc : cs.all AV.cell = true := by rfl) (hd : Nat.blt d X.N = true := by rfl) :
    LT P X al bs (.box T x) (some d) [k] [(d, .p k 0)] [(k, some (T, cs))] := LT.bxc hf hy rfl hn hc hd
/-- A whole number turned into another kind. -/
theorem LT.cnv {k k' : IntKind} {m : Int} (z : Int) [hT : TIn P T k] [hT' : TIn P T' k'] (hx : Evd al x (.d (.s (.int k m))) := by exact ⟨_, rfl, by (try (apply Und.gd; assumption; try (apply Und.gd; assumption; try (apply Und.gd; assumption)))); exact Und.refl _⟩) (hz : k'.wrap m = z := by first | assumption | decide) (hd : Nat.blt d X.N = true := by rfl) : LT P X al bs (.convert T T' x) (some d) [] [(d, .d (.s (.int k' z)))] [] :=
  LT.rd (fun al2 bs2 hl hB E a W h => ⟨_, .d (.s rfl), fun op ho => by
    have h1 := h.evs (hl.evd hx (by simp [Op.operands]))
    unfold execOp
    simp [ho, h1, convert, Conv.intToInt, run_underlying hT.h, run_underlying hT'.h, hz]⟩) hd
theorem LT.shr {k k' : IntKind} {m n : Int} (z : Int) (hx : Evd al x (.d (.s (.int k m))) := by exact ⟨_, rfl, by (try (apply Und.gd; assumption; try (apply Und.gd; assumption; try (apply Und.gd; assumption)))); exact Und.refl _⟩) (hy : Evd al y (.d (.s (.int k' n))) := by exact ⟨_, rfl, by (try (apply Und.gd; assumption; try (apply Und.gd; assumption; try (apply Und.gd; assumption)))); exact Und.refl _⟩) (h0 : 0 ≤ n := by first | assumption | decide) (hz : m / 2 ^ min n.toNat k.bits = z := by first | assumption | decide) (hd : Nat.blt d X.N = true := by rfl) : LT P X al bs (.binOp .shr T x y T') (some d) [] [(d, .d (.s (.int k z)))] [] :=
  LT.rd (fun al2 bs2 hl hB E a W h => ⟨_, .d (.s rfl), fun op ho => by
    have h1 := h.evs (hl.evd hx (by simp [Op.operands, Call.operands]))
    have h2 := h.evs (hl.evd hy (by simp [Op.operands, Call.operands]))
    have h3 := shift_shr_any k k' m n h0
    unfold execOp
    simp [ho, h1, h2, eqGuard, binOp, h3, hz]⟩) hd
theorem LT.shl {k k' : IntKind} {m n : Int} (z : Int) (hx : Evd al x (.d (.s (.int k m))) := by exact ⟨_, rfl, by (try (apply Und.gd; assumption; try (apply Und.gd; assumption; try (apply Und.gd; assumption)))); exact Und.refl _⟩) (hy : Evd al y (.d (.s (.int k' n))) := by exact ⟨_, rfl, by (try (apply Und.gd; assumption; try (apply Und.gd; assumption; try (apply Und.gd; assumption)))); exact Und.refl _⟩) (h0 : 0 ≤ n := by first | assumption | decide) (hz : k.wrap (m * 2 ^ min n.toNat k.bits) = z := by first | assumption | decide) (hd : Nat.blt d X.N = true := by rfl) : LT P X al bs (.binOp .shl T x y T') (some d) [] [(d, .d (.s (.int k z)))] [] :=
  LT.rd (fun al2 bs2 hl hB E a W h => ⟨_, .d (.s rfl), fun op ho => by
    have h1 := h.evs (hl.evd hx (by simp [Op.operands, Call.operands]))
    have h2 := h.evs (hl.evd hy (by simp [Op.operands, Call.operands]))
    have h3 := shift_shl_any k k' m n h0
    unfold execOp
    simp [ho, h1, h2, eqGuard, binOp, h3, hz]⟩) hd
end

end Go.Proofs.Ytohpbfcechbngaa
