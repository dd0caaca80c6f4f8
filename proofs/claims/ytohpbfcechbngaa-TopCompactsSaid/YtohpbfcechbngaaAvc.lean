/- Operations that read, in states of a walk. -/
import Derived.Test.YtohpbfcechbngaaAvb
set_option linter.unusedSimpArgs false
set_option linter.unusedVariables false
namespace Go.Proofs.Ytohpbfcechbngaa
open Go.RowKit

/-- A constant. -/
def cst (v : Value) : Option AV := bif v.oneCell' then some (.d (.s v)) else match v with
  | .agg cs => bif cs.toList.all (·.oneCell') then some (.d (.st (cs.toList.map .s))) else none
  | _ => none
/-- What an operand is. -/
def ev (al : List (Nat × AV)) : Operand → Option AV
  | .tmp n => lk al n
  | .const v => cst v
  | .func f => some (.fn f [])
  | .global _ => none
theorem RL.consts {own : Nat → Prop} {W : World} : ∀ vs : List Value, vs.all (·.oneCell') = true → RL own W vs (vs.map .s)
  | [], _ => .nil
  | v :: vs, h => by
    simp only [List.all_cons, Bool.and_eq_true] at h
    exact .cons (.s h.1) (RL.consts vs h.2)
section
variable {P : Program} {X : Cx} {al : List (Nat × AV)} {bs : Bs} {E : Env} {a : Act} {W : World}
theorem cst_ok {dm own : Nat → Prop} {v : Value} {y : AV} (h : cst v = some y) : RA E dm own W v y := by
  unfold cst at h
  cases h1 : v.oneCell' with
  | true =>
    rw [h1, cond_true, Option.some.injEq] at h
    subst h
    exact .d (.s h1)
  | false =>
    rw [h1, cond_false] at h
    cases v with
    | agg cs =>
      dsimp only at h
      cases h2 : cs.toList.all (·.oneCell') with
      | true =>
        rw [h2, cond_true, Option.some.injEq] at h
        subst h
        have := RD.st (RL.consts (own := own) (W := W) _ h2)
        rw [Array.toArray_toList] at this
        exact .d this
      | false => rw [h2, cond_false] at h; cases h
    | _ => simp_all [Value.oneCell']
theorem HdE.ev (h : HdE P X al bs E a W) {x : Operand} {y : AV} (hx : ev al x = some y) : RA E (dom bs) (ownS E X.o bs) W (a.eval x) y := by
  cases x with
  | tmp n =>
    obtain ⟨v, h1, h2⟩ := h.sl n y hx
    have : a.eval (.tmp n) = v := by
      show a.tmps.getD n undef = v
      rw [Array.getD_eq_getD_getElem?, h1]
      rfl
    rw [this]
    exact h2
  | const v => exact cst_ok hx
  | global g => cases hx
  | func f =>
    simp only [Proofs.Ytohpbfcechbngaa.ev, Option.some.injEq] at hx
    subst hx
    exact RA.fn (vs := []) .nil

/-- The slots that an operation reads. -/
def opT (op : Op) : List Nat := op.operands.toList.filterMap fun | .tmp n => some n | _ => none
/-- The two tell the same of what the operation reads. -/
def Loc (op : Op) (al al2 : List (Nat × AV)) : Prop := ∀ n ∈ opT op, lk al2 n = lk al n
theorem Loc.ev {op : Op} {al2 : List (Nat × AV)} (h : Loc op al al2) {x : Operand} {u : AV} (hx : Proofs.Ytohpbfcechbngaa.ev al x = some u) (hm : x ∈ op.operands.toList) : Proofs.Ytohpbfcechbngaa.ev al2 x = some u := by
  cases x with
  | tmp n => exact (h n (List.mem_filterMap.2 ⟨_, hm, rfl⟩)).trans hx
  | const v => exact hx
  | global g => exact hx
  | func f => exact hx
/-- What holds under tests that are known to say yes holds. -/
inductive Und : AV → AV → Prop
  | refl (x : AV) : Und x x
  | gd {t want : Bool} {x y : AV} (ht : t = want) (h : Und x y) : Und (.gd t want x) y
theorem Und.ra {dm own : Nat → Prop} {v : Value} {x y : AV} (u : Und x y) (h : RA E dm own W v x) : RA E dm own W v y := by
  induction u with
  | refl x => exact h
  | gd ht _ ih =>
    cases h with
    | gd h => exact ih (h ht)
/-- The operand is u, told so plainly or under tests that are known to say yes. -/
def Evd (al : List (Nat × AV)) (x : Operand) (u : AV) : Prop := ∃ y, Proofs.Ytohpbfcechbngaa.ev al x = some y ∧ Und y u
theorem Loc.evd {op : Op} {al2 : List (Nat × AV)} (h : Loc op al al2) {x : Operand} {u : AV} (hx : Evd al x u) (hm : x ∈ op.operands.toList) : Evd al2 x u := let ⟨y, h1, h2⟩ := hx; ⟨y, h.ev h1 hm, h2⟩
theorem HdE.evd (h : HdE P X al bs E a W) {x : Operand} {u : AV} (hx : Evd al x u) : RA E (dom bs) (ownS E X.o bs) W (a.eval x) u := let ⟨y, h1, h2⟩ := hx; h2.ra (h.ev h1)
theorem Evd.of {x : Operand} {u : AV} (h : Proofs.Ytohpbfcechbngaa.ev al x = some u) : Evd al x u := ⟨u, h, .refl u⟩
def LocB (rB : List Nat) (bs bs2 : Bs) : Prop := ∀ b ∈ rB, lk bs2 b = lk bs b
theorem LocB.at {rB : List Nat} {bs2 : Bs} (h : LocB rB bs bs2) {b : Nat} {o : Option (TypeId × List AV)} (hx : lk bs b = some o) (hm : b ∈ rB) : lk bs2 b = some o := (h b hm).trans hx
theorem Loc.refl (op : Op) : Loc op al al := fun _ _ => rfl
theorem LocB.refl (rB : List Nat) : LocB rB bs bs := fun _ _ => rfl
/-- In every state that tells the same of what it reads the operation yields a value that means x. -/
def Rd (P : Program) (X : Cx) (al : List (Nat × AV)) (bs : Bs) (rB : List Nat) (op : Op) (x : AV) : Prop :=
  ∀ al2 bs2, Loc op al al2 → LocB rB bs bs2 → ∀ E a W, HdE P X al2 bs2 E a W → ∃ v, RA E (dom bs2) (ownS E X.o bs2) W v x ∧ Yld P a W op v

/-- A list of plain cells. -/
class Pl (cs : List AV) (ds : outParam (List D)) : Prop where
  h : cs = ds.map .d
instance : Pl [] [] := ⟨rfl⟩
instance {x : D} {cs : List AV} {ds : List D} [i : Pl cs ds] : Pl (.d x :: cs) (x :: ds) := ⟨by rw [i.h]; rfl⟩
instance {ds : List D} : Pl (ds.map .d) ds := ⟨rfl⟩
/-- A list with one element changed. -/
class LSet {α : Type} (l : List α) (n : Nat) (v : α) (l' : outParam (List α)) : Prop where
  h : l.set n v = l'
instance {α : Type} {a b : α} {l : List α} : LSet (a :: l) 0 b (b :: l) := ⟨rfl⟩
instance {α : Type} {a b : α} {l l' : List α} {n : Nat} [i : LSet l n b l'] : LSet (a :: l) (n + 1) b (a :: l') := ⟨by rw [List.set_cons_succ, i.h]⟩

section
variable {x y c : Operand} {u z : AV} {k : IntKind} {m n : Int} {T T' b off : Nat}
theorem Rd.mv (hx : Evd al x u := by exact ⟨_, rfl, by (try (apply Und.gd; assumption; try (apply Und.gd; assumption; try (apply Und.gd; assumption)))); exact Und.refl _⟩) : Rd P X al bs [] (.move x) u := fun al2 bs2 hl hB E a W h => ⟨_, h.evd (hl.evd hx (by simp [Op.operands, Call.operands])), yl_move⟩
theorem Rd.as (hx : Evd al x u := by exact ⟨_, rfl, by (try (apply Und.gd; assumption; try (apply Und.gd; assumption; try (apply Und.gd; assumption)))); exact Und.refl _⟩) : Rd P X al bs [] (.assign x) u := fun al2 bs2 hl hB E a W h => ⟨_, h.evd (hl.evd hx (by simp [Op.operands, Call.operands])), yl_assign⟩
theorem RA.scalar {dm own : Nat → Prop} {v u : Value} (h : RA E dm own W v (.d (.s u))) : v = u := by
  cases h with
  | d h => cases h; rfl
theorem HdE.evs (h : HdE P X al bs E a W) {x : Operand} {v : Value} (hx : Evd al x (.d (.s v))) : a.eval x = v := (h.evd hx).scalar
theorem Rd.pkT {t : Bool} (hc : Evd al c (.d (.s (.bool t))) := by exact ⟨_, rfl, by (try (apply Und.gd; assumption; try (apply Und.gd; assumption; try (apply Und.gd; assumption)))); exact Und.refl _⟩) (ht : t = true := by first | rfl | assumption | (simp; omega)) (hx : Evd al x u := by exact ⟨_, rfl, by (try (apply Und.gd; assumption; try (apply Und.gd; assumption; try (apply Und.gd; assumption)))); exact Und.refl _⟩) : Rd P X al bs [] (.pick c x y) u := fun al2 bs2 hl hB E a W h => by
  subst ht
  exact ⟨_, h.evd (hl.evd hx (by simp [Op.operands, Call.operands])), yl_pick (h.evs (hl.evd hc (by simp [Op.operands, Call.operands])))⟩
theorem Rd.pkF {t : Bool} (hc : Evd al c (.d (.s (.bool t))) := by exact ⟨_, rfl, by (try (apply Und.gd; assumption; try (apply Und.gd; assumption; try (apply Und.gd; assumption)))); exact Und.refl _⟩) (ht : t = false := by first | rfl | assumption | (simp; omega)) (hy : Evd al y u := by exact ⟨_, rfl, by (try (apply Und.gd; assumption; try (apply Und.gd; assumption; try (apply Und.gd; assumption)))); exact Und.refl _⟩) : Rd P X al bs [] (.pick c x y) u := fun al2 bs2 hl hB E a W h => by
  subst ht
  exact ⟨_, h.evd (hl.evd hy (by simp [Op.operands, Call.operands])), yl_pick (h.evs (hl.evd hc (by simp [Op.operands, Call.operands])))⟩
/-- '||' and '&&', the second part told under a guard. -/
theorem Rd.pkOr {t q : Bool} (hc : Evd al c (.d (.s (.bool t))) := by exact ⟨_, rfl, by (try (apply Und.gd; assumption; try (apply Und.gd; assumption; try (apply Und.gd; assumption)))); exact Und.refl _⟩) (hx : Evd al x (.d (.s (.bool true))) := by exact ⟨_, rfl, .refl _⟩) (hy : Evd al y (.gd t false (.d (.s (.bool q)))) := by exact ⟨_, rfl, by (try (apply Und.gd; assumption; try (apply Und.gd; assumption; try (apply Und.gd; assumption)))); exact Und.refl _⟩) : Rd P X al bs [] (.pick c x y) (.d (.s (.bool (t || q)))) := fun al2 bs2 hl hB E a W h => by
  have h1 := h.evs (hl.evd hc (by simp [Op.operands]))
  have h2 := h.evs (hl.evd hx (by simp [Op.operands]))
  have h3 := h.evd (hl.evd hy (by simp [Op.operands]))
  have := yl_pick (P := P) (W := W) (x := x) (y := y) h1
  refine ⟨_, .d (.s (by cases t <;> rfl)), ?_⟩
  cases t with
  | true => rw [h2] at this; exact this
  | false =>
    generalize a.eval y = v at h3 this
    cases h3 with
    | gd h3 =>
      obtain rfl := (h3 rfl).scalar
      exact this
theorem Rd.pkAnd {t q : Bool} (hc : Evd al c (.d (.s (.bool t))) := by exact ⟨_, rfl, by (try (apply Und.gd; assumption; try (apply Und.gd; assumption; try (apply Und.gd; assumption)))); exact Und.refl _⟩) (hx : Evd al x (.gd t true (.d (.s (.bool q)))) := by exact ⟨_, rfl, by (try (apply Und.gd; assumption; try (apply Und.gd; assumption; try (apply Und.gd; assumption)))); exact Und.refl _⟩) (hy : Evd al y (.d (.s (.bool false))) := by exact ⟨_, rfl, .refl _⟩) : Rd P X al bs [] (.pick c x y) (.d (.s (.bool (t && q)))) := fun al2 bs2 hl hB E a W h => by
  have h1 := h.evs (hl.evd hc (by simp [Op.operands]))
  have h2 := h.evs (hl.evd hy (by simp [Op.operands]))
  have h3 := h.evd (hl.evd hx (by simp [Op.operands]))
  have := yl_pick (P := P) (W := W) (x := x) (y := y) h1
  refine ⟨_, .d (.s (by cases t <;> rfl)), ?_⟩
  cases t with
  | false => rw [h2] at this; exact this
  | true =>
    generalize a.eval x = v at h3 this
    cases h3 with
    | gd h3 =>
      obtain rfl := (h3 rfl).scalar
      exact this
theorem HdE.blk (h : HdE P X al bs E a W) {b : Nat} {T : TypeId} {cs : List AV} (hb : lk bs b = some (some (T, cs))) (hn : E.nl b = false) : ∃ vs sp m n c, Blk W (E.A b) T (vs ++ sp) ∧ RAL E (dom bs) (ownS E X.o bs) W vs cs ∧ (P.info? T).map (·.size) = some m ∧ E.V b = .slice (some ⟨E.A b, 0, none⟩) n c ∧ n ≤ c ∧ c ≤ maxLen ∧ vs.length = n * m ∧ (vs ++ sp).length = c * m := by
  rcases h.bk b T cs hb with ⟨h1, _⟩ | ⟨_, h1⟩
  · rw [hn] at h1; cases h1
  · exact h1
theorem RAL.at {dm own : Nat → Prop} {vs sp : List Value} {cs : List AV} (hr : RAL E dm own W vs cs) {off : Nat} {u : AV} (hc : cs[off]? = some u) : ∃ v, (vs ++ sp)[off]? = some v ∧ RA E dm own W v u := by
  obtain ⟨v, h1, h2⟩ := hr.get off u hc
  exact ⟨v, by rw [List.getElem?_append_left (List.getElem?_eq_some_iff.1 h1).1]; exact h1, h2⟩
/-- A variable is read. -/
theorem Rd.ldp {cs : List AV} [hT : TSc P T] (hx : Evd al x (.p b off) := by exact ⟨_, rfl, by (try (apply Und.gd; assumption; try (apply Und.gd; assumption; try (apply Und.gd; assumption)))); exact Und.refl _⟩) (hb : lk bs b = some (some (T', cs)) := by rfl) (hc : cs[off]? = some u := by rfl) : Rd P X al bs [b] (.load T x) u := fun al2 bs2 hl hB E a W h => by
  have hv := h.evd (hl.evd hx (by simp [Op.operands, Call.operands]))
  generalize hq : a.eval x = q at hv
  cases hv with
  | p hb' hn =>
    obtain ⟨vs, sp, m, n, c, h1, h2, _⟩ := h.blk (hB.at hb (List.mem_cons_self ..)) hn
    obtain ⟨v, h3, h4⟩ := h2.at (sp := sp) hc
    exact ⟨v, h4, yl_load hT hq ((h1.cell off).trans h3)⟩
theorem Rd.lde {row : List D} {d : D} [hT : TSc P T] (hx : Evd al x (.e row off) := by exact ⟨_, rfl, by (try (apply Und.gd; assumption; try (apply Und.gd; assumption; try (apply Und.gd; assumption)))); exact Und.refl _⟩) (hc : row[off]? = some d := by rfl) : Rd P X al bs [] (.load T x) (.d d) := fun al2 bs2 hl hB E a W h => by
  have hv := h.evd (hl.evd hx (by simp [Op.operands, Call.operands]))
  generalize hq : a.eval x = q at hv
  cases hv with | d hv => cases hv with
  | pe hr ho h1 h2 =>
    obtain ⟨v, h3, h4⟩ := h2.get off d hc
    exact ⟨v, .d h4, yl_load hT hq (h1 off v h3)⟩
/-- A struct is read. -/
theorem Rd.ldpS {N : Nat} {cs : List AV} {ds : List D} [hT : TRw P T N] (hx : Evd al x (.p b off) := by exact ⟨_, rfl, by (try (apply Und.gd; assumption; try (apply Und.gd; assumption; try (apply Und.gd; assumption)))); exact Und.refl _⟩) (hb : lk bs b = some (some (T', cs)) := by rfl) (hN : cs.length = N := by rfl) (h0 : off = 0 := by rfl) [hp : Pl cs ds] : Rd P X al bs [b] (.load T x) (.d (.st ds)) := fun al2 bs2 hl hB E a W h => by
  subst h0
  have hv := h.evd (hl.evd hx (by simp [Op.operands, Call.operands]))
  generalize hq : a.eval x = q at hv
  cases hv with
  | p hb' hn =>
    obtain ⟨vs, sp, m, n, c, h1, h2, _⟩ := h.blk (hB.at hb (List.mem_cons_self ..)) hn
    have hl := h2.len
    rw [hp.h] at h2
    refine ⟨_, .d (.st h2.unmap), yl_loadR hT hq ?_ (hl.trans hN)⟩
    exact h1.rangeIn 0 vs (fun j hj => by rw [Nat.zero_add, List.getElem?_append_left hj])
theorem Rd.ldpA {N : Nat} {cs : List AV} [hT : TRw P T N] (hx : Evd al x (.p b off) := by exact ⟨_, rfl, by (try (apply Und.gd; assumption; try (apply Und.gd; assumption; try (apply Und.gd; assumption)))); exact Und.refl _⟩) (hb : lk bs b = some (some (T', cs)) := by rfl) (hN : cs.length = N := by rfl) (h0 : off = 0 := by rfl) : Rd P X al bs [b] (.load T x) (.st cs) := fun al2 bs2 hl hB E a W h => by
  subst h0
  have hv := h.evd (hl.evd hx (by simp [Op.operands, Call.operands]))
  generalize hq : a.eval x = q at hv
  cases hv with
  | p hb' hn =>
    obtain ⟨vs, sp, m, n, c, h1, h2, _⟩ := h.blk (hB.at hb (List.mem_cons_self ..)) hn
    refine ⟨_, .st h2, yl_loadR hT hq ?_ (h2.len.trans hN)⟩
    exact h1.rangeIn 0 vs (fun j hj => by rw [Nat.zero_add, List.getElem?_append_left hj])
/-- A part of a struct is read. -/
theorem Rd.ldpP {N : Nat} {cs : List AV} {ds : List D} [hT : TRw P T N] (hx : Evd al x (.p b off) := by exact ⟨_, rfl, by (try (apply Und.gd; assumption; try (apply Und.gd; assumption; try (apply Und.gd; assumption)))); exact Und.refl _⟩) (hb : lk bs b = some (some (T', cs)) := by rfl) (hN : (cs.drop off).take N = ds.map .d := by rfl) (hdl : ds.length = N := by rfl) : Rd P X al bs [b] (.load T x) (.d (.st ds)) := fun al2 bs2 hl hB E a W h => by
  have hv := h.evd (hl.evd hx (by simp [Op.operands, Call.operands]))
  generalize hq : a.eval x = q at hv
  cases hv with
  | p hb' hn =>
    obtain ⟨vs, sp, m, n, c, h1, h2, _⟩ := h.blk (hB.at hb (List.mem_cons_self ..)) hn
    have h3 := (h2.drop off).take N
    have hlen := h3.len
    rw [hN] at h3 hlen
    have hle : (List.take N (List.drop off vs)).length = N := by rw [hlen, List.length_map, hdl]
    refine ⟨_, .d (.st h3.unmap), yl_loadR hT hq ?_ hle⟩
    refine h1.rangeIn off _ (fun j hj => ?_)
    rw [hle] at hj
    have h4 : N ≤ vs.length - off := by
      have h5 := hle
      simp only [List.length_take, List.length_drop] at h5
      omega
    rw [List.getElem?_append_left (by omega), List.getElem?_take_of_lt hj, List.getElem?_drop]
theorem Rd.ldeS {N : Nat} {row : List D} [hT : TRw P T N] (hx : Evd al x (.e row off) := by exact ⟨_, rfl, by (try (apply Und.gd; assumption; try (apply Und.gd; assumption; try (apply Und.gd; assumption)))); exact Und.refl _⟩) (hN : row.length = N := by rfl) (h0 : off = 0 := by rfl) : Rd P X al bs [] (.load T x) (.d (.st row)) := fun al2 bs2 hl hB E a W h => by
  subst h0
  have hv := h.evd (hl.evd hx (by simp [Op.operands, Call.operands]))
  generalize hq : a.eval x = q at hv
  cases hv with | d hv => cases hv with
  | pe hr ho h1 h2 => exact ⟨_, .d (.st h2), yl_loadR hT hq h1 (h2.len.trans hN)⟩
theorem Rd.ldeP {N : Nat} {row ds : List D} [hT : TRw P T N] (hx : Evd al x (.e row off) := by exact ⟨_, rfl, by (try (apply Und.gd; assumption; try (apply Und.gd; assumption; try (apply Und.gd; assumption)))); exact Und.refl _⟩) (hN : (row.drop off).take N = ds := by rfl) (hdl : ds.length = N := by rfl) : Rd P X al bs [] (.load T x) (.d (.st ds)) := fun al2 bs2 hl hB E a W h => by
  have hv := h.evd (hl.evd hx (by simp [Op.operands, Call.operands]))
  generalize hq : a.eval x = q at hv
  cases hv with | d hv => cases hv with
  | @pe r o _ vs _ hr ho h1 h2 =>
    have h3 := (h2.drop off).take N
    rw [hN] at h3
    have hle := h3.len.trans hdl
    refine ⟨_, .d (.st h3), yl_loadR hT hq ?_ hle⟩
    have h4 := h1
    intro j v hv
    have hj : j < N := by have := (List.getElem?_eq_some_iff.1 hv).1; omega
    rw [List.getElem?_take_of_lt hj, List.getElem?_drop] at hv
    rw [Nat.add_assoc]
    exact h4 (off + j) v hv
theorem Rd.fap {f o o' : Nat} [hT : TFo P T f o] (hx : Evd al x (.p b off) := by exact ⟨_, rfl, by (try (apply Und.gd; assumption; try (apply Und.gd; assumption; try (apply Und.gd; assumption)))); exact Und.refl _⟩) (ho : off + o = o' := by first | (simp only [Nat.reduceAdd] <;> rfl) | rfl) : Rd P X al bs [] (.fieldAddr T x f) (.p b o') := fun al2 bs2 hl hB E a W h => by
  subst ho
  have hv := h.evd (hl.evd hx (by simp [Op.operands, Call.operands]))
  generalize hq : a.eval x = q at hv
  cases hv with
  | p hb' hn => exact ⟨_, .p hb' hn, yl_fieldAddr hT hq⟩
theorem Rd.fae {f o o' : Nat} {row : List D} [hT : TFo P T f o] (hx : Evd al x (.e row off) := by exact ⟨_, rfl, by (try (apply Und.gd; assumption; try (apply Und.gd; assumption; try (apply Und.gd; assumption)))); exact Und.refl _⟩) (ho : off + o = o' := by first | (simp only [Nat.reduceAdd] <;> rfl) | rfl) : Rd P X al bs [] (.fieldAddr T x f) (.e row o') := fun al2 bs2 hl hB E a W h => by
  subst ho
  have hv := h.evd (hl.evd hx (by simp [Op.operands, Call.operands]))
  generalize hq : a.eval x = q at hv
  cases hv with | d hv => cases hv with
  | @pe r o' _ vs _ hr ho h1 h2 =>
    refine ⟨_, .d (.pe hr ho h1 h2), ?_⟩
    have := yl_fieldAddr (P := P) (W := by assumption) hT hq
    rw [Nat.add_assoc] at this
    exact this
theorem Rd.fld {f o ft : Nat} {ds : List D} {d : D} [hT : TFo P T f o] [hF : TFt P T f ft] [hS : TSc P ft] (hx : Evd al x (.d (.st ds)) := by exact ⟨_, rfl, by (try (apply Und.gd; assumption; try (apply Und.gd; assumption; try (apply Und.gd; assumption)))); exact Und.refl _⟩) (hc : ds[o]? = some d := by rfl) : Rd P X al bs [] (.field T x f) (.d d) := fun al2 bs2 hl hB E a W h => by
  have hv := h.evd (hl.evd hx (by simp [Op.operands, Call.operands]))
  generalize hq : a.eval x = q at hv
  cases hv with
  | d h' =>
    cases h' with
    | st h2 =>
      obtain ⟨v, h3, h4⟩ := h2.get o d hc
      exact ⟨v, .d h4, yl_field hT hF hS hq h3⟩
theorem Rd.fldA {f o ft : Nat} {cs : List AV} [hT : TFo P T f o] [hF : TFt P T f ft] [hS : TSc P ft] (hx : Evd al x (.st cs) := by exact ⟨_, rfl, by (try (apply Und.gd; assumption; try (apply Und.gd; assumption; try (apply Und.gd; assumption)))); exact Und.refl _⟩) (hc : cs[o]? = some u := by rfl) : Rd P X al bs [] (.field T x f) u := fun al2 bs2 hl hB E a W h => by
  have hv := h.evd (hl.evd hx (by simp [Op.operands, Call.operands]))
  generalize hq : a.eval x = q at hv
  cases hv with
  | st h2 =>
    obtain ⟨v, h3, h4⟩ := h2.get o u hc
    exact ⟨v, h4, yl_field hT hF hS hq h3⟩
theorem Rd.ext {i : Nat} {ds : List D} {d : D} (hx : Evd al x (.d (.tup ds)) := by exact ⟨_, rfl, by (try (apply Und.gd; assumption; try (apply Und.gd; assumption; try (apply Und.gd; assumption)))); exact Und.refl _⟩) (hc : ds[i]? = some d := by rfl) : Rd P X al bs [] (.extract x i) (.d d) := fun al2 bs2 hl hB E a W h => by
  have hv := h.evd (hl.evd hx (by simp [Op.operands, Call.operands]))
  generalize hq : a.eval x = q at hv
  cases hv with
  | d h' =>
    cases h' with
    | tup h2 =>
      obtain ⟨v, h3, h4⟩ := h2.get i d hc
      exact ⟨v, .d h4, yl_extract hq (by simpa using h3)⟩
theorem Rd.extA {i : Nat} {cs : List AV} (hx : Evd al x (.tup cs) := by exact ⟨_, rfl, by (try (apply Und.gd; assumption; try (apply Und.gd; assumption; try (apply Und.gd; assumption)))); exact Und.refl _⟩) (hc : cs[i]? = some u := by rfl) : Rd P X al bs [] (.extract x i) u := fun al2 bs2 hl hB E a W h => by
  have hv := h.evd (hl.evd hx (by simp [Op.operands, Call.operands]))
  generalize hq : a.eval x = q at hv
  cases hv with
  | tup h2 =>
    obtain ⟨v, h3, h4⟩ := h2.get i u hc
    exact ⟨v, h4, yl_extract hq (by simpa using h3)⟩
theorem Rd.not {t : Bool} (hx : Evd al x (.d (.s (.bool t))) := by exact ⟨_, rfl, by (try (apply Und.gd; assumption; try (apply Und.gd; assumption; try (apply Und.gd; assumption)))); exact Und.refl _⟩) : Rd P X al bs [] (.unOp .not T x) (.d (.s (.bool !t))) := fun al2 bs2 hl hB E a W h => ⟨_, .d (.s rfl), yl_unNot (h.evs (hl.evd hx (by simp [Op.operands, Call.operands])))⟩
section
variable {z : Int} (hx : Evd al x (.d (.s (.int k m))) := by exact ⟨_, rfl, by (try (apply Und.gd; assumption; try (apply Und.gd; assumption; try (apply Und.gd; assumption)))); exact Und.refl _⟩) (hy : Evd al y (.d (.s (.int k n))) := by exact ⟨_, rfl, by (try (apply Und.gd; assumption; try (apply Und.gd; assumption; try (apply Und.gd; assumption)))); exact Und.refl _⟩)
include hx hy
theorem Rd.add (hz : k.wrap (m + n) = z := by first | exact Yq _ (by omega) | rfl) : Rd P X al bs [] (.binOp .add T x y T') (.d (.s (.int k z))) := fun al2 bs2 hl hB E a W h => ⟨_, .d (.s rfl), by rw [← hz]; exact yl_add (h.evs (hl.evd hx (by simp [Op.operands, Call.operands]))) (h.evs (hl.evd hy (by simp [Op.operands, Call.operands])))⟩
theorem Rd.sub (hz : k.wrap (m - n) = z := by first | exact Yq _ (by omega) | rfl) : Rd P X al bs [] (.binOp .sub T x y T') (.d (.s (.int k z))) := fun al2 bs2 hl hB E a W h => ⟨_, .d (.s rfl), by rw [← hz]; exact yl_sub (h.evs (hl.evd hx (by simp [Op.operands, Call.operands]))) (h.evs (hl.evd hy (by simp [Op.operands, Call.operands])))⟩
theorem Rd.mul (hz : k.wrap (m * n) = z := by first | exact Yq _ (by omega) | rfl) : Rd P X al bs [] (.binOp .mul T x y T') (.d (.s (.int k z))) := fun al2 bs2 hl hB E a W h => ⟨_, .d (.s rfl), by rw [← hz]; exact yl_mul (h.evs (hl.evd hx (by simp [Op.operands, Call.operands]))) (h.evs (hl.evd hy (by simp [Op.operands, Call.operands])))⟩
theorem Rd.quo (h0 : n ≠ 0 := by first | decide | omega) (hz : k.wrap (m.tdiv n) = z := by first | exact (congrArg IntKind.i64.wrap (Int.tdiv_eq_ediv_of_nonneg (by omega))).trans (Yq _ (by omega)) | exact (congrArg IntKind.i64.wrap (Int.tdiv_eq_ediv_of_nonneg (by omega))).trans (by assumption) | rfl) : Rd P X al bs [] (.binOp .quo T x y T') (.d (.s (.int k z))) := fun al2 bs2 hl hB E a W h => ⟨_, .d (.s rfl), by rw [← hz]; exact yl_quo (h.evs (hl.evd hx (by simp [Op.operands, Call.operands]))) (h.evs (hl.evd hy (by simp [Op.operands, Call.operands]))) h0⟩
theorem Rd.rem (h0 : n ≠ 0 := by first | decide | omega) (hz : m.tmod n = z := by first | exact Int.tmod_eq_emod_of_nonneg (by omega) | rfl) : Rd P X al bs [] (.binOp .rem T x y T') (.d (.s (.int k z))) := fun al2 bs2 hl hB E a W h => ⟨_, .d (.s rfl), by rw [← hz]; exact yl_rem (h.evs (hl.evd hx (by simp [Op.operands, Call.operands]))) (h.evs (hl.evd hy (by simp [Op.operands, Call.operands]))) h0⟩
theorem Rd.lss : Rd P X al bs [] (.binOp .lss T x y T') (.d (.s (.bool (decide (m < n))))) := fun al2 bs2 hl hB E a W h => ⟨_, .d (.s rfl), yl_lss (h.evs (hl.evd hx (by simp [Op.operands, Call.operands]))) (h.evs (hl.evd hy (by simp [Op.operands, Call.operands])))⟩
theorem Rd.leq : Rd P X al bs [] (.binOp .leq T x y T') (.d (.s (.bool (decide (m ≤ n))))) := fun al2 bs2 hl hB E a W h => ⟨_, .d (.s rfl), yl_leq (h.evs (hl.evd hx (by simp [Op.operands, Call.operands]))) (h.evs (hl.evd hy (by simp [Op.operands, Call.operands])))⟩
theorem Rd.gtr : Rd P X al bs [] (.binOp .gtr T x y T') (.d (.s (.bool (decide (n < m))))) := fun al2 bs2 hl hB E a W h => ⟨_, .d (.s rfl), yl_gtr (h.evs (hl.evd hx (by simp [Op.operands, Call.operands]))) (h.evs (hl.evd hy (by simp [Op.operands, Call.operands])))⟩
theorem Rd.geq : Rd P X al bs [] (.binOp .geq T x y T') (.d (.s (.bool (decide (n ≤ m))))) := fun al2 bs2 hl hB E a W h => ⟨_, .d (.s rfl), yl_geq (h.evs (hl.evd hx (by simp [Op.operands, Call.operands]))) (h.evs (hl.evd hy (by simp [Op.operands, Call.operands])))⟩
theorem Rd.eql : Rd P X al bs [] (.binOp .eql T x y T') (.d (.s (.bool (m == n)))) := fun al2 bs2 hl hB E a W h => ⟨_, .d (.s rfl), yl_eql (h.evs (hl.evd hx (by simp [Op.operands, Call.operands]))) (h.evs (hl.evd hy (by simp [Op.operands, Call.operands])))⟩
theorem Rd.neq : Rd P X al bs [] (.binOp .neq T x y T') (.d (.s (.bool (m != n)))) := fun al2 bs2 hl hB E a W h => ⟨_, .d (.s rfl), yl_neq (h.evs (hl.evd hx (by simp [Op.operands, Call.operands]))) (h.evs (hl.evd hy (by simp [Op.operands, Call.operands])))⟩
end
theorem Rd.lenL {e sz : Nat} {rows : List (List D)} [hT : TSl P T e sz] (hx : Evd al x (.d (.l rows)) := by exact ⟨_, rfl, by (try (apply Und.gd; assumption; try (apply Und.gd; assumption; try (apply Und.gd; assumption)))); exact Und.refl _⟩) : Rd P X al bs [] (.call { callee := .builtin .len, args := #[x], argTypes := #[T] }) (.d (.s (.int .i64 rows.length))) := fun al2 bs2 hl hB E a W h => by
  have hv := h.evd (hl.evd hx (by simp [Op.operands, Call.operands]))
  generalize hq : a.eval x = q at hv
  cases hv with
  | d h' =>
    cases h' with
    | nl => exact ⟨_, .d (.s rfl), yl_len hT hq⟩
    | l f hn hc hm hr ho h1 h2 h3 =>
      subst hn
      exact ⟨_, .d (.s rfl), yl_len hT hq⟩
theorem Rd.lenN {e sz : Nat} [hT : TSl P T e sz] (hx : Evd al x (.d (.s (.slice none 0 0))) := by exact ⟨_, rfl, by (try (apply Und.gd; assumption; try (apply Und.gd; assumption; try (apply Und.gd; assumption)))); exact Und.refl _⟩) : Rd P X al bs [] (.call { callee := .builtin .len, args := #[x], argTypes := #[T] }) (.d (.s (.int .i64 0))) := fun al2 bs2 hl hB E a W h => ⟨_, .d (.s rfl), yl_len hT (h.evs (hl.evd hx (by simp [Op.operands, Call.operands])))⟩
theorem Rd.lenO {e sz n : Nat} [hT : TSl P T e sz] (hx : Evd al x (.o b n) := by exact ⟨_, rfl, by (try (apply Und.gd; assumption; try (apply Und.gd; assumption; try (apply Und.gd; assumption)))); exact Und.refl _⟩) : Rd P X al bs [] (.call { callee := .builtin .len, args := #[x], argTypes := #[T] }) (.d (.s (.int .i64 n))) := fun al2 bs2 hl hB E a W h => by
  have hv := h.evd (hl.evd hx (by simp [Op.operands, Call.operands]))
  generalize hq : a.eval x = q at hv
  cases hv with
  | o hb' hv => exact ⟨_, .d (.s rfl), yl_len hT hq⟩
/-- An element's place. -/
theorem Rd.ixl {e sz : Nat} {rows : List (List D)} {row : List D} {i : Int} (j : Nat) [hT : TSl P T e sz] (hrow : rows[j]? = some row) (hi : i = j) (hsz : row.length = sz) (hx : Evd al x (.d (.l rows)) := by exact ⟨_, rfl, by (try (apply Und.gd; assumption; try (apply Und.gd; assumption; try (apply Und.gd; assumption)))); exact Und.refl _⟩) (hy : Evd al y (.d (.s (.int k i))) := by exact ⟨_, rfl, by (try (apply Und.gd; assumption; try (apply Und.gd; assumption; try (apply Und.gd; assumption)))); exact Und.refl _⟩) :
    Rd P X al bs [] (.indexAddr T x y) (.e row 0) := fun al2 bs2 hl hB E a W h => by
  subst hi
  have hv := h.evd (hl.evd hx (by simp [Op.operands, Call.operands]))
  generalize hq : a.eval x = q at hv
  cases hv with
  | d h' =>
    cases h' with
    | nl => simp at hrow
    | @l r o n c m _ f hn hc hm hr ho h1 h2 h3 =>
      have hj : j < rows.length := (List.getElem?_eq_some_iff.1 hrow).1
      have hms : m = sz := (h1 j row hrow).symm.trans hsz
      subst hms
      refine ⟨_, .d (.pe hr ho (h2 j row hrow) (h3 j row hrow)), ?_⟩
      have := yl_indexAddr (P := P) (W := by assumption) hT hq (h.evs (hl.evd hy (by simp [Op.operands, Call.operands]))) (by omega) (by omega)
      simpa using this
theorem Rd.ixo {e sz n : Nat} {i : Int} {cs : List AV} (j : Nat) [hT : TSl P T e sz] (hi : i = j) (hj : j < n) (hx : Evd al x (.o b n) := by exact ⟨_, rfl, by (try (apply Und.gd; assumption; try (apply Und.gd; assumption; try (apply Und.gd; assumption)))); exact Und.refl _⟩) (hb : lk bs b = some (some (T', cs)) := by rfl) (hy : Evd al y (.d (.s (.int k i))) := by exact ⟨_, rfl, by (try (apply Und.gd; assumption; try (apply Und.gd; assumption; try (apply Und.gd; assumption)))); exact Und.refl _⟩) :
    Rd P X al bs [b] (.indexAddr T x y) (.p b (j * sz)) := fun al2 bs2 hl hB E a W h => by
  subst hi
  have hv := h.evd (hl.evd hx (by simp [Op.operands, Call.operands]))
  generalize hq : a.eval x = q at hv
  cases hv with
  | o hb' hv =>
    rcases h.bk b T' cs (hB.at hb (List.mem_cons_self ..)) with ⟨h0, h1, h2⟩ | ⟨h0, vs, sp, m, n', c, h1, h2, h3, h4, h5⟩
    · rw [hv] at h2
      cases h2
      omega
    · rw [hv] at h4
      cases h4
      refine ⟨_, .p hb' h0, ?_⟩
      have := yl_indexAddr (P := P) (W := by assumption) hT hq (h.evs (hl.evd hy (by simp [Op.operands, Call.operands]))) (by omega) (by omega)
      simpa using this

end
end

end Go.Proofs.Ytohpbfcechbngaa
