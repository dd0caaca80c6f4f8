/- One operation's run: what it yields for operands that are known. -/
import Derived.Test.YtohpbfcechbngaaAva
set_option linter.unusedSimpArgs false
set_option linter.unusedVariables false
namespace Go.Proofs.Ytohpbfcechbngaa
open Go.RowKit

/-! ### The types' table, asked by classes: the answers are the seat's -/
def tsc (P : Program) (T : TypeId) : Bool := match P.underlying T with | some d => !d.isRow | none => false
def trw (P : Program) (T : TypeId) : Option Nat := match P.underlying T with | some d => if d.isRow then (P.info? T).map (·.size) else none | none => none
def tfo (P : Program) (T f : Nat) : Option Nat := match P.underlying T with
  | some (.struct fs) => match fs[f]? with
    | some fl => match (P.info? fl.type).map (·.size) with
      | some (_ + 1) => some fl.offset
      | _ => none
    | none => none
  | _ => none
def tft (P : Program) (T f : Nat) : Nat := match P.underlying T with
  | some (.struct fs) => match fs[f]? with
    | some fl => fl.type
    | none => 0
  | _ => 0
def tsl (P : Program) (T : TypeId) : Option (TypeId × Nat) := match P.underlying T with
  | some (.slice e) => (P.info? e).map (fun i => (e, i.size))
  | _ => none
class TSc (P : Program) (T : TypeId) : Prop where
  h : tsc P T = true
class TRw (P : Program) (T : TypeId) (n : outParam Nat) : Prop where
  h : trw P T = some n
class TFo (P : Program) (T f : Nat) (off : outParam Nat) : Prop where
  h : tfo P T f = some off
class TFt (P : Program) (T f : Nat) (ft : outParam Nat) : Prop where
  h : tft P T f = ft
class TSl (P : Program) (T : TypeId) (e n : outParam Nat) : Prop where
  h : tsl P T = some (e, n)
class TZr (P : Program) (T : TypeId) (z : outParam Value) : Prop where
  h : (P.info? T).bind (fun i => i.zero) = some z
class TZs (P : Program) (T : TypeId) (n : outParam Nat) : Prop where
  h : (P.info? T).map (fun i => i.size) = some n
class TBy (P : Program) (T : TypeId) (n : outParam Nat) : Prop where
  h : (P.info? T).map (fun i => i.bytes) = some n
class TIn (P : Program) (T : TypeId) (k : outParam IntKind) : Prop where
  h : P.underlying T = some (.int k)

section
variable {P : Program}
theorem TSc.get {T : TypeId} (i : TSc P T) : ∃ d, P.underlying T = some d ∧ d.isRow = false := by
  have h := i.h
  unfold tsc at h
  cases hu : P.underlying T with
  | none => rw [hu] at h; cases h
  | some d => rw [hu] at h; exact ⟨d, rfl, by simpa using h⟩
theorem TRw.get {T n : Nat} (i : TRw P T n) : ∃ d, P.underlying T = some d ∧ d.isRow = true ∧ (P.info? T).map (·.size) = some n := by
  have h := i.h
  unfold trw at h
  cases hu : P.underlying T with
  | none => rw [hu] at h; cases h
  | some d =>
    rw [hu] at h
    dsimp only at h
    cases hd : d.isRow with
    | true => rw [hd, if_pos rfl] at h; exact ⟨d, rfl, hd, h⟩
    | false => rw [hd, if_neg (by decide)] at h; cases h
theorem TFo.get {T f off : Nat} (i : TFo P T f off) : ∃ fs fl inf s, P.underlying T = some (.struct fs) ∧ fs[f]? = some fl ∧ fl.offset = off ∧ P.info? fl.type = some inf ∧ inf.size = s + 1 := by
  have h := i.h
  unfold tfo at h
  split at h
  · rename_i fs hu
    split at h
    · rename_i fl hf
      cases hi : P.info? fl.type with
      | none => rw [hi] at h; simp at h
      | some inf =>
        rw [hi] at h
        cases hs : inf.size with
        | zero => simp [hs] at h
        | succ s =>
          simp only [Option.map_some, hs, Option.some.injEq] at h
          exact ⟨fs, fl, inf, s, hu, hf, h, hi, hs⟩
    · cases h
  · cases h
theorem TSl.get {T e n : Nat} (i : TSl P T e n) : ∃ inf, P.underlying T = some (.slice e) ∧ P.info? e = some inf ∧ inf.size = n := by
  have h := i.h
  unfold tsl at h
  split at h
  · rename_i e' hu
    cases hi : P.info? e' with
    | none => rw [hi] at h; cases h
    | some inf =>
      rw [hi] at h
      simp only [Option.map_some, Option.some.injEq, Prod.mk.injEq] at h
      obtain ⟨rfl, rfl⟩ := h
      exact ⟨inf, hu, hi, rfl⟩
  · cases h

variable {a : Act} {W : World} {o : Oper}
/-- The operation yields v (and leaves the world alone). -/
def Yld (P : Program) (a : Act) (W : World) (op : Op) (v : Value) : Prop := ∀ o : Oper, o.op = op → (execOp a.eval o).run P W = .ok (.value v) W

theorem Yld.nd {op : Op} {v : Value} (h : Yld P a W op v) (ho : o.op = op) : ∀ c, o.op ≠ .defer c := by
  intro c hc
  have h1 := h o ho
  unfold execOp at h1
  simp only [hc] at h1
  rw [Sem.run_bind] at h1
  generalize (resolve a.eval c o.type).run P W = r at h1
  cases r with
  | ok d w => simp [Result.andThen] at h1
  | halt e w => simp [Result.andThen] at h1
theorem yl_move {x : Operand} : Yld P a W (.move x) (a.eval x) := by
  intro o ho; unfold execOp; simp only [ho]; rfl
theorem yl_assign {x : Operand} : Yld P a W (.assign x) (a.eval x) := by
  intro o ho; unfold execOp; simp only [ho]; rfl
theorem yl_pick {c x y : Operand} {t : Bool} (hc : a.eval c = .bool t) : Yld P a W (.pick c x y) (if t then a.eval x else a.eval y) := by
  intro o ho; unfold execOp; simp [ho, hc, asBool]
theorem isAgg_false {T : TypeId} {d : TypeDesc} (hu : P.underlying T = some d) (hd : d.isRow = false) : (isAgg T).run P W = .ok false W := by
  unfold isAgg
  rw [Sem.run_bind, run_underlying hu W]
  cases d <;> simp_all
theorem yl_load {T : TypeId} {x : Operand} {b off : Nat} {v : Value} (hT : TSc P T) (hx : a.eval x = .pointer (some ⟨b, off, none⟩)) (hc : W.cell? ⟨b, off, none⟩ = some v) : Yld P a W (.load T x) v := by
  intro o ho
  obtain ⟨d, hu, hd⟩ := hT.get
  have hl : (load ⟨b, off, none⟩ Mode.plain).run P W = .ok v W := by simp [hc]
  unfold execOp
  simp only [ho, hx, Instr.loadAt, Instr.sureAddr, Sem.run_bind, Sem.run_pure, Result.andThen_ok, loadVar, isAgg_false hu hd]
  simp [hl]
theorem yl_loadR {T n : Nat} {x : Operand} {b off : Nat} {vs : List Value} (hT : TRw P T n) (hx : a.eval x = .pointer (some ⟨b, off, none⟩)) (hc : W.rangeAt b off vs) (hn : vs.length = n) : Yld P a W (.load T x) (.agg vs.toArray) := by
  intro o ho
  obtain ⟨d, hu, hd, hi⟩ := hT.get
  exact exec_ld T x ho hx hc hu hd (by rw [hi, hn])
theorem yl_fieldAddr {T f off : Nat} {x : Operand} {b o : Nat} (hT : TFo P T f off) (hx : a.eval x = .pointer (some ⟨b, o, none⟩)) : Yld P a W (.fieldAddr T x f) (.pointer (some ⟨b, o + off, none⟩)) := by
  intro op ho
  obtain ⟨fs, fl, inf, s, hu, hf, ho2, hi, hs⟩ := hT.get
  unfold execOp
  simp [ho, hx, Instr.fieldAt, Instr.sureAddr, run_underlying hu, hf, fieldPlace, sizeOf, typeInfo, hi, hs, ho2, Addr.add_mid]
theorem yl_extract {x : Operand} {vs : Array Value} {i : Nat} {v : Value} (hx : a.eval x = .tuple vs) (hi : vs[i]? = some v) : Yld P a W (.extract x i) v := by
  intro op ho
  unfold execOp
  simp [ho, hx, Instr.extract, hi]
theorem yl_unNot {T : TypeId} {x : Operand} {b : Bool} (hx : a.eval x = .bool b) : Yld P a W (.unOp .not T x) (.bool !b) := by
  intro op ho
  unfold execOp
  simp [ho, hx, Op.unary]
theorem yl_neg {T : TypeId} {x : Operand} {k : IntKind} {n : Int} (hx : a.eval x = .int k n) : Yld P a W (.unOp .neg T x) (.int k (k.wrap (0 - n))) := by
  intro op ho
  unfold execOp
  simp [ho, hx, Op.unary, Op.intArith]

section
variable {T T' : TypeId} {x y : Operand} {k : IntKind} {m n : Int} (hx : a.eval x = .int k m) (hy : a.eval y = .int k n)
include hx hy
theorem yl_add : Yld P a W (.binOp .add T x y T') (.int k (k.wrap (m + n))) := by
  intro op ho; unfold execOp; simp [ho, hx, hy, eqGuard, binOp, Op.intArith]
theorem yl_sub : Yld P a W (.binOp .sub T x y T') (.int k (k.wrap (m - n))) := by
  intro op ho; unfold execOp; simp [ho, hx, hy, eqGuard, binOp, Op.intArith]
theorem yl_mul : Yld P a W (.binOp .mul T x y T') (.int k (k.wrap (m * n))) := by
  intro op ho; unfold execOp; simp [ho, hx, hy, eqGuard, binOp, Op.intArith]
theorem yl_quo (h0 : n ≠ 0) : Yld P a W (.binOp .quo T x y T') (.int k (k.wrap (m.tdiv n))) := by
  intro op ho; unfold execOp; simp [ho, hx, hy, eqGuard, binOp, Op.intDiv, h0]
theorem yl_rem (h0 : n ≠ 0) : Yld P a W (.binOp .rem T x y T') (.int k (m.tmod n)) := by
  intro op ho; unfold execOp; simp [ho, hx, hy, eqGuard, binOp, Op.intDiv, h0]
theorem yl_lss : Yld P a W (.binOp .lss T x y T') (.bool (decide (m < n))) := by
  intro op ho; unfold execOp; simp [ho, hx, hy, eqGuard, binOp, Op.intCmp]
theorem yl_leq : Yld P a W (.binOp .leq T x y T') (.bool (decide (m ≤ n))) := by
  intro op ho; unfold execOp; simp [ho, hx, hy, eqGuard, binOp, Op.intCmp]
theorem yl_gtr : Yld P a W (.binOp .gtr T x y T') (.bool (decide (n < m))) := by
  intro op ho; unfold execOp; simp [ho, hx, hy, eqGuard, binOp, Op.intCmp]
theorem yl_geq : Yld P a W (.binOp .geq T x y T') (.bool (decide (n ≤ m))) := by
  intro op ho; unfold execOp; simp [ho, hx, hy, eqGuard, binOp, Op.intCmp]
theorem yl_eql : Yld P a W (.binOp .eql T x y T') (.bool (decide (m = n))) := by
  intro op ho; unfold execOp; simp [ho, hx, hy, eqGuard, binOp, Op.intCmp]; rfl
theorem yl_neq : Yld P a W (.binOp .neq T x y T') (.bool (!decide (m = n))) := by
  intro op ho; unfold execOp; simp [ho, hx, hy, eqGuard, binOp, Op.intCmp]; rfl
end
theorem yl_len {T : TypeId} {e n : Nat} {x : Operand} {p : Option Addr} {len c : Nat} (hT : TSl P T e n) (hx : a.eval x = .slice p len c) : Yld P a W (.call { callee := .builtin .len, args := #[x], argTypes := #[T] }) (.int .i64 len) := by
  intro op ho
  obtain ⟨inf, hu, hi, hs⟩ := hT.get
  unfold execOp
  simp [ho, resolve, invoke, builtin, Builtin.len_, hx, run_underlying hu, goInt]
theorem yl_indexAddr {T : TypeId} {e m : Nat} {x y : Operand} {b o len c : Nat} {k : IntKind} {i : Int} (hT : TSl P T e m) (hx : a.eval x = .slice (some ⟨b, o, none⟩) len c) (hy : a.eval y = .int k i) (h0 : 0 ≤ i) (h1 : i < len) :
    Yld P a W (.indexAddr T x y) (.pointer (some ⟨b, o + i.toNat * m, none⟩)) := by
  intro op ho
  obtain ⟨inf, hu, hi, hs⟩ := hT.get
  unfold execOp
  simp [ho, hx, hy, Instr.indexAt, asIntOf, run_underlying hu, sizeOf, typeInfo, hi, hs, h0, h1, Addr.add_mid]
theorem yl_field {T f off ft : Nat} {x : Operand} {vs : List Value} {v : Value} (hT : TFo P T f off) (hF : TFt P T f ft) (hS : TSc P ft) (hx : a.eval x = .agg vs.toArray) (hv : vs[off]? = some v) : Yld P a W (.field T x f) v := by
  intro op ho
  obtain ⟨fs, fl, inf, s, hu, hf, ho2, hi, hs⟩ := hT.get
  obtain ⟨d, hu2, hd⟩ := hS.get
  have h2 : fl.type = ft := by
    have := hF.h
    unfold tft at this
    rw [hu] at this
    dsimp only at this
    rw [hf] at this
    exact this
  subst h2
  have hq : (isAgg fl.type).run P W = .ok false W := isAgg_false hu2 hd
  have hlt : off < vs.length := (List.getElem?_eq_some_iff.1 hv).1
  unfold execOp
  simp [ho, hx, Instr.field, asAgg, run_underlying hu, hf, part, hq, ho2, hv]
end

end Go.Proofs.Ytohpbfcechbngaa
