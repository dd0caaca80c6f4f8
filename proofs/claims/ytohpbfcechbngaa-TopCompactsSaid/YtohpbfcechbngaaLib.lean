/- Small laws on worlds that have only grown: 'wext w os n' is w with new blocks behind it and another count of draws. -/
import Derived.Test.YtohpbfcechbngaaRows
import Derived.WalkKit
import Derived.WalkSpells
import Derived.WalkLawsBesides
import Derived.Handy
import Derived.Deep.QuietTactic
import Derived.BigQuiet
import Derived.Deep.RegionWith
import Derived.Deep.RegionHeld3
import Derived.Deep.DeepCutAuto
import Derived.Deep.CutBlock
namespace Go.Proofs.Ytohpbfcechbngaa
open Go.RowKit

/-! Short names: the printed walks are long. -/
theorem Zs {α : Type} (l : List α) (i : Nat) (a : α) : l.toArray.setIfInBounds i a = (l.set i a).toArray := List.setIfInBounds_toArray ..
theorem Zz {α : Type} (a b : α) (l : List α) : (a :: l).set 0 b = b :: l := rfl
theorem Zc {α : Type} (a b : α) (l : List α) (n : Nat) : (a :: l).set (n + 1) b = a :: l.set n b := rfl
theorem Zn {a b : Nat} (h : a ≠ b) : some a ≠ some b := fun e => h (Option.some.inj e)
theorem Ya (a b : Bool) : ((a && b) = true) = (a = true ∧ b = true) := Bool.and_eq_true a b
theorem Yb (a b : Bool) : ((a || b) = true) = (a = true ∨ b = true) := Bool.or_eq_true a b
theorem Yc {x y : Bool} : (x && y) = false ↔ x = false ∨ y = false := Bool.and_eq_false_iff
theorem Yd {x y : Bool} : (x || y) = false ↔ x = false ∧ y = false := Bool.or_eq_false_iff
theorem Ye (b : Bool) : ((!b) = true) = (b = false) := Bool.not_eq_true' b
theorem Yf (b : Bool) : ((!b) = false) = (b = true) := Bool.not_eq_false' b
theorem Yg {a b : Bool} : (!a) = b ↔ a = !b := Bool.not_eq_eq_eq_not
theorem Yh {p : Prop} [Decidable p] : (decide p = true) = p := decide_eq_true_eq
theorem Yi {p : Prop} {x : Decidable p} : decide p = false ↔ ¬p := decide_eq_false_iff_not
section
variable {α : Type} [BEq α] [LawfulBEq α] {a b : α}
theorem Yj : (a != b) = true ↔ a ≠ b := bne_iff_ne
theorem Yk : (a == b) = true ↔ a = b := beq_iff_eq
theorem Yl : (a == b) = false ↔ a ≠ b := beq_eq_false_iff_ne
theorem Ym : (a != b) = false ↔ a = b := bne_eq_false_iff_eq
end
theorem Yn {α : Sort _} (a b : α) : (a ≠ b) = ¬a = b := ne_eq a b
theorem Yo {a b : Int} : ¬a < b ↔ b ≤ a := Int.not_lt
theorem Yp {a b : Int} : ¬a ≤ b ↔ b < a := Int.not_le
theorem Yq (n : Int) (h : -9223372036854775808 ≤ n ∧ n ≤ 9223372036854775807) : IntKind.i64.wrap n = n := IntWalk.i64_in n h
theorem Yr (n : Int) (h : -9223372036854775808 ≤ n ∧ n ≤ 9223372036854775807) : wrap64 n = n := IntWalk.wrap64_in n h
theorem Ys : (!true) = false := rfl
theorem Yt : (!false) = true := rfl
def wext (w : World) (os : Array Obj) (n : Nat) : World := { w with heap := w.heap ++ os, drawn := n }

/-- 'a < b' in a dress of its own: its rules want no premises. -/
def LtD (a b : Nat) : Prop := a < b
def LtR (a b c : Nat) : Prop := b ≤ a ∧ a < b + c
theorem LtD.of_lt {a b : Nat} (h : a < b) : LtD a b := h
@[go_sem] theorem LtD_self (a n : Nat) : LtD a (a + n) = (0 < n) := by simp [LtD]
@[go_sem] theorem LtD_same (a m n : Nat) : LtD (a + m) (a + n) = (m < n) := by simp [LtD]
@[go_sem low] theorem LtD_add (a b c : Nat) : LtD a (b + c) = (LtD a b ∨ LtR a b c) := by
  apply propext; unfold LtD LtR; omega

section
variable (w : World) (os os2 : Array Obj) (n m b i : Nat) (v : Value) (o : Obj)
@[simp, go_sem] theorem wext_size : (wext w os n).heap.size = w.heap.size + os.size := by simp [wext]
@[simp, go_sem] theorem wext_tape : (wext w os n).tape = w.tape := rfl
@[simp, go_sem] theorem wext_os : (wext w os n).os = w.os := rfl
@[simp, go_sem] theorem wext_output : (wext w os n).output = w.output := rfl
theorem wext_block (h : b < w.heap.size) : (wext w os n).heap[b]? = w.heap[b]? := by
  simp [wext, Array.getElem?_append_left h]
@[go_sem] theorem wext_cell (h : LtD b w.heap.size) : (wext w os n).cell? ⟨b, i, none⟩ = w.cell? ⟨b, i, none⟩ :=
  World.cell?_of_block (a := ⟨b, i, none⟩) (wext_block w os n b h)
@[go_sem] theorem wext_frozen (h : LtD b w.heap.size) : (wext w os n).frozen? ⟨b, i, none⟩ = w.frozen? ⟨b, i, none⟩ :=
  World.frozen?_of_block (a := ⟨b, i, none⟩) (wext_block w os n b h)
@[go_sem] theorem wext_setCell (h : LtD b w.heap.size) : (wext w os n).setCell ⟨b, i, none⟩ v = wext (w.setCell ⟨b, i, none⟩ v) os n := by
  unfold wext World.setCell
  congr 1
  apply Array.ext_getElem?
  intro k
  simp only [Array.getElem?_modify, Array.getElem?_append, Array.size_modify]
  by_cases hk : k < w.heap.size
  · simp [hk]
  · have hb : ¬ b = k := by unfold LtD at h; omega
    simp [hk, hb]
@[go_sem high] theorem cell_alloc_past (h : LtD b w.heap.size) : (w.alloc o).cell? ⟨b, i, none⟩ = w.cell? ⟨b, i, none⟩ := World.cell?_alloc_past o b i h
@[go_sem high] theorem frozen_alloc_past (h : LtD b w.heap.size) : (w.alloc o).frozen? ⟨b, i, none⟩ = w.frozen? ⟨b, i, none⟩ := World.frozen?_alloc_past o b i h
@[go_sem high] theorem setCell_alloc_past (h : LtD b w.heap.size) : (w.alloc o).setCell ⟨b, i, none⟩ v = (w.setCell ⟨b, i, none⟩ v).alloc o := World.setCell_alloc_past o b i v h
@[go_sem] theorem wext_drew : (wext w os n).drew = wext w os (n + 1) := rfl
theorem wext_wext : wext (wext w os n) os2 m = wext w (os ++ os2) m := by
  unfold wext; simp [Array.append_assoc]
@[go_sem] theorem drew_wext : wext w.drew os n = wext w os n := rfl
end

def Ext (w w' : World) : Prop := ∃ os n, w' = wext w os n

theorem Ext.of_below {w w' : World} (h : Below w.heap.size w w') : Ext w w' := by
  refine ⟨w'.heap.extract w.heap.size w'.heap.size, w'.drawn, ?_⟩
  obtain ⟨h1, h2, h3, h4, h5⟩ := h
  cases w' with
  | mk heap tape drawn os output =>
    simp only at h1 h2 h3 h4 h5
    subst h1 h2 h3
    unfold wext
    congr 1
    apply Array.ext_getElem?
    intro k
    simp only [Array.getElem?_append]
    split
    · rename_i hk; exact h5 k hk
    · rename_i hk
      simp only [Array.getElem?_extract]
      by_cases hk2 : k < heap.size
      · rw [if_pos (by omega)]; congr 1; omega
      · rw [if_neg (by omega)]; simp; omega

theorem Below.wext {B : Nat} {a w : World} (h : Below B a w) (hB : B ≤ w.heap.size) (os : Array Obj) (n : Nat) : Below B a (wext w os n) :=
  h.trans ⟨rfl, rfl, rfl, by simp, fun k hk => wext_block w os n k (by omega)⟩

theorem Ext.below {w w' : World} (h : Ext w w') : Below w.heap.size w w' := by
  obtain ⟨os, n, rfl⟩ := h
  exact Below.wext (Below.refl _ _) (Nat.le_refl _) os n

theorem Ext.refl (w : World) : Ext w w := ⟨#[], w.drawn, by simp [Go.Proofs.Ytohpbfcechbngaa.wext]⟩
theorem Ext.trans {a b c : World} (h : Ext a b) (k : Ext b c) : Ext a c := by
  obtain ⟨os, n, rfl⟩ := h
  obtain ⟨os2, m, rfl⟩ := k
  exact ⟨_, _, wext_wext _ _ _ _ _⟩
theorem Ext.al {w W : World} (h : Ext w W) (o : Obj) : Ext w (W.alloc o) := h.trans (Ext.of_below ((Below.refl _ _).alloc (Nat.le_refl _) o))

theorem int_eq_le (a b : Int) : (a = b) = (a ≤ b ∧ b ≤ a) := propext ⟨fun h => by omega, fun h => by omega⟩
theorem ret_b {a b : Bool} (h : a = b) : Ending.returned (.bool a) = .returned (.bool b) := by rw [h]
theorem ret_i {k : IntKind} {a b : Int} (h : a = b) : Ending.returned (.int k a) = .returned (.int k b) := by rw [h]

structure Grow where
  os : Array Obj
  n : Nat
instance : Inhabited Grow := ⟨⟨#[], 0⟩⟩

/-- A callee's contract, met inside a region in whatever order: the world has only grown. -/
theorem Calls.ext_of {P : Program} {f : FuncId} {args : Array Value} {w : World} {os : Array Obj} {n : Nat} {v : Value}
    (h : Calls P f args (wext w os n) fun e w' => e = .returned v ∧ Ext (wext w os n) w') : Calls P f args (wext w os n) fun e w'' => e = .returned v ∧ ∃ g : Grow, w'' = wext w g.os g.n :=
  h.mono fun _ _ ⟨he, os2, m, hm⟩ => ⟨he, ⟨os ++ os2, m⟩, by rw [hm, wext_wext]⟩

theorem wext_drawn (w : World) (n : Nat) : ∃ g : Grow, ({ w with drawn := n } : World) = wext w g.os g.n := ⟨⟨#[], n⟩, by simp [wext]⟩

/-- A region that draws its order, whose operations read and whose callees make memory of their own: one walk in the order of the text. -/
theorem wp_region_ext {P : Program} {id : Nat} {l : List Oper} {Q : Exit → Act → World → Prop} {a : Act} {w : World} (hm : P.follows .mixedOrders = true) (hB : Region.lexB .any l.toArray = true)
    (h : wpQuiet P l.toArray (fun w' => ∃ g : Grow, w' = wext w g.os g.n) (fun a' => ∀ w', (∃ g : Grow, w' = wext w g.os g.n) → Q .normal a' w') l a) : (Code.region id l.toArray true).wp P Q a w :=
  wp_region_quiet (C := fun w' => ∃ g : Grow, w' = wext w g.os g.n) hm hB (wext_drawn w _) (by simpa using h)

/-! ### A guard that is not decided: the guarded operation's slot holds 'gv g v': v if the guard says yes, else nothing. -/
def gv (g : Bool) (v : Value) : Value := bif g then v else undef
theorem gv_true' (v : Value) : gv true v = v := rfl
theorem gv_false' (v : Value) : gv false v = undef := rfl
attribute [irreducible] gv
@[simp, go_sem] theorem gv_true (v : Value) : gv true v = v := gv_true' v
@[simp, go_sem] theorem gv_false (v : Value) : gv false v = undef := gv_false' v

def asB : Value → Option Bool
  | .bool b => some b
  | _ => none

section
variable {P : Program} {ops : Array Oper} {C : World → Prop} {Q : Act → Prop} {a : Act} {o : Oper} {rest : List Oper}

theorem wpQuiet_lift {g : Bool} {v : Value} (hw : Region.wanted o (yielded ops a.tmps) = g) (hq : g = true → ∀ w, C w → o.quietAt P a C w v)
    (h : wpQuiet P ops C Q rest (a.put o.dst (gv g v))) : wpQuiet P ops C Q (o :: rest) a := by
  cases g with
  | true =>
    rw [gv_true] at h
    exact wpQuiet_step fun K hK => by rw [if_pos hw]; exact ⟨v, hq rfl, hK _ h⟩
  | false =>
    rw [gv_false] at h
    exact wpQuiet_step fun K hK => by rw [if_neg (by rw [hw]; exact Bool.false_ne_true)]; exact hK _ h

theorem wanted_of {j : Nat} {want : Bool} (hg : o.guard = some (j, want)) : Region.wanted o (yielded ops a.tmps) = (yielded ops a.tmps j == some want) := by
  unfold Region.wanted
  rw [hg]

theorem wpQuiet_liftE {g : Bool} (hw : Region.wanted o (yielded ops a.tmps) = g) (h : ∃ v, (g = true → ∀ w, C w → o.quietAt P a C w v) ∧ wpQuiet P ops C Q rest (a.put o.dst (gv g v))) : wpQuiet P ops C Q (o :: rest) a := by
  obtain ⟨v, h1, h2⟩ := h
  exact wpQuiet_lift hw h1 h2

theorem yielded_at {j dj : Nat} {v : Value} (hj : (ops[j]?).bind (·.dst) = some dj) (hs : a.tmps[dj]? = some v) : yielded ops a.tmps j = asB v := by
  unfold yielded
  rw [hj]
  simp only [Option.bind_some, hs]
  cases v <;> rfl

theorem wanted_T {j dj : Nat} {g : Bool} (hg : o.guard = some (j, true)) (hj : (ops[j]?).bind (·.dst) = some dj) (hs : a.tmps[dj]? = some (.bool g)) : Region.wanted o (yielded ops a.tmps) = g := by
  rw [wanted_of hg, yielded_at hj hs]
  cases g <;> rfl
theorem wanted_F {j dj : Nat} {g : Bool} (hg : o.guard = some (j, false)) (hj : (ops[j]?).bind (·.dst) = some dj) (hs : a.tmps[dj]? = some (.bool g)) : Region.wanted o (yielded ops a.tmps) = !g := by
  rw [wanted_of hg, yielded_at hj hs]
  cases g <;> rfl
theorem wanted_T2 {j dj : Nat} {g0 g : Bool} (hg : o.guard = some (j, true)) (hj : (ops[j]?).bind (·.dst) = some dj) (hs : a.tmps[dj]? = some (gv g0 (.bool g))) : Region.wanted o (yielded ops a.tmps) = (g0 && g) := by
  rw [wanted_of hg, yielded_at hj hs]
  cases g0 with
  | true => rw [gv_true]; cases g <;> rfl
  | false => rw [gv_false]; rfl
theorem wanted_F2 {j dj : Nat} {g0 g : Bool} (hg : o.guard = some (j, false)) (hj : (ops[j]?).bind (·.dst) = some dj) (hs : a.tmps[dj]? = some (gv g0 (.bool g))) : Region.wanted o (yielded ops a.tmps) = (g0 && !g) := by
  rw [wanted_of hg, yielded_at hj hs]
  cases g0 with
  | true => rw [gv_true]; cases g <;> rfl
  | false => rw [gv_false]; rfl

/-- A pick behind '&&' (and '||'), its condition not decided. -/
theorem wpQuiet_pick_and {c x : Operand} {g y : Bool} (ho : o.op = .pick c x (.const (.bool false))) (hg : o.guard = none) (hc : a.eval c = .bool g) (hx : a.eval x = gv g (.bool y))
    (h : wpQuiet P ops C Q rest (a.put o.dst (.bool (g && y)))) : wpQuiet P ops C Q (o :: rest) a := by
  refine wpQuiet_step fun K hK => ?_
  rw [if_pos (by unfold Region.wanted; rw [hg])]
  refine ⟨.bool (g && y), fun w hw => ?_, hK _ h⟩
  unfold Oper.quietAt
  have : execOp a.eval o = pure (.value (.bool (g && y))) := by
    unfold execOp
    rw [ho]
    simp only [hc, hx]
    cases g <;> simp [asBool] <;> rfl
  rw [this]
  exact ⟨rfl, rfl⟩
theorem wpQuiet_pick_or {c x : Operand} {g y : Bool} (ho : o.op = .pick c (.const (.bool true)) x) (hg : o.guard = none) (hc : a.eval c = .bool g) (hx : a.eval x = gv (!g) (.bool y))
    (h : wpQuiet P ops C Q rest (a.put o.dst (.bool (g || y)))) : wpQuiet P ops C Q (o :: rest) a := by
  refine wpQuiet_step fun K hK => ?_
  rw [if_pos (by unfold Region.wanted; rw [hg])]
  refine ⟨.bool (g || y), fun w hw => ?_, hK _ h⟩
  unfold Oper.quietAt
  have : execOp a.eval o = pure (.value (.bool (g || y))) := by
    unfold execOp
    rw [ho]
    simp only [hc, hx]
    cases g <;> simp [asBool] <;> rfl
  rw [this]
  exact ⟨rfl, rfl⟩
/-- The same under a guard 'g0' of its own. -/
theorem wpQuiet_gpick_and {c x : Operand} {g0 g y : Bool} (hw : Region.wanted o (yielded ops a.tmps) = g0) (ho : o.op = .pick c x (.const (.bool false))) (hc : a.eval c = gv g0 (.bool g)) (hx : a.eval x = gv (g0 && g) (.bool y))
    (h : wpQuiet P ops C Q rest (a.put o.dst (gv g0 (.bool (g && y))))) : wpQuiet P ops C Q (o :: rest) a := by
  refine wpQuiet_lift hw (fun e w hw => ?_) h
  subst e
  unfold Oper.quietAt
  have : execOp a.eval o = pure (.value (.bool (g && y))) := by
    unfold execOp
    rw [ho]
    simp only [hc, hx]
    cases g <;> simp [asBool] <;> rfl
  rw [this]
  exact ⟨rfl, rfl⟩
theorem wpQuiet_gpick_or {c x : Operand} {g0 g y : Bool} (hw : Region.wanted o (yielded ops a.tmps) = g0) (ho : o.op = .pick c (.const (.bool true)) x) (hc : a.eval c = gv g0 (.bool g)) (hx : a.eval x = gv (g0 && !g) (.bool y))
    (h : wpQuiet P ops C Q rest (a.put o.dst (gv g0 (.bool (g || y))))) : wpQuiet P ops C Q (o :: rest) a := by
  refine wpQuiet_lift hw (fun e w hw => ?_) h
  subst e
  unfold Oper.quietAt
  have : execOp a.eval o = pure (.value (.bool (g || y))) := by
    unfold execOp
    rw [ho]
    simp only [hc, hx]
    cases g <;> simp [asBool] <;> rfl
  rw [this]
  exact ⟨rfl, rfl⟩
theorem ev_tmp {n : Nat} {X : Value} (h : a.tmps[n]? = some X) : a.eval (.tmp n) = X := by
  unfold Act.eval; simp only; rw [Array.getD_eq_getD_getElem?, h]; rfl
theorem ev_const {X : Value} : a.eval (.const X) = X := rfl
theorem qa_move {n : Nat} {X : Value} (ho : o.op = .move (.tmp n)) (hx : a.tmps[n]? = some X) {v : Value} (h : X = v) : ∀ w, C w → o.quietAt P a C w v := by
  intro w hw; subst h; unfold Oper.quietAt execOp; simp only [ho]; rw [ev_tmp hx]; exact ⟨rfl, rfl⟩
theorem qa_load {t : TypeId} {n : Nat} {X v : Value} (ho : o.op = .load t (.tmp n)) (hx : a.tmps[n]? = some X) (h : ∀ w, C w → Oper.quietUpon P C w v ((do let y ← Instr.loadAt t X; pure (.value y) : Sem Next).run P w)) : ∀ w, C w → o.quietAt P a C w v := by
  intro w hw; unfold Oper.quietAt execOp; simp only [ho]; rw [ev_tmp hx]; exact h w hw
theorem qa_fieldAddr {t : TypeId} {k : Nat} {n : Nat} {X v : Value} (ho : o.op = .fieldAddr t (.tmp n) k) (hx : a.tmps[n]? = some X) (h : ∀ w, C w → Oper.quietUpon P C w v ((do let y ← Instr.fieldAt t X k; pure (.value y) : Sem Next).run P w)) : ∀ w, C w → o.quietAt P a C w v := by
  intro w hw; unfold Oper.quietAt execOp; simp only [ho]; rw [ev_tmp hx]; exact h w hw
theorem qa_field {t : TypeId} {k : Nat} {n : Nat} {X v : Value} (ho : o.op = .field t (.tmp n) k) (hx : a.tmps[n]? = some X) (h : ∀ w, C w → Oper.quietUpon P C w v ((do let y ← Instr.field t X k; pure (.value y) : Sem Next).run P w)) : ∀ w, C w → o.quietAt P a C w v := by
  intro w hw; unfold Oper.quietAt execOp; simp only [ho]; rw [ev_tmp hx]; exact h w hw
theorem qa_extract {k : Nat} {n : Nat} {X v : Value} (ho : o.op = .extract (.tmp n) k) (hx : a.tmps[n]? = some X) (h : ∀ w, C w → Oper.quietUpon P C w v ((do let y ← Instr.extract X k; pure (.value y) : Sem Next).run P w)) : ∀ w, C w → o.quietAt P a C w v := by
  intro w hw; unfold Oper.quietAt execOp; simp only [ho]; rw [ev_tmp hx]; exact h w hw
theorem qa_unOp {op : UnOp} {t : TypeId} {n : Nat} {X v : Value} (ho : o.op = .unOp op t (.tmp n)) (hx : a.tmps[n]? = some X) (h : ∀ w, C w → Oper.quietUpon P C w v ((do let y ← Op.unary op X; pure (.value y) : Sem Next).run P w)) : ∀ w, C w → o.quietAt P a C w v := by
  intro w hw; unfold Oper.quietAt execOp; simp only [ho]; rw [ev_tmp hx]; exact h w hw
theorem qa_binOp_tt {op : BinOp} {t t2 : TypeId} {n m : Nat} {X Y v : Value} (ho : o.op = .binOp op t (.tmp n) (.tmp m) t2) (hx : a.tmps[n]? = some X) (hy : a.tmps[m]? = some Y) (h : ∀ w, C w → Oper.quietUpon P C w v ((do let z ← (do eqGuard op t (.tmp n) (.tmp m) X Y; binOp op t X Y : Sem Value); pure (.value z) : Sem Next).run P w)) : ∀ w, C w → o.quietAt P a C w v := by
  intro w hw; unfold Oper.quietAt execOp; simp only [ho]; rw [ev_tmp hx, ev_tmp hy]; exact h w hw
theorem qa_binOp_tc {op : BinOp} {t t2 : TypeId} {n : Nat} {X Y v : Value} (ho : o.op = .binOp op t (.tmp n) (.const Y) t2) (hx : a.tmps[n]? = some X) (h : ∀ w, C w → Oper.quietUpon P C w v ((do let z ← (do eqGuard op t (.tmp n) (.const Y) X Y; binOp op t X Y : Sem Value); pure (.value z) : Sem Next).run P w)) : ∀ w, C w → o.quietAt P a C w v := by
  intro w hw; unfold Oper.quietAt execOp; simp only [ho]; rw [ev_tmp hx, ev_const]; exact h w hw
theorem qa_binOp_ct {op : BinOp} {t t2 : TypeId} {m : Nat} {X Y v : Value} (ho : o.op = .binOp op t (.const X) (.tmp m) t2) (hy : a.tmps[m]? = some Y) (h : ∀ w, C w → Oper.quietUpon P C w v ((do let z ← (do eqGuard op t (.const X) (.tmp m) X Y; binOp op t X Y : Sem Value); pure (.value z) : Sem Next).run P w)) : ∀ w, C w → o.quietAt P a C w v := by
  intro w hw; unfold Oper.quietAt execOp; simp only [ho]; rw [ev_const, ev_tmp hy]; exact h w hw
theorem qa_indexAddr_tt {t : TypeId} {n m : Nat} {X Y v : Value} (ho : o.op = .indexAddr t (.tmp n) (.tmp m)) (hx : a.tmps[n]? = some X) (hy : a.tmps[m]? = some Y) (h : ∀ w, C w → Oper.quietUpon P C w v ((do let z ← Instr.indexAt t X Y; pure (.value z) : Sem Next).run P w)) : ∀ w, C w → o.quietAt P a C w v := by
  intro w hw; unfold Oper.quietAt execOp; simp only [ho]; rw [ev_tmp hx, ev_tmp hy]; exact h w hw
theorem qa_indexAddr_tc {t : TypeId} {n : Nat} {X Y v : Value} (ho : o.op = .indexAddr t (.tmp n) (.const Y)) (hx : a.tmps[n]? = some X) (h : ∀ w, C w → Oper.quietUpon P C w v ((do let z ← Instr.indexAt t X Y; pure (.value z) : Sem Next).run P w)) : ∀ w, C w → o.quietAt P a C w v := by
  intro w hw; unfold Oper.quietAt execOp; simp only [ho]; rw [ev_tmp hx, ev_const]; exact h w hw

theorem put_self {n : Nat} {X : Value} (h : a.tmps[n]? = some X) : a.put (some n) X = a := by
  cases a with
  | mk tmps defers =>
    unfold Act.put
    simp only [Act.mk.injEq, and_true]
    apply Array.ext_getElem?
    intro k
    simp only [Array.getElem?_setIfInBounds]
    by_cases hk : n = k
    · subst hk
      simp only [if_true]
      simp only at h
      rw [h]
      have : n < tmps.size := (Array.getElem?_eq_some_iff.1 h).1
      simp [this]
    · simp [hk]
/-- An operand that stands under a guard of its own, which holds where the operation's guard does. -/
theorem lift_put {n : Nat} {gx g : Bool} {X : Value} {K : Value → Prop} (hx : a.tmps[n]? = some (gv gx X)) (hgx : g = true → gx = true)
    (h : ∃ v, (g = true → ∀ w, C w → o.quietAt P (a.put (some n) X) C w v) ∧ K v) : ∃ v, (g = true → ∀ w, C w → o.quietAt P a C w v) ∧ K v := by
  obtain ⟨v, h1, h2⟩ := h
  refine ⟨v, fun e w hw => ?_, h2⟩
  have := h1 e w hw
  rw [hgx e, gv_true] at hx
  rwa [put_self hx] at this
theorem and_left {a b : Bool} (h : (a && b) = true) : a = true := by cases a <;> simp_all
theorem lift_move {n : Nat} {X : Value} {g : Bool} {K : Value → Prop} (ho : o.op = .move (.tmp n)) (hx : a.tmps[n]? = some X) (h : K X) : ∃ v, (g = true → ∀ w, C w → o.quietAt P a C w v) ∧ K v :=
  ⟨X, fun _ => qa_move ho hx rfl, h⟩
theorem lift_load {g : Bool} {K : Value → Prop} {t : TypeId} {n : Nat} {X : Value} (ho : o.op = .load t (.tmp n)) (hx : a.tmps[n]? = some X) (h : ∃ v, (g = true → ∀ w, C w → Oper.quietUpon P C w v ((do let y ← Instr.loadAt t X; pure (.value y) : Sem Next).run P w)) ∧ K v) : ∃ v, (g = true → ∀ w, C w → o.quietAt P a C w v) ∧ K v := by
  obtain ⟨v, h1, h2⟩ := h
  exact ⟨v, fun e => qa_load ho hx (h1 e), h2⟩
theorem lift_fieldAddr {g : Bool} {K : Value → Prop} {t : TypeId} {k : Nat} {n : Nat} {X : Value} (ho : o.op = .fieldAddr t (.tmp n) k) (hx : a.tmps[n]? = some X) (h : ∃ v, (g = true → ∀ w, C w → Oper.quietUpon P C w v ((do let y ← Instr.fieldAt t X k; pure (.value y) : Sem Next).run P w)) ∧ K v) : ∃ v, (g = true → ∀ w, C w → o.quietAt P a C w v) ∧ K v := by
  obtain ⟨v, h1, h2⟩ := h
  exact ⟨v, fun e => qa_fieldAddr ho hx (h1 e), h2⟩
theorem lift_field {g : Bool} {K : Value → Prop} {t : TypeId} {k : Nat} {n : Nat} {X : Value} (ho : o.op = .field t (.tmp n) k) (hx : a.tmps[n]? = some X) (h : ∃ v, (g = true → ∀ w, C w → Oper.quietUpon P C w v ((do let y ← Instr.field t X k; pure (.value y) : Sem Next).run P w)) ∧ K v) : ∃ v, (g = true → ∀ w, C w → o.quietAt P a C w v) ∧ K v := by
  obtain ⟨v, h1, h2⟩ := h
  exact ⟨v, fun e => qa_field ho hx (h1 e), h2⟩
theorem lift_extract {g : Bool} {K : Value → Prop} {k : Nat} {n : Nat} {X : Value} (ho : o.op = .extract (.tmp n) k) (hx : a.tmps[n]? = some X) (h : ∃ v, (g = true → ∀ w, C w → Oper.quietUpon P C w v ((do let y ← Instr.extract X k; pure (.value y) : Sem Next).run P w)) ∧ K v) : ∃ v, (g = true → ∀ w, C w → o.quietAt P a C w v) ∧ K v := by
  obtain ⟨v, h1, h2⟩ := h
  exact ⟨v, fun e => qa_extract ho hx (h1 e), h2⟩
theorem lift_unOp {g : Bool} {K : Value → Prop} {op : UnOp} {t : TypeId} {n : Nat} {X : Value} (ho : o.op = .unOp op t (.tmp n)) (hx : a.tmps[n]? = some X) (h : ∃ v, (g = true → ∀ w, C w → Oper.quietUpon P C w v ((do let y ← Op.unary op X; pure (.value y) : Sem Next).run P w)) ∧ K v) : ∃ v, (g = true → ∀ w, C w → o.quietAt P a C w v) ∧ K v := by
  obtain ⟨v, h1, h2⟩ := h
  exact ⟨v, fun e => qa_unOp ho hx (h1 e), h2⟩
theorem lift_binOp_tt {g : Bool} {K : Value → Prop} {op : BinOp} {t t2 : TypeId} {n m : Nat} {X Y : Value} (ho : o.op = .binOp op t (.tmp n) (.tmp m) t2) (hx : a.tmps[n]? = some X) (hy : a.tmps[m]? = some Y) (h : ∃ v, (g = true → ∀ w, C w → Oper.quietUpon P C w v ((do let z ← (do eqGuard op t (.tmp n) (.tmp m) X Y; binOp op t X Y : Sem Value); pure (.value z) : Sem Next).run P w)) ∧ K v) : ∃ v, (g = true → ∀ w, C w → o.quietAt P a C w v) ∧ K v := by
  obtain ⟨v, h1, h2⟩ := h
  exact ⟨v, fun e => qa_binOp_tt ho hx hy (h1 e), h2⟩
theorem lift_binOp_tc {g : Bool} {K : Value → Prop} {op : BinOp} {t t2 : TypeId} {n : Nat} {X Y : Value} (ho : o.op = .binOp op t (.tmp n) (.const Y) t2) (hx : a.tmps[n]? = some X) (h : ∃ v, (g = true → ∀ w, C w → Oper.quietUpon P C w v ((do let z ← (do eqGuard op t (.tmp n) (.const Y) X Y; binOp op t X Y : Sem Value); pure (.value z) : Sem Next).run P w)) ∧ K v) : ∃ v, (g = true → ∀ w, C w → o.quietAt P a C w v) ∧ K v := by
  obtain ⟨v, h1, h2⟩ := h
  exact ⟨v, fun e => qa_binOp_tc ho hx (h1 e), h2⟩
theorem lift_binOp_ct {g : Bool} {K : Value → Prop} {op : BinOp} {t t2 : TypeId} {m : Nat} {X Y : Value} (ho : o.op = .binOp op t (.const X) (.tmp m) t2) (hy : a.tmps[m]? = some Y) (h : ∃ v, (g = true → ∀ w, C w → Oper.quietUpon P C w v ((do let z ← (do eqGuard op t (.const X) (.tmp m) X Y; binOp op t X Y : Sem Value); pure (.value z) : Sem Next).run P w)) ∧ K v) : ∃ v, (g = true → ∀ w, C w → o.quietAt P a C w v) ∧ K v := by
  obtain ⟨v, h1, h2⟩ := h
  exact ⟨v, fun e => qa_binOp_ct ho hy (h1 e), h2⟩
theorem lift_indexAddr_tt {g : Bool} {K : Value → Prop} {t : TypeId} {n m : Nat} {X Y : Value} (ho : o.op = .indexAddr t (.tmp n) (.tmp m)) (hx : a.tmps[n]? = some X) (hy : a.tmps[m]? = some Y) (h : ∃ v, (g = true → ∀ w, C w → Oper.quietUpon P C w v ((do let z ← Instr.indexAt t X Y; pure (.value z) : Sem Next).run P w)) ∧ K v) : ∃ v, (g = true → ∀ w, C w → o.quietAt P a C w v) ∧ K v := by
  obtain ⟨v, h1, h2⟩ := h
  exact ⟨v, fun e => qa_indexAddr_tt ho hx hy (h1 e), h2⟩
theorem lift_indexAddr_tc {g : Bool} {K : Value → Prop} {t : TypeId} {n : Nat} {X Y : Value} (ho : o.op = .indexAddr t (.tmp n) (.const Y)) (hx : a.tmps[n]? = some X) (h : ∃ v, (g = true → ∀ w, C w → Oper.quietUpon P C w v ((do let z ← Instr.indexAt t X Y; pure (.value z) : Sem Next).run P w)) ∧ K v) : ∃ v, (g = true → ∀ w, C w → o.quietAt P a C w v) ∧ K v := by
  obtain ⟨v, h1, h2⟩ := h
  exact ⟨v, fun e => qa_indexAddr_tc ho hx (h1 e), h2⟩

/-- A move under a guard. -/
theorem wpQuiet_gmove {x : Operand} {g0 : Bool} {v : Value} (hw : Region.wanted o (yielded ops a.tmps) = g0) (ho : o.op = .move x) (hx : a.eval x = gv g0 v)
    (h : wpQuiet P ops C Q rest (a.put o.dst (gv g0 v))) : wpQuiet P ops C Q (o :: rest) a := by
  refine wpQuiet_lift hw (fun e w hw => ?_) h
  subst e
  unfold Oper.quietAt
  have : execOp a.eval o = pure (.value v) := by
    unfold execOp
    rw [ho]
    simp only [hx, gv_true]
  rw [this]
  exact ⟨rfl, rfl⟩
end

theorem wpList_of_quiet {P : Program} {ops : Array Oper} {C : World → Prop} {Q : Exit → Act → World → Prop} : ∀ (l : List Oper) (a : Act) (w : World), C w →
    wpQuiet P ops C (fun a' => ∀ w', C w' → Q .normal a' w') l a → wpList P ops Q l a w
  | [], a, w, hC, h => h w hC
  | o :: l, a, w, hC, h => by
    unfold wpQuiet at h
    unfold wpList
    split
    · rename_i hw
      rw [if_pos hw] at h
      exact .inl (Oper.wp_of_quiet hC (fun a' w' hw' hK => wpList_of_quiet l a' w' hw' hK) h)
    · rename_i hw
      rw [if_neg hw] at h
      exact wpList_of_quiet l _ w hC h

/-- A region in the order of the text, that reads and calls. -/
theorem wp_region_ext0 {P : Program} {id : Nat} {l : List Oper} {Q : Exit → Act → World → Prop} {a : Act} {w : World}
    (h : wpQuiet P l.toArray (fun w' => ∃ g : Grow, w' = wext w g.os g.n) (fun a' => ∀ w', (∃ g : Grow, w' = wext w g.os g.n) → Q .normal a' w') l a) : (Code.region id l.toArray false).wp P Q a w :=
  wp_region_lit (wpList_of_quiet (C := fun w' => ∃ g : Grow, w' = wext w g.os g.n) l a w ⟨⟨#[], w.drawn⟩, by simp [wext]⟩ h)
/-- A region in the order of the text, that only reads. -/
theorem wp_region_same {P : Program} {id : Nat} {l : List Oper} {Q : Exit → Act → World → Prop} {a : Act} {w : World}
    (h : wpQuiet P l.toArray (fun w' => w' = w) (fun a' => ∀ w', w' = w → Q .normal a' w') l a) : (Code.region id l.toArray false).wp P Q a w :=
  wp_region_lit (wpList_of_quiet (C := fun w' => w' = w) l a w rfl h)

end Go.Proofs.Ytohpbfcechbngaa
