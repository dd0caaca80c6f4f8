/- Small laws on worlds that have only grown: 'wext w os n' is w with new blocks behind it and another count of draws. -/
/- Slices: 'w.isSl v m n xs': the slice v of n elements, m cells each, reads in w as the cells xs. -/
/- A region in the order of the text, whose first operations only read and whose last ones write. -/
/- A region that draws its order: its first operations are quiet in a class of worlds (they read, or call what only makes memory of its own), its last ones stand in one forced order and may write.
   (The road is that of the kit's own theorem on still operations before a tail; here the operations are quiet in a class.) -/
/- A region that draws its order: its operations that only read may be taken first wherever the operations that could come ahead of them leave the world in a class; the others are taken one by one.
   (The road is that of the kit's own theorem on operations taken first in every world that meets S; here S is asked only behind the early operations.) -/
/- Walks over blocks that are known whole. -/
import Derived.Test.YtmajkjkakciaiaaRows
import Derived.WalkKit
import Derived.WalkSpells
import Derived.WalkLawsBesides
import Derived.Handy
import Derived.Deep.QuietTactic
import Derived.BigQuiet
import Derived.Deep.RegionWith
import Derived.Deep.RegionHeld3
import Derived.Deep.DeepCutAuto
import Derived.Deep.CutBlock
import Derived.StillTail
import Derived.Deep.Quiet
import Derived.OrdersHeld
import Derived.Deep.MidRow
namespace Go.Proofs.Ytmajkjkakciaiaa
open Go.RowKit

/-! Short names: the printed walks are long. -/
theorem Zs {α : Type} (l : List α) (i : Nat) (a : α) : l.toArray.setIfInBounds i a = (l.set i a).toArray := List.setIfInBounds_toArray ..
theorem Zz {α : Type} (a b : α) (l : List α) : (a :: l).set 0 b = b :: l := rfl
theorem Zc {α : Type} (a b : α) (l : List α) (n : Nat) : (a :: l).set (n + 1) b = a :: l.set n b := rfl
theorem Zn {a b : Nat} (h : a ≠ b) : some a ≠ some b := fun e => h (Option.some.inj e)
theorem Ya (a b : Bool) : ((a && b) = true) = (a = true ∧ b = true) := Bool.and_eq_true a b
theorem Yb (a b : Bool) : ((a || b) = true) = (a = true ∨ b = true) := Bool.or_eq_true a b
theorem Yc {x y : Bool} : (x && y) = false ↔ x = false ∨ y = false := Bool.and_eq_false_iff
theorem Yd {x y : Bool} : (x || y) = false ↔ x = false ∧ y = false := Bool.or_eq_false_iff
theorem Ye (b : Bool) : ((!b) = true) = (b = false) := Bool.not_eq_true' b
theorem Yf (b : Bool) : ((!b) = false) = (b = true) := Bool.not_eq_false' b
theorem Yg {a b : Bool} : (!a) = b ↔ a = !b := Bool.not_eq_eq_eq_not
theorem Yh {p : Prop} [Decidable p] : (decide p = true) = p := decide_eq_true_eq
theorem Yi {p : Prop} {x : Decidable p} : decide p = false ↔ ¬p := decide_eq_false_iff_not
section
variable {α : Type} [BEq α] [LawfulBEq α] {a b : α}
theorem Yj : (a != b) = true ↔ a ≠ b := bne_iff_ne
theorem Yk : (a == b) = true ↔ a = b := beq_iff_eq
theorem Yl : (a == b) = false ↔ a ≠ b := beq_eq_false_iff_ne
theorem Ym : (a != b) = false ↔ a = b := bne_eq_false_iff_eq
end
theorem Yn {α : Sort _} (a b : α) : (a ≠ b) = ¬a = b := ne_eq a b
theorem Yo {a b : Int} : ¬a < b ↔ b ≤ a := Int.not_lt
theorem Yp {a b : Int} : ¬a ≤ b ↔ b < a := Int.not_le
theorem Yq (n : Int) (h : -9223372036854775808 ≤ n ∧ n ≤ 9223372036854775807) : IntKind.i64.wrap n = n := IntWalk.i64_in n h
theorem Yr (n : Int) (h : -9223372036854775808 ≤ n ∧ n ≤ 9223372036854775807) : wrap64 n = n := IntWalk.wrap64_in n h
theorem Ys : (!true) = false := rfl
theorem Yt : (!false) = true := rfl
def wext (w : World) (os : Array Obj) (n : Nat) : World := { w with heap := w.heap ++ os, drawn := n }

/-- 'a < b' in a dress of its own: its rules want no premises. -/
def LtD (a b : Nat) : Prop := a < b
def LtR (a b c : Nat) : Prop := b ≤ a ∧ a < b + c
theorem LtD.of_lt {a b : Nat} (h : a < b) : LtD a b := h
@[go_sem] theorem LtD_self (a n : Nat) : LtD a (a + n) = (0 < n) := by simp [LtD]
@[go_sem] theorem LtD_same (a m n : Nat) : LtD (a + m) (a + n) = (m < n) := by simp [LtD]
@[go_sem low] theorem LtD_add (a b c : Nat) : LtD a (b + c) = (LtD a b ∨ LtR a b c) := by
  apply propext; unfold LtD LtR; omega

section
variable (w : World) (os os2 : Array Obj) (n m b i : Nat) (v : Value) (o : Obj)
@[simp, go_sem] theorem wext_size : (wext w os n).heap.size = w.heap.size + os.size := by simp [wext]
@[simp, go_sem] theorem wext_tape : (wext w os n).tape = w.tape := rfl
@[simp, go_sem] theorem wext_os : (wext w os n).os = w.os := rfl
@[simp, go_sem] theorem wext_output : (wext w os n).output = w.output := rfl
theorem wext_block (h : b < w.heap.size) : (wext w os n).heap[b]? = w.heap[b]? := by
  simp [wext, Array.getElem?_append_left h]
@[go_sem] theorem wext_cell (h : LtD b w.heap.size) : (wext w os n).cell? ⟨b, i, none⟩ = w.cell? ⟨b, i, none⟩ :=
  World.cell?_of_block (a := ⟨b, i, none⟩) (wext_block w os n b h)
@[go_sem] theorem wext_frozen (h : LtD b w.heap.size) : (wext w os n).frozen? ⟨b, i, none⟩ = w.frozen? ⟨b, i, none⟩ :=
  World.frozen?_of_block (a := ⟨b, i, none⟩) (wext_block w os n b h)
@[go_sem] theorem wext_setCell (h : LtD b w.heap.size) : (wext w os n).setCell ⟨b, i, none⟩ v = wext (w.setCell ⟨b, i, none⟩ v) os n := by
  unfold wext World.setCell
  congr 1
  apply Array.ext_getElem?
  intro k
  simp only [Array.getElem?_modify, Array.getElem?_append, Array.size_modify]
  by_cases hk : k < w.heap.size
  · simp [hk]
  · have hb : ¬ b = k := by unfold LtD at h; omega
    simp [hk, hb]
@[go_sem high] theorem cell_alloc_past (h : LtD b w.heap.size) : (w.alloc o).cell? ⟨b, i, none⟩ = w.cell? ⟨b, i, none⟩ := World.cell?_alloc_past o b i h
@[go_sem high] theorem frozen_alloc_past (h : LtD b w.heap.size) : (w.alloc o).frozen? ⟨b, i, none⟩ = w.frozen? ⟨b, i, none⟩ := World.frozen?_alloc_past o b i h
@[go_sem high] theorem setCell_alloc_past (h : LtD b w.heap.size) : (w.alloc o).setCell ⟨b, i, none⟩ v = (w.setCell ⟨b, i, none⟩ v).alloc o := World.setCell_alloc_past o b i v h
@[go_sem] theorem wext_drew : (wext w os n).drew = wext w os (n + 1) := rfl
theorem wext_wext : wext (wext w os n) os2 m = wext w (os ++ os2) m := by
  unfold wext; simp [Array.append_assoc]
@[go_sem] theorem drew_wext : wext w.drew os n = wext w os n := rfl
end

def Ext (w w' : World) : Prop := ∃ os n, w' = wext w os n

theorem Ext.of_below {w w' : World} (h : Below w.heap.size w w') : Ext w w' := by
  refine ⟨w'.heap.extract w.heap.size w'.heap.size, w'.drawn, ?_⟩
  obtain ⟨h1, h2, h3, h4, h5⟩ := h
  cases w' with
  | mk heap tape drawn os output =>
    simp only at h1 h2 h3 h4 h5
    subst h1 h2 h3
    unfold wext
    congr 1
    apply Array.ext_getElem?
    intro k
    simp only [Array.getElem?_append]
    split
    · rename_i hk; exact h5 k hk
    · rename_i hk
      simp only [Array.getElem?_extract]
      by_cases hk2 : k < heap.size
      · rw [if_pos (by omega)]; congr 1; omega
      · rw [if_neg (by omega)]; simp; omega

theorem Below.wext {B : Nat} {a w : World} (h : Below B a w) (hB : B ≤ w.heap.size) (os : Array Obj) (n : Nat) : Below B a (wext w os n) :=
  h.trans ⟨rfl, rfl, rfl, by simp, fun k hk => wext_block w os n k (by omega)⟩

theorem Ext.below {w w' : World} (h : Ext w w') : Below w.heap.size w w' := by
  obtain ⟨os, n, rfl⟩ := h
  exact Below.wext (Below.refl _ _) (Nat.le_refl _) os n

theorem Ext.refl (w : World) : Ext w w := ⟨#[], w.drawn, by simp [Go.Proofs.Ytmajkjkakciaiaa.wext]⟩
theorem Ext.trans {a b c : World} (h : Ext a b) (k : Ext b c) : Ext a c := by
  obtain ⟨os, n, rfl⟩ := h
  obtain ⟨os2, m, rfl⟩ := k
  exact ⟨_, _, wext_wext _ _ _ _ _⟩
theorem Ext.al {w W : World} (h : Ext w W) (o : Obj) : Ext w (W.alloc o) := h.trans (Ext.of_below ((Below.refl _ _).alloc (Nat.le_refl _) o))

theorem int_eq_le (a b : Int) : (a = b) = (a ≤ b ∧ b ≤ a) := propext ⟨fun h => by omega, fun h => by omega⟩
theorem ret_b {a b : Bool} (h : a = b) : Ending.returned (.bool a) = .returned (.bool b) := by rw [h]
theorem ret_i {k : IntKind} {a b : Int} (h : a = b) : Ending.returned (.int k a) = .returned (.int k b) := by rw [h]

structure Grow where
  os : Array Obj
  n : Nat
instance : Inhabited Grow := ⟨⟨#[], 0⟩⟩

/-- A callee's contract, met inside a region in whatever order: the world has only grown. -/
theorem Calls.ext_of {P : Program} {f : FuncId} {args : Array Value} {w : World} {os : Array Obj} {n : Nat} {v : Value}
    (h : Calls P f args (wext w os n) fun e w' => e = .returned v ∧ Ext (wext w os n) w') : Calls P f args (wext w os n) fun e w'' => e = .returned v ∧ ∃ g : Grow, w'' = wext w g.os g.n :=
  h.mono fun _ _ ⟨he, os2, m, hm⟩ => ⟨he, ⟨os ++ os2, m⟩, by rw [hm, wext_wext]⟩

theorem wext_drawn (w : World) (n : Nat) : ∃ g : Grow, ({ w with drawn := n } : World) = wext w g.os g.n := ⟨⟨#[], n⟩, by simp [wext]⟩

/-- A region that draws its order, whose operations read and whose callees make memory of their own: one walk in the order of the text. -/
theorem wp_region_ext {P : Program} {id : Nat} {l : List Oper} {Q : Exit → Act → World → Prop} {a : Act} {w : World} (hm : P.follows .mixedOrders = true) (hB : Region.lexB .any l.toArray = true)
    (h : wpQuiet P l.toArray (fun w' => ∃ g : Grow, w' = wext w g.os g.n) (fun a' => ∀ w', (∃ g : Grow, w' = wext w g.os g.n) → Q .normal a' w') l a) : (Code.region id l.toArray true).wp P Q a w :=
  wp_region_quiet (C := fun w' => ∃ g : Grow, w' = wext w g.os g.n) hm hB (wext_drawn w _) (by simpa using h)

/-! ### A guard that is not decided: the guarded operation's slot holds 'gv g v': v if the guard says yes, else nothing. -/
def gv (g : Bool) (v : Value) : Value := bif g then v else undef
theorem gv_true' (v : Value) : gv true v = v := rfl
theorem gv_false' (v : Value) : gv false v = undef := rfl
attribute [irreducible] gv
@[simp, go_sem] theorem gv_true (v : Value) : gv true v = v := gv_true' v
@[simp, go_sem] theorem gv_false (v : Value) : gv false v = undef := gv_false' v

def asB : Value → Option Bool
  | .bool b => some b
  | _ => none

section
variable {P : Program} {ops : Array Oper} {C : World → Prop} {Q : Act → Prop} {a : Act} {o : Oper} {rest : List Oper}

theorem wpQuiet_lift {g : Bool} {v : Value} (hw : Region.wanted o (yielded ops a.tmps) = g) (hq : g = true → ∀ w, C w → o.quietAt P a C w v)
    (h : wpQuiet P ops C Q rest (a.put o.dst (gv g v))) : wpQuiet P ops C Q (o :: rest) a := by
  cases g with
  | true =>
    rw [gv_true] at h
    exact wpQuiet_step fun K hK => by rw [if_pos hw]; exact ⟨v, hq rfl, hK _ h⟩
  | false =>
    rw [gv_false] at h
    exact wpQuiet_step fun K hK => by rw [if_neg (by rw [hw]; exact Bool.false_ne_true)]; exact hK _ h

theorem wanted_of {j : Nat} {want : Bool} (hg : o.guard = some (j, want)) : Region.wanted o (yielded ops a.tmps) = (yielded ops a.tmps j == some want) := by
  unfold Region.wanted
  rw [hg]

theorem wpQuiet_liftE {g : Bool} (hw : Region.wanted o (yielded ops a.tmps) = g) (h : ∃ v, (g = true → ∀ w, C w → o.quietAt P a C w v) ∧ wpQuiet P ops C Q rest (a.put o.dst (gv g v))) : wpQuiet P ops C Q (o :: rest) a := by
  obtain ⟨v, h1, h2⟩ := h
  exact wpQuiet_lift hw h1 h2

theorem yielded_at {j dj : Nat} {v : Value} (hj : (ops[j]?).bind (·.dst) = some dj) (hs : a.tmps[dj]? = some v) : yielded ops a.tmps j = asB v := by
  unfold yielded
  rw [hj]
  simp only [Option.bind_some, hs]
  cases v <;> rfl

theorem wanted_T {j dj : Nat} {g : Bool} (hg : o.guard = some (j, true)) (hj : (ops[j]?).bind (·.dst) = some dj) (hs : a.tmps[dj]? = some (.bool g)) : Region.wanted o (yielded ops a.tmps) = g := by
  rw [wanted_of hg, yielded_at hj hs]
  cases g <;> rfl
theorem wanted_F {j dj : Nat} {g : Bool} (hg : o.guard = some (j, false)) (hj : (ops[j]?).bind (·.dst) = some dj) (hs : a.tmps[dj]? = some (.bool g)) : Region.wanted o (yielded ops a.tmps) = !g := by
  rw [wanted_of hg, yielded_at hj hs]
  cases g <;> rfl
theorem wanted_T2 {j dj : Nat} {g0 g : Bool} (hg : o.guard = some (j, true)) (hj : (ops[j]?).bind (·.dst) = some dj) (hs : a.tmps[dj]? = some (gv g0 (.bool g))) : Region.wanted o (yielded ops a.tmps) = (g0 && g) := by
  rw [wanted_of hg, yielded_at hj hs]
  cases g0 with
  | true => rw [gv_true]; cases g <;> rfl
  | false => rw [gv_false]; rfl
theorem wanted_F2 {j dj : Nat} {g0 g : Bool} (hg : o.guard = some (j, false)) (hj : (ops[j]?).bind (·.dst) = some dj) (hs : a.tmps[dj]? = some (gv g0 (.bool g))) : Region.wanted o (yielded ops a.tmps) = (g0 && !g) := by
  rw [wanted_of hg, yielded_at hj hs]
  cases g0 with
  | true => rw [gv_true]; cases g <;> rfl
  | false => rw [gv_false]; rfl

/-- A pick behind '&&' (and '||'), its condition not decided. -/
theorem wpQuiet_pick_and {c x : Operand} {g y : Bool} (ho : o.op = .pick c x (.const (.bool false))) (hg : o.guard = none) (hc : a.eval c = .bool g) (hx : a.eval x = gv g (.bool y))
    (h : wpQuiet P ops C Q rest (a.put o.dst (.bool (g && y)))) : wpQuiet P ops C Q (o :: rest) a := by
  refine wpQuiet_step fun K hK => ?_
  rw [if_pos (by unfold Region.wanted; rw [hg])]
  refine ⟨.bool (g && y), fun w hw => ?_, hK _ h⟩
  unfold Oper.quietAt
  have : execOp a.eval o = pure (.value (.bool (g && y))) := by
    unfold execOp
    rw [ho]
    simp only [hc, hx]
    cases g <;> simp [asBool] <;> rfl
  rw [this]
  exact ⟨rfl, rfl⟩
theorem wpQuiet_pick_or {c x : Operand} {g y : Bool} (ho : o.op = .pick c (.const (.bool true)) x) (hg : o.guard = none) (hc : a.eval c = .bool g) (hx : a.eval x = gv (!g) (.bool y))
    (h : wpQuiet P ops C Q rest (a.put o.dst (.bool (g || y)))) : wpQuiet P ops C Q (o :: rest) a := by
  refine wpQuiet_step fun K hK => ?_
  rw [if_pos (by unfold Region.wanted; rw [hg])]
  refine ⟨.bool (g || y), fun w hw => ?_, hK _ h⟩
  unfold Oper.quietAt
  have : execOp a.eval o = pure (.value (.bool (g || y))) := by
    unfold execOp
    rw [ho]
    simp only [hc, hx]
    cases g <;> simp [asBool] <;> rfl
  rw [this]
  exact ⟨rfl, rfl⟩
/-- The same under a guard 'g0' of its own. -/
theorem wpQuiet_gpick_and {c x : Operand} {g0 g y : Bool} (hw : Region.wanted o (yielded ops a.tmps) = g0) (ho : o.op = .pick c x (.const (.bool false))) (hc : a.eval c = gv g0 (.bool g)) (hx : a.eval x = gv (g0 && g) (.bool y))
    (h : wpQuiet P ops C Q rest (a.put o.dst (gv g0 (.bool (g && y))))) : wpQuiet P ops C Q (o :: rest) a := by
  refine wpQuiet_lift hw (fun e w hw => ?_) h
  subst e
  unfold Oper.quietAt
  have : execOp a.eval o = pure (.value (.bool (g && y))) := by
    unfold execOp
    rw [ho]
    simp only [hc, hx]
    cases g <;> simp [asBool] <;> rfl
  rw [this]
  exact ⟨rfl, rfl⟩
theorem wpQuiet_gpick_or {c x : Operand} {g0 g y : Bool} (hw : Region.wanted o (yielded ops a.tmps) = g0) (ho : o.op = .pick c (.const (.bool true)) x) (hc : a.eval c = gv g0 (.bool g)) (hx : a.eval x = gv (g0 && !g) (.bool y))
    (h : wpQuiet P ops C Q rest (a.put o.dst (gv g0 (.bool (g || y))))) : wpQuiet P ops C Q (o :: rest) a := by
  refine wpQuiet_lift hw (fun e w hw => ?_) h
  subst e
  unfold Oper.quietAt
  have : execOp a.eval o = pure (.value (.bool (g || y))) := by
    unfold execOp
    rw [ho]
    simp only [hc, hx]
    cases g <;> simp [asBool] <;> rfl
  rw [this]
  exact ⟨rfl, rfl⟩
theorem ev_tmp {n : Nat} {X : Value} (h : a.tmps[n]? = some X) : a.eval (.tmp n) = X := by
  unfold Act.eval; simp only; rw [Array.getD_eq_getD_getElem?, h]; rfl
theorem ev_const {X : Value} : a.eval (.const X) = X := rfl
theorem qa_move {n : Nat} {X : Value} (ho : o.op = .move (.tmp n)) (hx : a.tmps[n]? = some X) {v : Value} (h : X = v) : ∀ w, C w → o.quietAt P a C w v := by
  intro w hw; subst h; unfold Oper.quietAt execOp; simp only [ho]; rw [ev_tmp hx]; exact ⟨rfl, rfl⟩
theorem qa_load {t : TypeId} {n : Nat} {X v : Value} (ho : o.op = .load t (.tmp n)) (hx : a.tmps[n]? = some X) (h : ∀ w, C w → Oper.quietUpon P C w v ((do let y ← Instr.loadAt t X; pure (.value y) : Sem Next).run P w)) : ∀ w, C w → o.quietAt P a C w v := by
  intro w hw; unfold Oper.quietAt execOp; simp only [ho]; rw [ev_tmp hx]; exact h w hw
theorem qa_fieldAddr {t : TypeId} {k : Nat} {n : Nat} {X v : Value} (ho : o.op = .fieldAddr t (.tmp n) k) (hx : a.tmps[n]? = some X) (h : ∀ w, C w → Oper.quietUpon P C w v ((do let y ← Instr.fieldAt t X k; pure (.value y) : Sem Next).run P w)) : ∀ w, C w → o.quietAt P a C w v := by
  intro w hw; unfold Oper.quietAt execOp; simp only [ho]; rw [ev_tmp hx]; exact h w hw
theorem qa_field {t : TypeId} {k : Nat} {n : Nat} {X v : Value} (ho : o.op = .field t (.tmp n) k) (hx : a.tmps[n]? = some X) (h : ∀ w, C w → Oper.quietUpon P C w v ((do let y ← Instr.field t X k; pure (.value y) : Sem Next).run P w)) : ∀ w, C w → o.quietAt P a C w v := by
  intro w hw; unfold Oper.quietAt execOp; simp only [ho]; rw [ev_tmp hx]; exact h w hw
theorem qa_extract {k : Nat} {n : Nat} {X v : Value} (ho : o.op = .extract (.tmp n) k) (hx : a.tmps[n]? = some X) (h : ∀ w, C w → Oper.quietUpon P C w v ((do let y ← Instr.extract X k; pure (.value y) : Sem Next).run P w)) : ∀ w, C w → o.quietAt P a C w v := by
  intro w hw; unfold Oper.quietAt execOp; simp only [ho]; rw [ev_tmp hx]; exact h w hw
theorem qa_unOp {op : UnOp} {t : TypeId} {n : Nat} {X v : Value} (ho : o.op = .unOp op t (.tmp n)) (hx : a.tmps[n]? = some X) (h : ∀ w, C w → Oper.quietUpon P C w v ((do let y ← Op.unary op X; pure (.value y) : Sem Next).run P w)) : ∀ w, C w → o.quietAt P a C w v := by
  intro w hw; unfold Oper.quietAt execOp; simp only [ho]; rw [ev_tmp hx]; exact h w hw
theorem qa_binOp_tt {op : BinOp} {t t2 : TypeId} {n m : Nat} {X Y v : Value} (ho : o.op = .binOp op t (.tmp n) (.tmp m) t2) (hx : a.tmps[n]? = some X) (hy : a.tmps[m]? = some Y) (h : ∀ w, C w → Oper.quietUpon P C w v ((do let z ← (do eqGuard op t (.tmp n) (.tmp m) X Y; binOp op t X Y : Sem Value); pure (.value z) : Sem Next).run P w)) : ∀ w, C w → o.quietAt P a C w v := by
  intro w hw; unfold Oper.quietAt execOp; simp only [ho]; rw [ev_tmp hx, ev_tmp hy]; exact h w hw
theorem qa_binOp_tc {op : BinOp} {t t2 : TypeId} {n : Nat} {X Y v : Value} (ho : o.op = .binOp op t (.tmp n) (.const Y) t2) (hx : a.tmps[n]? = some X) (h : ∀ w, C w → Oper.quietUpon P C w v ((do let z ← (do eqGuard op t (.tmp n) (.const Y) X Y; binOp op t X Y : Sem Value); pure (.value z) : Sem Next).run P w)) : ∀ w, C w → o.quietAt P a C w v := by
  intro w hw; unfold Oper.quietAt execOp; simp only [ho]; rw [ev_tmp hx, ev_const]; exact h w hw
theorem qa_binOp_ct {op : BinOp} {t t2 : TypeId} {m : Nat} {X Y v : Value} (ho : o.op = .binOp op t (.const X) (.tmp m) t2) (hy : a.tmps[m]? = some Y) (h : ∀ w, C w → Oper.quietUpon P C w v ((do let z ← (do eqGuard op t (.const X) (.tmp m) X Y; binOp op t X Y : Sem Value); pure (.value z) : Sem Next).run P w)) : ∀ w, C w → o.quietAt P a C w v := by
  intro w hw; unfold Oper.quietAt execOp; simp only [ho]; rw [ev_const, ev_tmp hy]; exact h w hw
theorem qa_indexAddr_tt {t : TypeId} {n m : Nat} {X Y v : Value} (ho : o.op = .indexAddr t (.tmp n) (.tmp m)) (hx : a.tmps[n]? = some X) (hy : a.tmps[m]? = some Y) (h : ∀ w, C w → Oper.quietUpon P C w v ((do let z ← Instr.indexAt t X Y; pure (.value z) : Sem Next).run P w)) : ∀ w, C w → o.quietAt P a C w v := by
  intro w hw; unfold Oper.quietAt execOp; simp only [ho]; rw [ev_tmp hx, ev_tmp hy]; exact h w hw
theorem qa_indexAddr_tc {t : TypeId} {n : Nat} {X Y v : Value} (ho : o.op = .indexAddr t (.tmp n) (.const Y)) (hx : a.tmps[n]? = some X) (h : ∀ w, C w → Oper.quietUpon P C w v ((do let z ← Instr.indexAt t X Y; pure (.value z) : Sem Next).run P w)) : ∀ w, C w → o.quietAt P a C w v := by
  intro w hw; unfold Oper.quietAt execOp; simp only [ho]; rw [ev_tmp hx, ev_const]; exact h w hw

theorem put_self {n : Nat} {X : Value} (h : a.tmps[n]? = some X) : a.put (some n) X = a := by
  cases a with
  | mk tmps defers =>
    unfold Act.put
    simp only [Act.mk.injEq, and_true]
    apply Array.ext_getElem?
    intro k
    simp only [Array.getElem?_setIfInBounds]
    by_cases hk : n = k
    · subst hk
      simp only [if_true]
      simp only at h
      rw [h]
      have : n < tmps.size := (Array.getElem?_eq_some_iff.1 h).1
      simp [this]
    · simp [hk]
/-- An operand that stands under a guard of its own, which holds where the operation's guard does. -/
theorem lift_put {n : Nat} {gx g : Bool} {X : Value} {K : Value → Prop} (hx : a.tmps[n]? = some (gv gx X)) (hgx : g = true → gx = true)
    (h : ∃ v, (g = true → ∀ w, C w → o.quietAt P (a.put (some n) X) C w v) ∧ K v) : ∃ v, (g = true → ∀ w, C w → o.quietAt P a C w v) ∧ K v := by
  obtain ⟨v, h1, h2⟩ := h
  refine ⟨v, fun e w hw => ?_, h2⟩
  have := h1 e w hw
  rw [hgx e, gv_true] at hx
  rwa [put_self hx] at this
theorem and_left {a b : Bool} (h : (a && b) = true) : a = true := by cases a <;> simp_all
theorem lift_move {n : Nat} {X : Value} {g : Bool} {K : Value → Prop} (ho : o.op = .move (.tmp n)) (hx : a.tmps[n]? = some X) (h : K X) : ∃ v, (g = true → ∀ w, C w → o.quietAt P a C w v) ∧ K v :=
  ⟨X, fun _ => qa_move ho hx rfl, h⟩
theorem lift_load {g : Bool} {K : Value → Prop} {t : TypeId} {n : Nat} {X : Value} (ho : o.op = .load t (.tmp n)) (hx : a.tmps[n]? = some X) (h : ∃ v, (g = true → ∀ w, C w → Oper.quietUpon P C w v ((do let y ← Instr.loadAt t X; pure (.value y) : Sem Next).run P w)) ∧ K v) : ∃ v, (g = true → ∀ w, C w → o.quietAt P a C w v) ∧ K v := by
  obtain ⟨v, h1, h2⟩ := h
  exact ⟨v, fun e => qa_load ho hx (h1 e), h2⟩
theorem lift_fieldAddr {g : Bool} {K : Value → Prop} {t : TypeId} {k : Nat} {n : Nat} {X : Value} (ho : o.op = .fieldAddr t (.tmp n) k) (hx : a.tmps[n]? = some X) (h : ∃ v, (g = true → ∀ w, C w → Oper.quietUpon P C w v ((do let y ← Instr.fieldAt t X k; pure (.value y) : Sem Next).run P w)) ∧ K v) : ∃ v, (g = true → ∀ w, C w → o.quietAt P a C w v) ∧ K v := by
  obtain ⟨v, h1, h2⟩ := h
  exact ⟨v, fun e => qa_fieldAddr ho hx (h1 e), h2⟩
theorem lift_field {g : Bool} {K : Value → Prop} {t : TypeId} {k : Nat} {n : Nat} {X : Value} (ho : o.op = .field t (.tmp n) k) (hx : a.tmps[n]? = some X) (h : ∃ v, (g = true → ∀ w, C w → Oper.quietUpon P C w v ((do let y ← Instr.field t X k; pure (.value y) : Sem Next).run P w)) ∧ K v) : ∃ v, (g = true → ∀ w, C w → o.quietAt P a C w v) ∧ K v := by
  obtain ⟨v, h1, h2⟩ := h
  exact ⟨v, fun e => qa_field ho hx (h1 e), h2⟩
theorem lift_extract {g : Bool} {K : Value → Prop} {k : Nat} {n : Nat} {X : Value} (ho : o.op = .extract (.tmp n) k) (hx : a.tmps[n]? = some X) (h : ∃ v, (g = true → ∀ w, C w → Oper.quietUpon P C w v ((do let y ← Instr.extract X k; pure (.value y) : Sem Next).run P w)) ∧ K v) : ∃ v, (g = true → ∀ w, C w → o.quietAt P a C w v) ∧ K v := by
  obtain ⟨v, h1, h2⟩ := h
  exact ⟨v, fun e => qa_extract ho hx (h1 e), h2⟩
theorem lift_unOp {g : Bool} {K : Value → Prop} {op : UnOp} {t : TypeId} {n : Nat} {X : Value} (ho : o.op = .unOp op t (.tmp n)) (hx : a.tmps[n]? = some X) (h : ∃ v, (g = true → ∀ w, C w → Oper.quietUpon P C w v ((do let y ← Op.unary op X; pure (.value y) : Sem Next).run P w)) ∧ K v) : ∃ v, (g = true → ∀ w, C w → o.quietAt P a C w v) ∧ K v := by
  obtain ⟨v, h1, h2⟩ := h
  exact ⟨v, fun e => qa_unOp ho hx (h1 e), h2⟩
theorem lift_binOp_tt {g : Bool} {K : Value → Prop} {op : BinOp} {t t2 : TypeId} {n m : Nat} {X Y : Value} (ho : o.op = .binOp op t (.tmp n) (.tmp m) t2) (hx : a.tmps[n]? = some X) (hy : a.tmps[m]? = some Y) (h : ∃ v, (g = true → ∀ w, C w → Oper.quietUpon P C w v ((do let z ← (do eqGuard op t (.tmp n) (.tmp m) X Y; binOp op t X Y : Sem Value); pure (.value z) : Sem Next).run P w)) ∧ K v) : ∃ v, (g = true → ∀ w, C w → o.quietAt P a C w v) ∧ K v := by
  obtain ⟨v, h1, h2⟩ := h
  exact ⟨v, fun e => qa_binOp_tt ho hx hy (h1 e), h2⟩
theorem lift_binOp_tc {g : Bool} {K : Value → Prop} {op : BinOp} {t t2 : TypeId} {n : Nat} {X Y : Value} (ho : o.op = .binOp op t (.tmp n) (.const Y) t2) (hx : a.tmps[n]? = some X) (h : ∃ v, (g = true → ∀ w, C w → Oper.quietUpon P C w v ((do let z ← (do eqGuard op t (.tmp n) (.const Y) X Y; binOp op t X Y : Sem Value); pure (.value z) : Sem Next).run P w)) ∧ K v) : ∃ v, (g = true → ∀ w, C w → o.quietAt P a C w v) ∧ K v := by
  obtain ⟨v, h1, h2⟩ := h
  exact ⟨v, fun e => qa_binOp_tc ho hx (h1 e), h2⟩
theorem lift_binOp_ct {g : Bool} {K : Value → Prop} {op : BinOp} {t t2 : TypeId} {m : Nat} {X Y : Value} (ho : o.op = .binOp op t (.const X) (.tmp m) t2) (hy : a.tmps[m]? = some Y) (h : ∃ v, (g = true → ∀ w, C w → Oper.quietUpon P C w v ((do let z ← (do eqGuard op t (.const X) (.tmp m) X Y; binOp op t X Y : Sem Value); pure (.value z) : Sem Next).run P w)) ∧ K v) : ∃ v, (g = true → ∀ w, C w → o.quietAt P a C w v) ∧ K v := by
  obtain ⟨v, h1, h2⟩ := h
  exact ⟨v, fun e => qa_binOp_ct ho hy (h1 e), h2⟩
theorem lift_indexAddr_tt {g : Bool} {K : Value → Prop} {t : TypeId} {n m : Nat} {X Y : Value} (ho : o.op = .indexAddr t (.tmp n) (.tmp m)) (hx : a.tmps[n]? = some X) (hy : a.tmps[m]? = some Y) (h : ∃ v, (g = true → ∀ w, C w → Oper.quietUpon P C w v ((do let z ← Instr.indexAt t X Y; pure (.value z) : Sem Next).run P w)) ∧ K v) : ∃ v, (g = true → ∀ w, C w → o.quietAt P a C w v) ∧ K v := by
  obtain ⟨v, h1, h2⟩ := h
  exact ⟨v, fun e => qa_indexAddr_tt ho hx hy (h1 e), h2⟩
theorem lift_indexAddr_tc {g : Bool} {K : Value → Prop} {t : TypeId} {n : Nat} {X Y : Value} (ho : o.op = .indexAddr t (.tmp n) (.const Y)) (hx : a.tmps[n]? = some X) (h : ∃ v, (g = true → ∀ w, C w → Oper.quietUpon P C w v ((do let z ← Instr.indexAt t X Y; pure (.value z) : Sem Next).run P w)) ∧ K v) : ∃ v, (g = true → ∀ w, C w → o.quietAt P a C w v) ∧ K v := by
  obtain ⟨v, h1, h2⟩ := h
  exact ⟨v, fun e => qa_indexAddr_tc ho hx (h1 e), h2⟩

/-- A move under a guard. -/
theorem wpQuiet_gmove {x : Operand} {g0 : Bool} {v : Value} (hw : Region.wanted o (yielded ops a.tmps) = g0) (ho : o.op = .move x) (hx : a.eval x = gv g0 v)
    (h : wpQuiet P ops C Q rest (a.put o.dst (gv g0 v))) : wpQuiet P ops C Q (o :: rest) a := by
  refine wpQuiet_lift hw (fun e w hw => ?_) h
  subst e
  unfold Oper.quietAt
  have : execOp a.eval o = pure (.value v) := by
    unfold execOp
    rw [ho]
    simp only [hx, gv_true]
  rw [this]
  exact ⟨rfl, rfl⟩
end

theorem wpList_of_quiet {P : Program} {ops : Array Oper} {C : World → Prop} {Q : Exit → Act → World → Prop} : ∀ (l : List Oper) (a : Act) (w : World), C w →
    wpQuiet P ops C (fun a' => ∀ w', C w' → Q .normal a' w') l a → wpList P ops Q l a w
  | [], a, w, hC, h => h w hC
  | o :: l, a, w, hC, h => by
    unfold wpQuiet at h
    unfold wpList
    split
    · rename_i hw
      rw [if_pos hw] at h
      exact .inl (Oper.wp_of_quiet hC (fun a' w' hw' hK => wpList_of_quiet l a' w' hw' hK) h)
    · rename_i hw
      rw [if_neg hw] at h
      exact wpList_of_quiet l _ w hC h

/-- A region in the order of the text, that reads and calls. -/
theorem wp_region_ext0 {P : Program} {id : Nat} {l : List Oper} {Q : Exit → Act → World → Prop} {a : Act} {w : World}
    (h : wpQuiet P l.toArray (fun w' => ∃ g : Grow, w' = wext w g.os g.n) (fun a' => ∀ w', (∃ g : Grow, w' = wext w g.os g.n) → Q .normal a' w') l a) : (Code.region id l.toArray false).wp P Q a w :=
  wp_region_lit (wpList_of_quiet (C := fun w' => ∃ g : Grow, w' = wext w g.os g.n) l a w ⟨⟨#[], w.drawn⟩, by simp [wext]⟩ h)
/-- A region in the order of the text, that only reads. -/
theorem wp_region_same {P : Program} {id : Nat} {l : List Oper} {Q : Exit → Act → World → Prop} {a : Act} {w : World}
    (h : wpQuiet P l.toArray (fun w' => w' = w) (fun a' => ∀ w', w' = w → Q .normal a' w') l a) : (Code.region id l.toArray false).wp P Q a w :=
  wp_region_lit (wpList_of_quiet (C := fun w' => w' = w) l a w rfl h)

end Go.Proofs.Ytmajkjkakciaiaa

set_option linter.unusedSimpArgs false
set_option linter.unusedVariables false
namespace Go.Proofs.Ytmajkjkakciaiaa
open Go.RowKit

def isSl (w : World) (v : Value) (m n : Nat) (xs : List Value) : Prop :=
  xs.length = n * m ∧ ((∃ a c, v = .slice a 0 c ∧ n = 0) ∨
    ∃ b o cap, v = .slice (some ⟨b, o, none⟩) n cap ∧ n ≤ cap ∧ cap ≤ maxLen ∧ b < w.heap.size ∧ ∀ j, j < n * m → w.cell? ⟨b, o + j, none⟩ = xs[j]?)

theorem isSl_nil (w : World) (m : Nat) : isSl w (.slice none 0 0) m 0 [] := ⟨by simp, .inl ⟨none, 0, rfl, rfl⟩⟩

theorem isSl.below {w w' : World} {v : Value} {m n : Nat} {xs : List Value} (h : isSl w v m n xs) (hb : Below w.heap.size w w') : isSl w' v m n xs := by
  obtain ⟨h1, h2⟩ := h
  refine ⟨h1, ?_⟩
  rcases h2 with h2 | ⟨b, o, cap, hv, hn, hc, hlt, hx⟩
  · exact .inl h2
  · exact .inr ⟨b, o, cap, hv, hn, hc, Nat.lt_of_lt_of_le hlt hb.size, fun j hj => (hb.cell (p := ⟨b, o + j, none⟩) hlt).trans (hx j hj)⟩
theorem isSl.ext {w w' : World} {v : Value} {m n : Nat} {xs : List Value} (h : isSl w v m n xs) (hb : Ext w w') : isSl w' v m n xs := h.below hb.below

theorem isSl_of_own {w : World} {base : Nat} {e : TypeId} {m n : Nat} {v : Value} {xs : List Value} (h : w.ownsRow base e m v n xs) : isSl w v m n xs := by
  have h0 := h
  obtain ⟨h1, h2⟩ := h
  refine ⟨h1, ?_⟩
  rcases h2 with h2 | ⟨g, cap, cur, hv, hg, hh, hn, hc, hcs, hx⟩
  · exact .inl ⟨none, 0, h2.1, h2.2⟩
  · refine .inr ⟨g, 0, cap, hv, hn, hc, (Array.getElem?_eq_some_iff.1 hh).1, fun j hj => ?_⟩
    rw [hv] at h0
    rw [Nat.zero_add]
    exact h0.cellAt j hj

/-- A slice of known length is nil or at an address. -/
theorem isSl.cell {w : World} {v : Value} {m n : Nat} {xs : List Value} (h : isSl w v m n xs) (hn : 0 < n) :
    ∃ b o cap, v = .slice (some ⟨b, o, none⟩) n cap ∧ n ≤ cap ∧ cap ≤ maxLen ∧ b < w.heap.size ∧ ∀ j, j < n * m → w.cell? ⟨b, o + j, none⟩ = xs[j]? := by
  obtain ⟨_, h2⟩ := h
  rcases h2 with ⟨_, _, _, h2⟩ | h2
  · omega
  · exact h2

theorem ext_of_grown {w w' : World} (h : w.grownBy w' none) : ∃ os n, w' = wext w os n :=
  Ext.of_below ⟨h.os, h.tape, h.output, h.size, fun k hk => h.block k hk (by simp)⟩

theorem below_of_grown {w w' : World} {row : Option Nat} {B : Nat} (h : w.grownBy w' row) (hB : B ≤ w.heap.size) (hr : ∀ k, row = some k → B ≤ k) : Below B w w' :=
  Below.grown (Below.refl B w) h hB hr

/-- The cells of a new block. -/
theorem cells_new (W : World) (news : List Value) (T : TypeId) : ∀ (j : Nat) (u : Value), news[j]? = some u → (W.alloc (.cells news.toArray T)).cell? ((⟨W.heap.size, 0, none⟩ : Addr).add j) = some u := by
  intro j u h
  have : ((⟨W.heap.size, 0, none⟩ : Addr).add j) = ⟨W.heap.size, j, none⟩ := by
    unfold Addr.add
    split
    · rename_i h0; rw [h0]
    · simp
  rw [this, World.cell?_alloc_new]
  simpa using h

theorem grown_cells {w w' : World} {row : Option Nat} (h : w.grownBy w' row) : ∀ b i, b < w.heap.size → some b ≠ row → w'.cell? ⟨b, i, none⟩ = w.cell? ⟨b, i, none⟩ :=
  fun b i hb hr => World.cell?_of_block (h.block b hb hr)

theorem cells_new2 (W : World) (b : Nat) (news : List Value) (T : TypeId) (hb : b = W.heap.size) : ∀ (j : Nat) (u : Value), news[j]? = some u → (W.alloc (.cells news.toArray T)).cell? ((⟨b, 0, none⟩ : Addr).add j) = some u := by
  subst hb; exact cells_new W news T

theorem isSl_new1 (W : World) (b : Nat) (news : List Value) (T : TypeId) (hb : b = W.heap.size) : isSl (W.alloc (.cells news.toArray T)) (.slice (some ⟨b, 0, none⟩) 1 1) news.length 1 news := by
  subst hb
  refine ⟨by simp, .inr ⟨_, _, _, rfl, Nat.le_refl _, by unfold maxLen; omega, by simp, fun j hj => ?_⟩⟩
  rw [Nat.zero_add, World.cell?_alloc_new]
  simp

theorem own_ext {w w' : World} {base : Nat} {e : TypeId} {m n : Nat} {v : Value} {xs : List Value} (h : w.ownsRow base e m v n xs) (hE : Ext w w') : w'.ownsRow base e m v n xs := by
  obtain ⟨os, k, rfl⟩ := hE
  have hg : w.grownBy (wext w os k) none := ⟨rfl, rfl, rfl, by simp, fun b hb _ => wext_block w os k b hb⟩
  refine h.kept hg ?_
  cases hv : v.ownBlock with
  | none => exact .inl rfl
  | some g => exact .inr (by simp)

end Go.Proofs.Ytmajkjkakciaiaa

set_option linter.unusedSimpArgs false
set_option linter.unusedVariables false
namespace Go.Proofs.Ytmajkjkakciaiaa
open Go.RowKit

theorem wpList_pre {P : Program} {ops : Array Oper} {C : World → Prop} {Q : Exit → Act → World → Prop} (l2 : List Oper) : ∀ (l : List Oper) (a : Act) (w : World), C w →
    wpQuiet P ops C (fun a' => ∀ w', C w' → wpList P ops Q l2 a' w') l a → wpList P ops Q (l ++ l2) a w
  | [], a, w, hC, h => h w hC
  | o :: l, a, w, hC, h => by
    unfold wpQuiet at h
    rw [List.cons_append]
    unfold wpList
    split
    · rename_i hw
      rw [if_pos hw] at h
      exact .inl (Oper.wp_of_quiet hC (fun a' w' hw' hK => wpList_pre l2 l a' w' hw' hK) h)
    · rename_i hw
      rw [if_neg hw] at h
      exact wpList_pre l2 l _ w hC h
theorem wp_region_eq {P : Program} {id : Nat} {l l' : List Oper} {b : Bool} {Q : Exit → Act → World → Prop} {a : Act} {w : World} (h : l = l') (hw : (Code.region id l'.toArray b).wp P Q a w) : (Code.region id l.toArray b).wp P Q a w := by
  subst h; exact hw
theorem lift_moveL {P : Program} {C : World → Prop} {o : Oper} {a : Act} {n : Nat} {X : Value} {g : Bool} {K : Value → Prop} (ho : o.op = .move (.tmp n)) (hx : a.tmps.toList[n]? = some X) (h : K X) : ∃ v, (g = true → ∀ w, C w → o.quietAt P a C w v) ∧ K v :=
  lift_move ho (by rw [← Array.getElem?_toList]; exact hx) h
theorem wp_region_ex {P : Program} {id : Nat} {l : List Oper} {b : Bool} {Q : Exit → Act → World → Prop} {a : Act} {w : World} (h : ∃ l', l = l' ∧ (Code.region id l'.toArray b).wp P Q a w) : (Code.region id l.toArray b).wp P Q a w := by
  obtain ⟨l', rfl, hw⟩ := h; exact hw
theorem wp_region_pre (n : Nat) {P : Program} {id : Nat} {l : List Oper} {Q : Exit → Act → World → Prop} {a : Act} {w : World}
    (h : wpQuiet P l.toArray (fun w' => w' = w) (fun a' => ∀ w', w' = w → wpList P l.toArray Q (l.drop n) a' w') (l.take n) a) : (Code.region id l.toArray false).wp P Q a w := by
  refine wp_region_lit ?_
  have := wpList_pre (P := P) (ops := l.toArray) (C := fun w' => w' = w) (Q := Q) (l.drop n) (l.take n) a w rfl h
  rwa [List.take_append_drop] at this

/-- Code all of whose ways end in one frame and one world: what follows is walked once. -/
theorem wp_one {P : Program} {c : Code} {Q : Exit → Act → World → Prop} {a : Act} {w : World} (h : ∃ a1 w1, c.wp P (fun e a' w' => e = .normal ∧ a' = a1 ∧ w' = w1) a w ∧ Q .normal a1 w1) : c.wp P Q a w := by
  obtain ⟨a1, w1, h1, h2⟩ := h
  refine Code.wp_mono ?_ h1
  rintro e a' w' ⟨rfl, rfl, rfl⟩
  exact h2

end Go.Proofs.Ytmajkjkakciaiaa

set_option linter.unusedSimpArgs false
set_option linter.unusedVariables false
namespace Go.Proofs.Ytmajkjkakciaiaa
open Go.RowKit

section
variable {P : Program} {ops : Array Oper} {md : Region.Mode} {C : World → Prop}

/-- Whatever order the first n operations come in; behind them L. -/
def anyT (P : Program) (md : Region.Mode) (ops : Array Oper) (C : World → Prop) (n : Nat) (L : Array Bool → Act → Prop) : Nat → Array Bool → Act → Prop
  | 0, s, a => L s a
  | f + 1, s, a => Region.ready md ops s ≠ [] ∧ ∀ i ∈ Region.ready md ops s, i < n ∧ qOp P ops C i (anyT P md ops C n L f (s.setIfInBounds i true)) a

theorem anyT_any {n g : Nat} {L : Array Bool → Act → Prop} {Q : Exit → Act → World → Prop} (hL : ∀ s a w, C w → L s a → wpAny P md ops Q g s a w) :
    ∀ (f : Nat) (s : Array Bool) (a : Act) (w : World), C w → anyT P md ops C n L f s a → wpAny P md ops Q (f + g) s a w
  | 0, s, a, w, hC, h => by rw [Nat.zero_add]; exact hL _ _ _ hC h
  | f + 1, s, a, w, hC, h => by
    have e : f + 1 + g = (f + g) + 1 := by omega
    rw [e]
    refine ⟨fun h0 => absurd h0 h.1, fun i hi => ?_⟩
    exact wpOp_of_qOp hC (fun a' w' hw' hk => anyT_any hL f _ a' w' hw' hk) (h.2 i hi).2

theorem anyT_first {n i : Nat} {oi : Oper} {v : Value} {L : Array Bool → Act → Prop} (hi : ops[i]? = some oi) (hsel : ∀ (j : Nat) (o : Oper) cs b, ops[j]? = some o → o.op ≠ .select cs b)
    (hs : Region.sinkB md ops n = true) (hc : Region.chainB md ops n = true) (hn : n < ops.size) (hin : i < n)
    (hdone : ∀ s a, L s a → ∀ j ∈ Region.ready md ops s, n ≤ j) :
    ∀ (f : Nat) (s : Array Bool) (a : Act), HeadInv md ops n s →
      (∀ j oj, ops[j]? = some oj → j ≠ i → s.getD j true = false → (∀ e ∈ oj.after, Region.binds md e = true → e.on ≠ i) → oi.apart ops oj = true) →
      i ∈ Region.ready md ops s → YieldsIn P ops C oi v a →
      anyT P md ops C n L f (s.setIfInBounds i true) (a.put oi.dst v) → anyT P md ops C n L (f + 1) s a := by
  intro f
  induction f with
  | zero =>
    intro s a inv _ hr hy H
    have hun := (mem_ready.1 hr).1
    refine ⟨fun h => (by rw [h] at hr; cases hr), fun j hj => ?_⟩
    have hjn : j < n := by
      rcases Nat.lt_or_ge j n with h | h
      · exact h
      · exact absurd hj (tail_waits hs hc hn inv _ i rfl hin hun j h)
    refine ⟨hjn, ?_⟩
    by_cases hji : j = i
    · subst hji; exact hy.qOp hi H
    · have := hdone _ _ H j (ready_mono hj hji)
      omega
  | succ f ih =>
    intro s a inv hfree hr hy H
    have hun := (mem_ready.1 hr).1
    refine ⟨fun h => (by rw [h] at hr; cases hr), fun j hj => ?_⟩
    have hjn : j < n := by
      rcases Nat.lt_or_ge j n with h | h
      · exact h
      · exact absurd hj (tail_waits hs hc hn inv _ i rfl hin hun j h)
    refine ⟨hjn, ?_⟩
    by_cases hji : j = i
    · subst hji; exact hy.qOp hi H
    · have h1 := (H.2 j (ready_mono hj hji)).2
      obtain ⟨hjun, oj, hoj, hall⟩ := mem_ready.1 hj
      have hnot : ∀ e ∈ oj.after, Region.binds md e = true → e.on ≠ i := fun e he hb heq => by
        have h2 := hall e he hb
        rw [heq, getD_both hun] at h2
        cases h2
      have h2 := qOp_put hoj (hfree j oj hoj hji hjun hnot) (fun cs b => hsel i oi cs b hi) (fun cs b => hsel j oj cs b hoj) hy h1
      refine qOp_mono (fun a' h3 => ih (s.setIfInBounds j true) a' (inv.set hj hjn) ?_ (ready_mono hr (Ne.symm hji)) h3.1 ?_) h2
      · intro k ok hk hki hunk hno
        refine hfree k ok hk hki ?_ hno
        by_cases hjk : j = k
        · subst hjk; exact hjun
        · rw [getD_set_ne true hjk] at hunk; exact hunk
      · rw [Array.setIfInBounds_comm _ _ hji]
        exact h3.2

theorem anyT_lex {n g : Nat} {Lq : Act → Prop} (hsel : Region.noSelect ops = true) (hs : Region.sinkB md ops n = true) (hc : Region.chainB md ops n = true) (hn : n < ops.size) :
    ∀ (l : List Oper) (k : Nat) (s : Array Bool) (a : Act), (∀ j, j < l.length → l[j]? = ops[k + j]?) → k + l.length = n → HeadInv md ops n s →
    Region.lexHead md ops g l.length k s = true → wpQuiet P ops C Lq l a →
    anyT P md ops C n (fun s' a' => Region.seqB md ops g n s' = true ∧ Lq a') l.length s a
  | [], k, s, a, _, hk, _, hB, h => by
    obtain rfl : k = n := by simpa using hk
    exact ⟨by simpa [Region.lexHead] using hB, h⟩
  | o :: l, k, s, a, hl, hk, inv, hB, h => by
    have h0 : ops[k]? = some o := by simpa using (hl 0 (by simp)).symm
    simp only [List.length_cons, Region.lexHead, Bool.and_eq_true] at hB
    obtain ⟨⟨hr, hf⟩, hB'⟩ := hB
    have hkn : k < n := by simp only [List.length_cons] at hk; omega
    have hr' : k ∈ Region.ready md ops s := by simpa using hr
    have hst : qOp P ops C k (wpQuiet P ops C Lq l) a := by unfold qOp; simp only [h0]; exact h
    obtain ⟨v, hy, hK⟩ := yieldsIn_of_qOp h0 hst
    refine anyT_first h0 (Region.noSelect_spec hsel) hs hc hn hkn (fun s' a' hL => seqB_ready hL.1) l.length s a inv (Region.free_spec h0 hf) hr' hy ?_
    exact anyT_lex hsel hs hc hn l (k + 1) _ _ (fun j hj => by have := hl (j + 1) (by simp; omega); simpa [Nat.add_assoc, Nat.add_comm 1 j] using this) (by simp only [List.length_cons] at hk; omega) (inv.set hr' hkn) hB' hK

theorem wp_region_tail (n : Nat) {id : Nat} {l : List Oper} {Q : Exit → Act → World → Prop} {a : Act} {w : World} (hm : P.follows .mixedOrders = true) (hB : Region.lexTailB .any l.toArray n = true) (hC : C { w with drawn := w.drawn + 1 })
    (h : wpQuiet P l.toArray C (fun a' => ∀ w', C w' → wpList P l.toArray Q (l.drop n) a' w') (l.take n) a) : (Code.region id l.toArray true).wp P Q a w := by
  simp only [Region.lexTailB, Bool.and_eq_true, decide_eq_true_eq] at hB
  obtain ⟨⟨⟨⟨hsel, hn⟩, hs⟩, hc⟩, hlex⟩ := hB
  have hn' : n < l.length := by simpa using hn
  have htl : (l.take n).length = n := by simp; omega
  have hdl : (l.drop n).length = l.toArray.size - n := by simp
  have inv0 : HeadInv .any l.toArray n (Array.replicate l.toArray.size false) :=
    ⟨by simp, fun j oj _ hl => (by rw [getD_replicate_false] at hl; cases hl), fun t _ ht => getD_in (by simpa using ht) (getD_replicate_false _ _)⟩
  have H := anyT_lex (md := .any) (g := l.toArray.size - n) hsel hs hc hn (l.take n) 0 _ a (fun j hj => by
    have hj' : j < n := by rw [htl] at hj; exact hj
    simp [hj']) (by simpa using htl) inv0 (by rw [htl]; exact hlex) h
  refine wp_region_any hm ?_
  have := anyT_any (Q := Q) (g := l.toArray.size - n) (fun s a' w' hw' hL => by
    have := wpAny_of_seq (md := .any) (Q' := Q) (l.drop n) n s a' w' (fun j => by simp [List.getElem?_drop]) (by rw [hdl]; exact hL.1) (hL.2 w' hw')
    rwa [hdl] at this) _ _ _ _ hC H
  rw [htl, show n + (l.toArray.size - n) = l.toArray.size by omega] at this
  exact this
/-- The same, at the class 'w grown'. -/
theorem wp_region_xtail (n : Nat) {id : Nat} {l : List Oper} {Q : Exit → Act → World → Prop} {a : Act} {w : World} (hm : P.follows .mixedOrders = true) (hB : Region.lexTailB .any l.toArray n = true)
    (h : wpQuiet P l.toArray (fun w' => ∃ g : Grow, w' = wext w g.os g.n) (fun a' => ∀ w', (∃ g : Grow, w' = wext w g.os g.n) → wpList P l.toArray Q (l.drop n) a' w') (l.take n) a) : (Code.region id l.toArray true).wp P Q a w :=
  wp_region_tail (C := fun w' => ∃ g : Grow, w' = wext w g.os g.n) n hm hB (wext_drawn w _) h
end

end Go.Proofs.Ytmajkjkakciaiaa

set_option linter.unusedSimpArgs false
set_option linter.unusedVariables false
namespace Go.Proofs.Ytmajkjkakciaiaa
open Go.RowKit

section
variable {P : Program} {ops : Array Oper} {Q : Exit → Act → World → Prop} {md : Region.Mode} {S : World → Prop} {e : Nat → Bool}

def wpAnyD (P : Program) (md : Region.Mode) (ops : Array Oper) (Q : Exit → Act → World → Prop) (S : World → Prop) (e : Nat → Bool) : Nat → Array Bool → Act → World → Prop
  | 0, listed, a, w => Region.ready md ops listed = [] ∧ Q .normal a w
  | fuel + 1, listed, a, w =>
    (Region.ready md ops listed = [] → Q .normal a w) ∧
    ∀ i ∈ Region.ready md ops listed, wpOp P ops Q i (fun a' w' => (e i = true → S w') ∧ wpAnyD P md ops Q S e fuel (listed.setIfInBounds i true) a' w') a w

theorem wpAny_of_D : ∀ (fuel : Nat) (listed : Array Bool) (a : Act) (w : World), wpAnyD P md ops Q S e fuel listed a w → wpAny P md ops Q fuel listed a w
  | 0, _, _, _, h => h
  | fuel + 1, _, _, _, h => ⟨h.1, fun i hi => wpOp_mono (fun a' w' h' => wpAny_of_D fuel _ a' w' h'.2) (h.2 i hi)⟩

theorem wpAnyD_first {S0 : World → Prop} {blk : Nat → Bool} {i : Nat} {oi : Oper} {v : Value} (hi : ops[i]? = some oi) (hsel : ∀ (j : Nat) (o : Oper) cs b, ops[j]? = some o → o.op ≠ .select cs b)
    (hQ : ∀ c a w, Q (.panic c) (a.put oi.dst v) w → Q (.panic c) a w)
    (hb : ∀ j oj, ops[j]? = some oj → blk j = true → ∃ x ∈ oj.after, Region.binds md x = true ∧ (x.on = i ∨ blk x.on = true))
    (hSi : ∀ w', S0 w' → e i = true → S w') :
    ∀ (fuel : Nat) (listed : Array Bool) (a : Act) (w : World),
      (∀ j, blk j = true → listed.getD j false = false) →
      (∀ j oj, ops[j]? = some oj → j ≠ i → blk j = false → listed.getD j true = false → ∀ w', (e j = true → S w') → S0 w') →
      (∀ j oj, ops[j]? = some oj → j ≠ i → listed.getD j true = false → (∀ x ∈ oj.after, Region.binds md x = true → x.on ≠ i) → oi.apart ops oj = true) →
      i ∈ Region.ready md ops listed → YieldsIf P ops S0 oi v a → S0 w →
      wpAnyD P md ops Q S e fuel (listed.setIfInBounds i true) (a.put oi.dst v) w → wpAnyD P md ops Q S e (fuel + 1) listed a w := by
  intro fuel
  induction fuel with
  | zero =>
    intro listed a w _ _ _ hr hy hS H
    refine ⟨fun h => (by rw [h] at hr; cases hr), fun j hj => ?_⟩
    by_cases hji : j = i
    · subst hji; exact hy.wpOp hi hS ⟨hSi w hS, H⟩
    · have := ready_mono hj hji
      rw [H.1] at this
      cases this
  | succ fuel ih =>
    intro listed a w hun hE hfree hr hy hS H
    refine ⟨fun h => (by rw [h] at hr; cases hr), fun j hj => ?_⟩
    by_cases hji : j = i
    · subst hji; exact hy.wpOp hi hS ⟨hSi w hS, H⟩
    · have h1 := H.2 j (ready_mono hj hji)
      obtain ⟨hjun, oj, hoj, hall⟩ := mem_ready.1 hj
      have hin : listed.getD i false = false := by
        have h0 := (mem_ready.1 hr).1
        rcases Nat.lt_or_ge i listed.size with h' | h'
        · simp [h'] at h0 ⊢; exact h0
        · simp [Array.getElem?_eq_none h']
      have hnot : ∀ x ∈ oj.after, Region.binds md x = true → x.on ≠ i := fun x hx hbx heq => by
        have h2 := hall x hx hbx
        rw [heq, hin] at h2
        cases h2
      have hblk : blk j = false := by
        cases hbj : blk j with
        | false => rfl
        | true =>
          obtain ⟨x, hx, hbx, hon⟩ := hb j oj hoj hbj
          rcases hon with hon | hon
          · exact absurd hon (hnot x hx hbx)
          · have h2 := hall x hx hbx
            rw [hun _ hon] at h2
            cases h2
      have h2 := wpOp_putIf hoj (hfree j oj hoj hji hjun hnot) (fun cs b => hsel i oi cs b hi) (fun cs b => hsel j oj cs b hoj) hQ hy h1
      have hset : ∀ k, k ≠ j → ∀ d, (listed.setIfInBounds j true).getD k d = listed.getD k d := fun k hk d => getD_set_ne d (Ne.symm hk)
      have hfree' : ∀ k ok, ops[k]? = some ok → k ≠ i → (listed.setIfInBounds j true).getD k true = false →
          (∀ x ∈ ok.after, Region.binds md x = true → x.on ≠ i) → oi.apart ops ok = true := fun k ok hk hki hun' hno => by
        refine hfree k ok hk hki ?_ hno
        by_cases hjk : j = k
        · subst hjk; exact hjun
        · rw [getD_set_ne true hjk] at hun'; exact hun'
      have hE' : ∀ k ok, ops[k]? = some ok → k ≠ i → blk k = false → (listed.setIfInBounds j true).getD k true = false → ∀ w', (e k = true → S w') → S0 w' := fun k ok hk hki hbk hun' => by
        refine hE k ok hk hki hbk ?_
        by_cases hjk : j = k
        · subst hjk; exact hjun
        · rw [getD_set_ne true hjk] at hun'; exact hun'
      have hun2 : ∀ k, blk k = true → (listed.setIfInBounds j true).getD k false = false := fun k hk => by
        have hkj : k ≠ j := fun he => by rw [he, hblk] at hk; cases hk
        rw [hset k hkj]
        exact hun k hk
      refine wpOp_mono (fun a' w' h3 => ⟨h3.2.1, ih (listed.setIfInBounds j true) a' w' hun2 hE' hfree' (ready_mono hr (Ne.symm hji)) h3.1 (hE j oj hoj hji hblk hjun w' h3.2.1) ?_⟩) h2
      rw [Array.setIfInBounds_comm _ _ hji]
      exact h3.2.2

/-- What waits for number i, nearly or far. -/
def behindOf (md : Region.Mode) (ops : Array Oper) (i : Nat) : List Nat :=
  (List.range ops.size).foldl (fun acc j => match ops[j]? with
    | some o => if o.after.any (fun x => Region.binds md x && (x.on == i || acc.contains x.on)) then j :: acc else acc
    | none => acc) []
/-- Number i may be taken first: nobody that could come ahead of it touches its temporaries; those that could are early (at 'r = true': it reads the world), and so is it, or it reads nothing. -/
def takeB (md : Region.Mode) (ops : Array Oper) (e : Nat → Bool) (listed : Array Bool) (i : Nat) (r : Bool) (B : List Nat) : Bool :=
  Region.noSelect ops && Region.free md ops listed i && (Region.ready md ops listed).contains i && (r || !e i) &&
  B.all (fun j => !listed.getD j false) &&
  (List.range ops.size).all (fun j => match ops[j]? with
    | some o => (!B.contains j || o.after.any (fun x => Region.binds md x && (x.on == i || B.contains x.on))) && (j == i || B.contains j || listed.getD j true || !r || e j)
    | none => true)

theorem takeB_spec {listed : Array Bool} {i : Nat} {r : Bool} {B : List Nat} (h : takeB md ops e listed i r B = true) :
    Region.noSelect ops = true ∧ Region.free md ops listed i = true ∧ (Region.ready md ops listed).contains i = true ∧ (r = false → e i = false) ∧
    (∀ j, B.contains j = true → listed.getD j false = false) ∧
    (∀ j oj, ops[j]? = some oj → B.contains j = true → ∃ x ∈ oj.after, Region.binds md x = true ∧ (x.on = i ∨ B.contains x.on = true)) ∧
    (∀ j oj, ops[j]? = some oj → j ≠ i → B.contains j = false → listed.getD j true = false → r = true → e j = true) := by
  unfold takeB at h
  simp only [Bool.and_eq_true] at h
  obtain ⟨⟨⟨⟨⟨h1, h2⟩, h3⟩, h4⟩, h5⟩, h6⟩ := h
  refine ⟨h1, h2, h3, ?_, ?_, ?_, ?_⟩
  · intro hr
    subst hr
    simpa using h4
  · intro j hj
    have := List.all_eq_true.1 h5 j (by simpa using hj)
    simpa using this
  · intro j oj hoj hj
    have := List.all_eq_true.1 h6 j (List.mem_range.2 (Array.getElem?_eq_some_iff.1 hoj).1)
    simp only [hoj, Bool.and_eq_true, Bool.or_eq_true, hj, Bool.not_true, Bool.false_eq_true, false_or] at this
    obtain ⟨x, hx, hbx⟩ := Array.any_eq_true'.1 this.1
    simp only [Bool.and_eq_true, Bool.or_eq_true, beq_iff_eq] at hbx
    exact ⟨x, hx, hbx.1, hbx.2⟩
  · intro j oj hoj hji hj hl hr
    have := List.all_eq_true.1 h6 j (List.mem_range.2 (Array.getElem?_eq_some_iff.1 hoj).1)
    have hji' : (j == i) = false := by simpa using hji
    simp only [hoj, Bool.and_eq_true, hj, hl, hr, hji', Bool.not_true, Bool.or_false, Bool.false_or] at this
    exact this.2

/-- It reads in the class S: taken first. -/
theorem wpAnyD_takeS {i : Nat} {oi : Oper} {v : Value} {fuel : Nat} {listed : Array Bool} {a : Act} {w : World} (B : List Nat) (hi : ops[i]? = some oi)
    (ht : takeB md ops e listed i true B = true) (hQ : ∀ c a w, Q (.panic c) (a.put oi.dst v) w → Q (.panic c) a w) (hS : S w) (hy : YieldsIf P ops S oi v a)
    (h : wpAnyD P md ops Q S e fuel (listed.setIfInBounds i true) (a.put oi.dst v) w) : wpAnyD P md ops Q S e (fuel + 1) listed a w := by
  obtain ⟨h1, h2, h3, h4, h5, h6, h7⟩ := takeB_spec ht
  exact wpAnyD_first (blk := fun j => B.contains j) hi (Region.noSelect_spec h1) hQ h6 (fun w' hw' _ => hw') fuel listed a w h5 (fun j oj hoj hji hbj hl w' hw' => hw' (h7 j oj hoj hji hbj hl rfl)) (Region.free_spec hi h2) (by simpa using h3) hy hS h
/-- It reads nothing: taken first. -/
theorem wpAnyD_take0 {i : Nat} {oi : Oper} {v : Value} {fuel : Nat} {listed : Array Bool} {a : Act} {w : World} (hi : ops[i]? = some oi)
    (ht : takeB md ops e listed i false [] = true) (hQ : ∀ c a w, Q (.panic c) (a.put oi.dst v) w → Q (.panic c) a w) (hy : YieldsIf P ops (fun _ => True) oi v a)
    (h : wpAnyD P md ops Q S e fuel (listed.setIfInBounds i true) (a.put oi.dst v) w) : wpAnyD P md ops Q S e (fuel + 1) listed a w := by
  obtain ⟨h1, h2, h3, h4, h5, h6, h7⟩ := takeB_spec ht
  exact wpAnyD_first (blk := fun j => ([] : List Nat).contains j) hi (Region.noSelect_spec h1) hQ h6 (fun w' _ he => by rw [h4 rfl] at he; cases he) fuel listed a w h5 (fun j oj hoj hji hbj hl w' hw' => trivial) (Region.free_spec hi h2) (by simpa using h3) hy trivial h
theorem wpAnyD_takeSx {i : Nat} {oi : Oper} {fuel : Nat} {listed : Array Bool} {a : Act} {w : World} (hi : ops[i]? = some oi)
    (ht : takeB md ops e listed i true (behindOf md ops i) = true) (hQ : ∀ v c a w, Q (.panic c) (a.put oi.dst v) w → Q (.panic c) a w) (hS : S w)
    (h : ∃ v, YieldsIf P ops S oi v a ∧ wpAnyD P md ops Q S e fuel (listed.setIfInBounds i true) (a.put oi.dst v) w) : wpAnyD P md ops Q S e (fuel + 1) listed a w := by
  obtain ⟨v, h1, h2⟩ := h
  exact wpAnyD_takeS _ hi ht (hQ v) hS h1 h2
theorem wpAnyD_take0x {i : Nat} {oi : Oper} {fuel : Nat} {listed : Array Bool} {a : Act} {w : World} (hi : ops[i]? = some oi)
    (ht : takeB md ops e listed i false [] = true) (hQ : ∀ v c a w, Q (.panic c) (a.put oi.dst v) w → Q (.panic c) a w)
    (h : ∃ v, YieldsIf P ops (fun _ => True) oi v a ∧ wpAnyD P md ops Q S e fuel (listed.setIfInBounds i true) (a.put oi.dst v) w) : wpAnyD P md ops Q S e (fuel + 1) listed a w := by
  obtain ⟨v, h1, h2⟩ := h
  exact wpAnyD_take0 hi ht (hQ v) h1 h2
/-- One alone may come up. -/
theorem wpAnyD_one {i : Nat} {o : Oper} {fuel : Nat} {listed : Array Bool} {a : Act} {w : World} (hi : ops[i]? = some o) (hr : Region.ready md ops listed = [i])
    (h : ∀ K : Act → World → Prop, Hid (∀ a' w', (e i = true → S w') → wpAnyD P md ops Q S e fuel (listed.setIfInBounds i true) a' w' → K a' w') → if Region.wanted o (yielded ops a.tmps) = true then o.wp P a w K Q else K (a.put o.dst undef) w) : wpAnyD P md ops Q S e (fuel + 1) listed a w := by
  refine ⟨fun h0 => (by rw [hr] at h0; cases h0), fun j hj => ?_⟩
  rw [hr] at hj
  obtain rfl := List.mem_singleton.1 hj
  have := h (fun a' w' => (e j = true → S w') ∧ wpAnyD P md ops Q S e fuel (listed.setIfInBounds j true) a' w') (fun a' w' h1 h2 => ⟨h1, h2⟩)
  unfold wpOp
  simp only [hi]
  split
  · rename_i hw
    rw [if_pos hw] at this
    exact .inl this
  · rename_i hw
    rw [if_neg hw] at this
    exact this
/-- Several may come up. -/
def AllD (P : Program) (md : Region.Mode) (ops : Array Oper) (Q : Exit → Act → World → Prop) (S : World → Prop) (e : Nat → Bool) (fuel : Nat) (listed : Array Bool) (a : Act) (w : World) (rs : List Nat) : Prop :=
  ∀ i ∈ rs, wpOp P ops Q i (fun a' w' => (e i = true → S w') ∧ wpAnyD P md ops Q S e fuel (listed.setIfInBounds i true) a' w') a w
theorem AllD_nil {fuel : Nat} {listed : Array Bool} {a : Act} {w : World} : AllD P md ops Q S e fuel listed a w [] := fun _ h => by cases h
theorem AllD_cons {i : Nat} {o : Oper} {rs : List Nat} {fuel : Nat} {listed : Array Bool} {a : Act} {w : World} (hi : ops[i]? = some o)
    (h : ∀ K : Act → World → Prop, Hid (∀ a' w', (e i = true → S w') → wpAnyD P md ops Q S e fuel (listed.setIfInBounds i true) a' w' → K a' w') → if Region.wanted o (yielded ops a.tmps) = true then o.wp P a w K Q else K (a.put o.dst undef) w)
    (hs : AllD P md ops Q S e fuel listed a w rs) : AllD P md ops Q S e fuel listed a w (i :: rs) := fun j hj => by
  rcases List.mem_cons.1 hj with rfl | hj
  · have := h (fun a' w' => (e j = true → S w') ∧ wpAnyD P md ops Q S e fuel (listed.setIfInBounds j true) a' w') (fun a' w' h1 h2 => ⟨h1, h2⟩)
    unfold wpOp
    simp only [hi]
    split
    · rename_i hw
      rw [if_pos hw] at this
      exact .inl this
    · rename_i hw
      rw [if_neg hw] at this
      exact this
  · exact hs j hj
theorem wpAnyD_many (rs : List Nat) {fuel : Nat} {listed : Array Bool} {a : Act} {w : World} (hr : Region.ready md ops listed = rs) (hne : rs ≠ []) (h : AllD P md ops Q S e fuel listed a w rs) : wpAnyD P md ops Q S e (fuel + 1) listed a w :=
  ⟨fun h0 => absurd (hr ▸ h0) hne, hr ▸ h⟩
theorem wpAnyD_done {listed : Array Bool} {a : Act} {w : World} (hr : Region.ready md ops listed = []) (h : Q .normal a w) : ∀ fuel, wpAnyD P md ops Q S e fuel listed a w
  | 0 => ⟨hr, h⟩
  | _ + 1 => ⟨fun _ => h, by rw [hr]; simp⟩
theorem wp_region_D (W : World) (E : List Nat) {id : Nat} {a : Act} {w : World} (hm : P.follows .mixedOrders = true)
    (h : wpAnyD P .any ops Q (fun w' => ∃ g : Grow, w' = wext W g.os g.n) (fun j => E.contains j) ops.size (Array.replicate ops.size false) a w.drew) : (Code.region id ops true).wp P Q a w :=
  wp_region_any hm (wpAny_of_D _ _ _ _ h)
end
theorem grow_of_ext {W w : World} (h : Ext W w) : ∃ g : Grow, w = wext W g.os g.n := by
  obtain ⟨os, n, h⟩ := h
  exact ⟨⟨os, n⟩, h⟩

section
variable {P : Program} {l : List Oper} {Q : Exit → Act → World → Prop} {md : Region.Mode} {S : World → Prop} {e : Nat → Bool} {i : Nat} {oi : Oper} {fuel : Nat} {listed : Array Bool} {a : Act} {w : World}
theorem wpAnyD_takeSL (hi : l[i]? = some oi) (ht : takeB md l.toArray e listed i true (behindOf md l.toArray i) = true) (hQ : ∀ v c a w, Q (.panic c) (a.put oi.dst v) w → Q (.panic c) a w) (hS : S w)
    (h : ∃ v, YieldsIf P l.toArray S oi v a ∧ wpAnyD P md l.toArray Q S e fuel (listed.setIfInBounds i true) (a.put oi.dst v) w) : wpAnyD P md l.toArray Q S e (fuel + 1) listed a w :=
  wpAnyD_takeSx (by simpa using hi) ht hQ hS h
theorem wpAnyD_take0L (hi : l[i]? = some oi) (ht : takeB md l.toArray e listed i false [] = true) (hQ : ∀ v c a w, Q (.panic c) (a.put oi.dst v) w → Q (.panic c) a w)
    (h : ∃ v, YieldsIf P l.toArray (fun _ => True) oi v a ∧ wpAnyD P md l.toArray Q S e fuel (listed.setIfInBounds i true) (a.put oi.dst v) w) : wpAnyD P md l.toArray Q S e (fuel + 1) listed a w :=
  wpAnyD_take0x (by simpa using hi) ht hQ h
theorem wpAnyD_oneL (hi : l[i]? = some oi) (hr : Region.ready md l.toArray listed = [i])
    (h : ∀ K : Act → World → Prop, Hid (∀ a' w', (e i = true → S w') → wpAnyD P md l.toArray Q S e fuel (listed.setIfInBounds i true) a' w' → K a' w') → if Region.wanted oi (yielded l.toArray a.tmps) = true then oi.wp P a w K Q else K (a.put oi.dst undef) w) : wpAnyD P md l.toArray Q S e (fuel + 1) listed a w :=
  wpAnyD_one (by simpa using hi) hr h
theorem AllD_consL {rs : List Nat} (hi : l[i]? = some oi)
    (h : ∀ K : Act → World → Prop, Hid (∀ a' w', (e i = true → S w') → wpAnyD P md l.toArray Q S e fuel (listed.setIfInBounds i true) a' w' → K a' w') → if Region.wanted oi (yielded l.toArray a.tmps) = true then oi.wp P a w K Q else K (a.put oi.dst undef) w)
    (hs : AllD P md l.toArray Q S e fuel listed a w rs) : AllD P md l.toArray Q S e fuel listed a w (i :: rs) :=
  AllD_cons (by simpa using hi) h hs
end

end Go.Proofs.Ytmajkjkakciaiaa

set_option linter.unusedSimpArgs false
set_option linter.unusedVariables false
namespace Go.Proofs.Ytmajkjkakciaiaa
open Go.RowKit

theorem name_wX {P : Program} {c : Code} {Q : Exit → Act → World → Prop} {a : Act} {w : World} (h : ∀ X, X = w → c.wp P Q a X) : c.wp P Q a w := h w rfl
/-- The block r of w holds these cells. -/
def Blk (w : World) (r : Nat) (T : TypeId) (cs : List Value) : Prop := w.heap[r]? = some (.cells cs.toArray T (0, 0))
theorem Blk.lt {w : World} {r : Nat} {T : TypeId} {cs : List Value} (h : Blk w r T cs) : LtD r w.heap.size := (Array.getElem?_eq_some_iff.1 h).1
theorem Blk.cell {w : World} {r : Nat} {T : TypeId} {cs : List Value} (h : Blk w r T cs) (j : Nat) : w.cell? ⟨r, j, none⟩ = cs[j]? := by
  rw [cell_of_row w r j _ _ _ h]
  simp
theorem Blk.frozen {w : World} {r : Nat} {T : TypeId} {cs : List Value} (h : Blk w r T cs) (j : Nat) : w.frozen? ⟨r, j, none⟩ = false := frozen_of_row w r j _ _ h
theorem Blk.kept {w w' : World} {r : Nat} {T : TypeId} {cs : List Value} {k : Option Nat} (h : Blk w r T cs) (hg : w.grownBy w' k) (hk : some r ≠ k) : Blk w' r T cs := (hg.block r h.lt hk).trans h
theorem Blk.ext {w w' : World} {r : Nat} {T : TypeId} {cs : List Value} (h : Blk w r T cs) (hE : Ext w w') : Blk w' r T cs := (hE.below.block r h.lt).trans h
theorem Blk.newAt {w : World} {r : Nat} {T : TypeId} {cs : List Value} (hr : r = w.heap.size) : Blk (w.alloc (.cells cs.toArray T)) r T cs := by subst hr; exact heap_alloc_new w _
theorem Blk.alloc {w : World} {r : Nat} {T : TypeId} {cs : List Value} (h : Blk w r T cs) (o : Obj) : Blk (w.alloc o) r T cs := by
  unfold Blk World.alloc at *
  have hl : r < w.heap.size := (Array.getElem?_eq_some_iff.1 h).1
  simp only [Array.getElem?_push]
  rw [if_neg (by omega)]
  exact h
theorem Blk.wx {w : World} {r : Nat} {T : TypeId} {cs : List Value} (h : Blk w r T cs) (os : Array Obj) (n : Nat) : Blk (wext w os n) r T cs := h.ext ⟨os, n, rfl⟩
theorem Blk.dr {w : World} {r : Nat} {T : TypeId} {cs : List Value} (h : Blk w r T cs) : Blk w.drew r T cs := h
theorem Blk.set {w : World} {r : Nat} {T : TypeId} {cs : List Value} (h : Blk w r T cs) (j : Nat) (u : Value) : Blk (w.setCell ⟨r, j, none⟩ u) r T (cs.set j u) := by
  unfold Blk
  rw [heap_setCell_same w r j _ _ u h]
  simp
theorem Blk.range {w : World} {r : Nat} {T : TypeId} {cs : List Value} (h : Blk w r T cs) : w.rangeAt r 0 cs := by
  intro j v hv
  rw [Nat.zero_add, h.cell j, hv]
theorem Blk.rangeIn {w : World} {r : Nat} {T : TypeId} {cs : List Value} (h : Blk w r T cs) (o : Nat) (xs : List Value) (hx : ∀ j, j < xs.length → cs[o + j]? = xs[j]?) : w.rangeAt r o xs := by
  intro j v hv
  have hj : j < xs.length := (List.getElem?_eq_some_iff.1 hv).1
  rw [h.cell (o + j), hx j hj, hv]
theorem Blk.g {w : World} {r : Nat} {T : TypeId} {cs : List Value} (h : Blk w r T cs) (g : Grow) : (wext w g.os g.n).rangeAt r 0 cs := (h.ext ⟨g.os, g.n, rfl⟩).range
theorem rangeAt.ext {w w' : World} {g o : Nat} {cs : List Value} (h : w.rangeAt g o cs) (hg : g < w.heap.size) (hE : Ext w w') : w'.rangeAt g o cs := by
  intro j v hv
  exact (hE.below.cell (p := ⟨g, o + j, none⟩) hg).trans (h j v hv)
theorem rangeAt.g {w : World} {g o : Nat} {cs : List Value} (h : w.rangeAt g o cs) (hg : g < w.heap.size) (gz : Grow) : (wext w gz.os gz.n).rangeAt g o cs := rangeAt.ext h hg ⟨gz.os, gz.n, rfl⟩
theorem grown_set (w : World) (r i : Nat) (u : Value) : w.grownBy (w.setCell ⟨r, i, none⟩ u) (some r) :=
  ⟨rfl, rfl, rfl, by simp, fun k _ hk => heap_setCell_other w ⟨r, i, none⟩ k u (fun e => hk (by simp [e]))⟩
theorem grown_ext {w w' : World} (h : Ext w w') (k : Option Nat) : w.grownBy w' k := by
  have := h.below
  exact ⟨this.os, this.tape, this.output, this.size, fun j hj _ => this.block j hj⟩
theorem grown_trans {a b c : World} {k : Option Nat} (h : a.grownBy b k) (h' : b.grownBy c k) : a.grownBy c k :=
  ⟨h'.os.trans h.os, h'.tape.trans h.tape, h'.output.trans h.output, Nat.le_trans h.size h'.size, fun j hj hk => (h'.block j (Nat.lt_of_lt_of_le hj h.size) hk).trans (h.block j hj hk)⟩
theorem ext_grow {w X Y : World} {k : Option Nat} (hE : Ext w X) (hg : X.grownBy Y k) (hk : ∀ r, k = some r → w.heap.size ≤ r) : Ext w Y :=
  Ext.of_below (hE.below.trans (below_of_grown hg hE.below.size hk))
theorem ext_set {w X : World} {r i : Nat} {u : Value} (hE : Ext w X) (hr : w.heap.size ≤ r) : Ext w (X.setCell ⟨r, i, none⟩ u) :=
  ext_grow hE (grown_set X r i u) (fun k hk => by cases hk; exact hr)

section
variable {P : Program} {C : World → Prop} {ops : Array Oper} {Q : Act → Prop} {rest : List Oper} {a : Act} {o : Oper}
theorem quiet_ld {t : TypeId} {n b off : Nat} {cs : List Value} {d : TypeDesc} (ho : o.op = .load t (.tmp n)) (hx : a.tmps.toList[n]? = some (.pointer (some ⟨b, off, none⟩))) (hr : ∀ w, C w → w.rangeAt b off cs)
    (hu : P.underlying t = some d) (hd : d.isRow = true) (hi : (P.info? t).map (·.size) = some cs.length) : ∀ w, C w → o.quietAt P a C w (.agg cs.toArray) := by
  intro w hw
  have hx' : a.eval (.tmp n) = .pointer (some ⟨b, off, none⟩) := ev_tmp (by rw [← Array.getElem?_toList]; exact hx)
  unfold Oper.quietAt execOp
  simp only [ho, hx', Sem.run_bind, run_loadAt_mid w b off t cs d (hr w hw) hu hd hi]
  exact ⟨rfl, rfl⟩
theorem wpQuiet_ld {t : TypeId} {n b off : Nat} {cs : List Value} {d : TypeDesc} (hg : o.guard = none) (ho : o.op = .load t (.tmp n)) (hx : a.tmps.toList[n]? = some (.pointer (some ⟨b, off, none⟩))) (hr : ∀ w, C w → w.rangeAt b off cs)
    (hu : P.underlying t = some d) (hd : d.isRow = true) (hi : (P.info? t).map (·.size) = some cs.length) (h : wpQuiet P ops C Q rest (a.put o.dst (.agg cs.toArray))) : wpQuiet P ops C Q (o :: rest) a := by
  refine wpQuiet_step fun K hK => ?_
  rw [if_pos (by unfold Region.wanted; rw [hg])]
  exact ⟨_, quiet_ld ho hx hr hu hd hi, hK _ h⟩
theorem exec_ld {op : Oper} {w : World} (ty : TypeId) (x : Operand) {b off : Nat} {cs : List Value} {d : TypeDesc} (ho : op.op = .load ty x) (hx : a.eval x = .pointer (some ⟨b, off, none⟩)) (hc : w.rangeAt b off cs)
    (hu : P.underlying ty = some d) (hd : d.isRow = true) (hi : (P.info? ty).map (·.size) = some cs.length) : (execOp a.eval op).run P w = .ok (.value (.agg cs.toArray)) w := by
  unfold execOp
  simp only [ho, hx, Instr.loadAt, Instr.sureAddr, Sem.run_bind, Sem.run_pure, Result.andThen_ok, run_loadVar_mid w b off ty cs d hc hu hd hi]
end

section
variable {P : Program} {fn : Func} {tm : Array Value} {w : World}
/-- A result that lies in a box. -/
def GivesC (P : Program) (tm : Array Value) (w : World) (s : Nat) (T : TypeId) (v : Value) : Prop := ∃ r cs d, tm.getD s undef = .pointer (some ⟨r, 0, none⟩) ∧ w.rangeAt r 0 cs ∧ P.underlying T = some d ∧ d.isRow = true ∧ (P.info? T).map (·.size) = some cs.length ∧ v = .agg cs.toArray
theorem GivesC.run {s : Nat} {T : TypeId} {v : Value} (h : GivesC P tm w s T v) : ∃ ad, (asAddr (tm[s]?.getD undef)).run P w = .ok ad w ∧ (loadVar T ad).run P w = .ok v w := by
  obtain ⟨r, cs, d, h1, h2, h3, h4, h5, rfl⟩ := h
  refine ⟨⟨r, 0, none⟩, ?_, run_loadVar_mid w r 0 T cs d h2 h3 h4 h5⟩
  rw [Array.getD_eq_getD_getElem?] at h1
  rw [h1]
  rfl
theorem GivesC.of {s r : Nat} {T : TypeId} {cs : List Value} {d : TypeDesc} (h : Blk w r T cs) (h1 : tm.getD s undef = .pointer (some ⟨r, 0, none⟩)) (h3 : P.underlying T = some d) (h4 : d.isRow = true) (h5 : (P.info? T).map (·.size) = some cs.length) : GivesC P tm w s T (.agg cs.toArray) := ⟨r, cs, d, h1, h.range, h3, h4, h5, rfl⟩
theorem res_c {s : Nat} {T : TypeId} {v : Value} (hr : fn.results = #[.cell s T]) (h : GivesC P tm w s T v) : (results fn tm).run P w = .ok v w := by
  obtain ⟨ad, h1, h2⟩ := h.run
  simp [results, hr, h1, h2]
theorem res_ct {s n : Nat} {T : TypeId} {v u : Value} (hr : fn.results = #[.cell s T, .tmp n]) (h : GivesC P tm w s T v) (hu : tm.getD n undef = u) : (results fn tm).run P w = .ok (.tuple #[v, u]) w := by
  obtain ⟨ad, h1, h2⟩ := h.run
  rw [Array.getD_eq_getD_getElem?] at hu
  simp [results, hr, h1, h2, hu]
theorem res_ccc {s s' s'' : Nat} {T T' T'' : TypeId} {v v' v'' : Value} (hr : fn.results = #[.cell s T, .cell s' T', .cell s'' T'']) (h : GivesC P tm w s T v) (h' : GivesC P tm w s' T' v') (h'' : GivesC P tm w s'' T'' v'') : (results fn tm).run P w = .ok (.tuple #[v, v', v'']) w := by
  obtain ⟨ad, h1, h2⟩ := h.run
  obtain ⟨ad', h3, h4⟩ := h'.run
  obtain ⟨ad'', h5, h6⟩ := h''.run
  simp [results, hr, h1, h2, h3, h4, h5, h6]
end
/-- A box is filled whole. -/
theorem Blk.fillFrom {r : Nat} {T : TypeId} : ∀ (cs : List Value) (w : World) (pre old : List Value), Blk w r T (pre ++ old) → old.length = cs.length → Blk (w.setCells r pre.length cs) r T (pre ++ cs) ∧ w.grownBy (w.setCells r pre.length cs) (some r)
  | [], w, pre, old, h, hl => by
    obtain rfl : old = [] := List.length_eq_zero_iff.1 hl
    exact ⟨h, grown_ext (Ext.refl w) _⟩
  | v :: cs, w, pre, old, h, hl => by
    cases old with
    | nil => simp at hl
    | cons u old =>
      have h1 := h.set pre.length v
      rw [List.set_append_right _ _ (Nat.le_refl _), Nat.sub_self, List.set_cons_zero] at h1
      have h2 : Blk (w.setCell ⟨r, pre.length, none⟩ v) r T ((pre ++ [v]) ++ old) := by simpa using h1
      have := Blk.fillFrom cs _ (pre ++ [v]) old h2 (by simpa using hl)
      rw [List.length_append, List.append_assoc] at this
      exact ⟨this.1, grown_trans (grown_set _ _ _ _) this.2⟩
theorem Blk.fill {w : World} {r : Nat} {T : TypeId} {old cs : List Value} (h : Blk w r T old) (hl : old.length = cs.length) : Blk (w.setCells r 0 cs) r T cs := (Blk.fillFrom cs w [] old h hl).1
theorem Blk.fillGrown {w : World} {r : Nat} {T : TypeId} {old cs : List Value} (h : Blk w r T old) (hl : old.length = cs.length) : w.grownBy (w.setCells r 0 cs) (some r) := (Blk.fillFrom cs w [] old h hl).2
theorem Blk.there {w : World} {r : Nat} {T : TypeId} {cs : List Value} (h : Blk w r T cs) {n : Nat} (hn : n = cs.length) : w.there r 0 n := fun j hj => by
  rw [Nat.zero_add, h.cell j, List.getElem?_eq_getElem (by omega)]
  exact ⟨rfl, h.frozen j⟩
theorem Blk.keptFill {w : World} {r r' : Nat} {T T' : TypeId} {old cs cs' : List Value} (h : Blk w r' T' cs') (hb : Blk w r T old) (hl : old.length = cs.length) (hne : r' ≠ r) : Blk (w.setCells r 0 cs) r' T' cs' :=
  h.kept (hb.fillGrown hl) (fun e => hne (by cases e; rfl))
theorem ext_fill {w X : World} {r : Nat} {T : TypeId} {old cs : List Value} (hE : Ext w X) (hb : Blk X r T old) (hl : old.length = cs.length) (hr : w.heap.size ≤ r) : Ext w (X.setCells r 0 cs) :=
  ext_grow hE (hb.fillGrown hl) (fun k hk => by cases hk; exact hr)
theorem rangeAt.kept {w w' : World} {g o : Nat} {cs : List Value} {k : Option Nat} (h : w.rangeAt g o cs) (hg : g < w.heap.size) (hw : w.grownBy w' k) (hk : some g ≠ k) : w'.rangeAt g o cs := by
  intro j v hv
  have := h j v hv
  rw [← this]
  exact World.cell?_of_block (a := ⟨g, o + j, none⟩) (hw.block g hg hk)
theorem name_wp {P : Program} {op : Oper} {a : Act} {w : World} {K : Act → World → Prop} {Q : Exit → Act → World → Prop} (h : ∀ X, X = w → op.wp P a X K Q) : op.wp P a w K Q := h w rfl
theorem wp_store_box {P : Program} {op : Oper} {a : Act} {W : World} {K : Act → World → Prop} {Q : Exit → Act → World → Prop} (T : TypeId) (x y : Operand) (ho : op.op = .store T x y)
    {r : Nat} {old cs : List Value} (b : Blk W r T old) (hx : a.eval x = .pointer (some ⟨r, 0, none⟩)) (hy : a.eval y = .agg cs.toArray)
    (hi : (P.info? T).map (·.size) = some cs.length) (h1 : cs.toArray.all (·.oneCell') = true) (hl : old.length = cs.length)
    (h : ∀ Y, W.grownBy Y (some r) → Blk Y r T cs → K (a.put op.dst undef) Y) : op.wp P a W K Q :=
  wp_store_mid T x y ho r 0 cs.toArray hx hy (b.there (by simp [hl])) (by simpa using hi) h1 (h _ (b.fillGrown hl) (b.fill hl))
/-- w is X grown, but for the blocks of L, which may hold anything. -/
structure GrownX (X : World) (L : List Nat) (w : World) : Prop where
  os : w.os = X.os
  tape : w.tape = X.tape
  output : w.output = X.output
  size : X.heap.size ≤ w.heap.size
  block : ∀ b, b < X.heap.size → L.contains b = false → w.heap[b]? = X.heap[b]?
theorem GrownX.of_ext {X w : World} {L : List Nat} (h : Ext X w) : GrownX X L w := by
  have := h.below
  exact ⟨this.os, this.tape, this.output, this.size, fun b hb _ => this.block b hb⟩
theorem GrownX.ext {X w w' : World} {L : List Nat} (h : GrownX X L w) (hE : Ext w w') : GrownX X L w' := by
  have := hE.below
  exact ⟨this.os.trans h.os, this.tape.trans h.tape, this.output.trans h.output, Nat.le_trans h.size this.size, fun b hb hn => (this.block b (Nat.lt_of_lt_of_le hb h.size)).trans (h.block b hb hn)⟩
theorem GrownX.step {X w w' : World} {L : List Nat} {r : Nat} (h : GrownX X L w) (hg : w.grownBy w' (some r)) (hr : L.contains r = true) : GrownX X L w' :=
  ⟨hg.os.trans h.os, hg.tape.trans h.tape, hg.output.trans h.output, Nat.le_trans h.size hg.size, fun b hb hn => (hg.block b (Nat.lt_of_lt_of_le hb h.size) (fun e => by cases e; rw [hr] at hn; cases hn)).trans (h.block b hb hn)⟩
theorem GrownX.blk {X w : World} {L : List Nat} {r : Nat} {T : TypeId} {cs : List Value} (h : GrownX X L w) (b : Blk X r T cs) (hn : L.contains r = false) : Blk w r T cs := (h.block r b.lt hn).trans b
theorem GrownX.range {X w : World} {L : List Nat} {g o : Nat} {cs : List Value} (h : GrownX X L w) (b : X.rangeAt g o cs) (hg : g < X.heap.size) (hn : L.contains g = false) : w.rangeAt g o cs := by
  intro j v hv
  have := b j v hv
  rw [← this]
  exact World.cell?_of_block (a := ⟨g, o + j, none⟩) (h.block g hg hn)
theorem GrownX.cell {X w : World} {L : List Nat} {g j : Nat} {v : Value} (h : GrownX X L w) (b : X.cell? ⟨g, j, none⟩ = some v) (hg : g < X.heap.size) (hn : L.contains g = false) : w.cell? ⟨g, j, none⟩ = some v := by
  rw [← b]
  exact World.cell?_of_block (a := ⟨g, j, none⟩) (h.block g hg hn)
theorem wp_region_S {P : Program} {ops : Array Oper} {Q : Exit → Act → World → Prop} (S : World → Prop) {id : Nat} {a : Act} {w : World} (hm : P.follows .mixedOrders = true)
    (h : wpAnyD P .any ops Q S (fun _ => true) ops.size (Array.replicate ops.size false) a w.drew) : (Code.region id ops true).wp P Q a w :=
  wp_region_any hm (wpAny_of_D _ _ _ _ h)
theorem name_wl {P : Program} {ops : Array Oper} {Q : Exit → Act → World → Prop} {l : List Oper} {a : Act} {w : World} (h : ∀ X, X = w → wpList P ops Q l a X) : wpList P ops Q l a w := h w rfl
theorem name_wd {P : Program} {md : Region.Mode} {ops : Array Oper} {Q : Exit → Act → World → Prop} {S : World → Prop} {e : Nat → Bool} {fuel : Nat} {listed : Array Bool} {a : Act} {w : World} (h : ∀ X, X = w → wpAnyD P md ops Q S e fuel listed a X) : wpAnyD P md ops Q S e fuel listed a w := h w rfl
theorem GrownX.refl (X : World) (L : List Nat) : GrownX X L X := ⟨rfl, rfl, rfl, Nat.le_refl _, fun _ _ _ => rfl⟩
theorem GrownX.stepNew {X w w' : World} {L : List Nat} {r : Nat} (h : GrownX X L w) (hg : w.grownBy w' (some r)) (hr : X.heap.size ≤ r) : GrownX X L w' :=
  ⟨hg.os.trans h.os, hg.tape.trans h.tape, hg.output.trans h.output, Nat.le_trans h.size hg.size, fun b hb hn => (hg.block b (Nat.lt_of_lt_of_le hb h.size) (fun e => by cases e; omega)).trans (h.block b hb hn)⟩
theorem ext_alloc (w : World) (o : Obj) : Ext w (w.alloc o) := Ext.of_below ((Below.refl _ _).alloc (Nat.le_refl _) o)
theorem ext_drew (w : World) : Ext w w.drew := Ext.of_below (Below.refl _ _).drew
theorem size_alloc (w : World) (o : Obj) : (w.alloc o).heap.size = w.heap.size + 1 := by simp
theorem wp_ld {P : Program} {op : Oper} {a : Act} {W : World} {K : Act → World → Prop} {Q : Exit → Act → World → Prop} (T : TypeId) (x : Operand) {b off : Nat} {cs : List Value} {d : TypeDesc} (hc : W.rangeAt b off cs) (ho : op.op = .load T x) (hx : a.eval x = .pointer (some ⟨b, off, none⟩))
    (hu : P.underlying T = some d) (hd : d.isRow = true) (hi : (P.info? T).map (·.size) = some cs.length) (h : K (a.put op.dst (.agg cs.toArray)) W) : op.wp P a W K Q :=
  wp_load_mid T x ho b off hx cs d hc hu hd hi h

end Go.Proofs.Ytmajkjkakciaiaa
