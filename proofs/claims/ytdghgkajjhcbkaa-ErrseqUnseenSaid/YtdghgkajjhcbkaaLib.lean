/- Small laws on worlds that have only grown: 'wext w os n' is w with new blocks behind it and another count of draws. -/
import Derived.Test.YtdghgkajjhcbkaaRows
import Derived.WalkKit
import Derived.WalkSpells
import Derived.WalkLawsBesides
import Derived.Handy
import Derived.Deep.QuietTactic
import Derived.BigQuiet
import Derived.Deep.RegionWith
import Derived.Deep.RegionHeld3
namespace Go.Proofs.Ytdghgkajjhcbkaa
open Go.RowKit

def wext (w : World) (os : Array Obj) (n : Nat) : World := { w with heap := w.heap ++ os, drawn := n }

/-- 'a < b' in a dress of its own: its rules want no premises. -/
def LtD (a b : Nat) : Prop := a < b
def LtR (a b c : Nat) : Prop := b ≤ a ∧ a < b + c
theorem LtD.of_lt {a b : Nat} (h : a < b) : LtD a b := h
@[go_sem] theorem LtD_self (a n : Nat) : LtD a (a + n) = (0 < n) := by simp [LtD]
@[go_sem] theorem LtD_same (a m n : Nat) : LtD (a + m) (a + n) = (m < n) := by simp [LtD]
@[go_sem low] theorem LtD_add (a b c : Nat) : LtD a (b + c) = (LtD a b ∨ LtR a b c) := by
  apply propext; unfold LtD LtR; omega

section
variable (w : World) (os os2 : Array Obj) (n m b i : Nat) (v : Value) (o : Obj)
@[simp, go_sem] theorem wext_size : (wext w os n).heap.size = w.heap.size + os.size := by simp [wext]
@[simp, go_sem] theorem wext_tape : (wext w os n).tape = w.tape := rfl
@[simp, go_sem] theorem wext_os : (wext w os n).os = w.os := rfl
@[simp, go_sem] theorem wext_output : (wext w os n).output = w.output := rfl
theorem wext_block (h : b < w.heap.size) : (wext w os n).heap[b]? = w.heap[b]? := by
  simp [wext, Array.getElem?_append_left h]
@[go_sem] theorem wext_cell (h : LtD b w.heap.size) : (wext w os n).cell? ⟨b, i, none⟩ = w.cell? ⟨b, i, none⟩ :=
  World.cell?_of_block (a := ⟨b, i, none⟩) (wext_block w os n b h)
@[go_sem] theorem wext_frozen (h : LtD b w.heap.size) : (wext w os n).frozen? ⟨b, i, none⟩ = w.frozen? ⟨b, i, none⟩ :=
  World.frozen?_of_block (a := ⟨b, i, none⟩) (wext_block w os n b h)
@[go_sem] theorem wext_setCell (h : LtD b w.heap.size) : (wext w os n).setCell ⟨b, i, none⟩ v = wext (w.setCell ⟨b, i, none⟩ v) os n := by
  unfold wext World.setCell
  congr 1
  apply Array.ext_getElem?
  intro k
  simp only [Array.getElem?_modify, Array.getElem?_append, Array.size_modify]
  by_cases hk : k < w.heap.size
  · simp [hk]
  · have hb : ¬ b = k := by unfold LtD at h; omega
    simp [hk, hb]
@[go_sem high] theorem cell_alloc_past (h : LtD b w.heap.size) : (w.alloc o).cell? ⟨b, i, none⟩ = w.cell? ⟨b, i, none⟩ := World.cell?_alloc_past o b i h
@[go_sem high] theorem frozen_alloc_past (h : LtD b w.heap.size) : (w.alloc o).frozen? ⟨b, i, none⟩ = w.frozen? ⟨b, i, none⟩ := World.frozen?_alloc_past o b i h
@[go_sem high] theorem setCell_alloc_past (h : LtD b w.heap.size) : (w.alloc o).setCell ⟨b, i, none⟩ v = (w.setCell ⟨b, i, none⟩ v).alloc o := World.setCell_alloc_past o b i v h
@[go_sem] theorem wext_drew : (wext w os n).drew = wext w os (n + 1) := rfl
@[go_sem] theorem wext_wext : wext (wext w os n) os2 m = wext w (os ++ os2) m := by
  unfold wext; simp [Array.append_assoc]
@[go_sem] theorem drew_wext : wext w.drew os n = wext w os n := rfl
end

def Ext (w w' : World) : Prop := ∃ os n, w' = wext w os n

theorem Ext.of_below {w w' : World} (h : Below w.heap.size w w') : Ext w w' := by
  refine ⟨w'.heap.extract w.heap.size w'.heap.size, w'.drawn, ?_⟩
  obtain ⟨h1, h2, h3, h4, h5⟩ := h
  cases w' with
  | mk heap tape drawn os output =>
    simp only at h1 h2 h3 h4 h5
    subst h1 h2 h3
    unfold wext
    congr 1
    apply Array.ext_getElem?
    intro k
    simp only [Array.getElem?_append]
    split
    · rename_i hk; exact h5 k hk
    · rename_i hk
      simp only [Array.getElem?_extract]
      by_cases hk2 : k < heap.size
      · rw [if_pos (by omega)]; congr 1; omega
      · rw [if_neg (by omega)]; simp; omega

theorem Below.wext {B : Nat} {a w : World} (h : Below B a w) (hB : B ≤ w.heap.size) (os : Array Obj) (n : Nat) : Below B a (wext w os n) :=
  h.trans ⟨rfl, rfl, rfl, by simp, fun k hk => wext_block w os n k (by omega)⟩

theorem Ext.below {w w' : World} (h : Ext w w') : Below w.heap.size w w' := by
  obtain ⟨os, n, rfl⟩ := h
  exact Below.wext (Below.refl _ _) (Nat.le_refl _) os n

theorem Ext.refl (w : World) : Ext w w := ⟨#[], w.drawn, by simp [Go.Proofs.Ytdghgkajjhcbkaa.wext]⟩
theorem Ext.trans {a b c : World} (h : Ext a b) (k : Ext b c) : Ext a c := by
  obtain ⟨os, n, rfl⟩ := h
  obtain ⟨os2, m, rfl⟩ := k
  exact ⟨_, _, wext_wext _ _ _ _ _⟩

theorem ret_b {a b : Bool} (h : a = b) : Ending.returned (.bool a) = .returned (.bool b) := by rw [h]
theorem ret_i {k : IntKind} {a b : Int} (h : a = b) : Ending.returned (.int k a) = .returned (.int k b) := by rw [h]

structure Grow where
  os : Array Obj
  n : Nat
instance : Inhabited Grow := ⟨⟨#[], 0⟩⟩

/-- A callee's contract, met inside a region in whatever order: the world has only grown. -/
theorem Calls.ext_of {P : Program} {f : FuncId} {args : Array Value} {w : World} {os : Array Obj} {n : Nat} {v : Value}
    (h : Calls P f args (wext w os n) fun e w' => e = .returned v ∧ Ext (wext w os n) w') : Calls P f args (wext w os n) fun e w'' => e = .returned v ∧ ∃ g : Grow, w'' = wext w g.os g.n :=
  h.mono fun _ _ ⟨he, os2, m, hm⟩ => ⟨he, ⟨os ++ os2, m⟩, by rw [hm, wext_wext]⟩

theorem wext_drawn (w : World) (n : Nat) : ∃ g : Grow, ({ w with drawn := n } : World) = wext w g.os g.n := ⟨⟨#[], n⟩, by simp [wext]⟩

/-- A region that draws its order, whose operations read and whose callees make memory of their own: one walk in the order of the text. -/
theorem wp_region_ext {P : Program} {id : Nat} {l : List Oper} {Q : Exit → Act → World → Prop} {a : Act} {w : World} (hm : P.follows .mixedOrders = true) (hB : Region.lexB .any l.toArray = true)
    (h : wpQuiet P l.toArray (fun w' => ∃ g : Grow, w' = wext w g.os g.n) (fun a' => ∀ w', (∃ g : Grow, w' = wext w g.os g.n) → Q .normal a' w') l a) : (Code.region id l.toArray true).wp P Q a w :=
  wp_region_quiet (C := fun w' => ∃ g : Grow, w' = wext w g.os g.n) hm hB (wext_drawn w _) (by simpa using h)

end Go.Proofs.Ytdghgkajjhcbkaa
