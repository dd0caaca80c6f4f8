/- The world of observers in memory, and the contracts of its methods. -/
import Derived.Test.YtdghgkajjhcbkaaErp
import Derived.Deep.OwnRows
import Derived.Deep.RegionHeld
set_option linter.unusedSimpArgs false
set_option linter.unusedVariables false
namespace Go.Proofs.Ytdghgkajjhcbkaa
open Go.RowKit

/-- The cells of a world: the errors, the seen ones, the two tables. -/
def wF (E S : Int) (bk bb : Nat) : Nat → Value
  | 0 => .int .i64 E
  | 1 => .int .i64 S
  | 2 => .slice (some ⟨bk, 0, none⟩) 4 4
  | _ => .slice (some ⟨bb, 0, none⟩) 4 4
def iF (K : Nat → Int) : Nat → Value := fun j => .int .i64 (K j)
def bF (B : Nat → Bool) : Nat → Value := fun j => .bool (B j)

/-- A world of four observers lies in memory. -/
structure MemW (w : World) (bw bk bb : Nat) (E S : Int) (K : Nat → Int) (B : Nat → Bool) : Prop where
  rw : w.rowIs bw 47 4 (wF E S bk bb)
  rk : w.rowIs bk 3 4 (iF K)
  rb : w.rowIs bb 4 4 (bF B)
  n1 : bw ≠ bk
  n2 : bw ≠ bb
  n3 : bk ≠ bb

theorem cell_oth (w : World) {b b' : Nat} (h : b ≠ b') (i j : Nat) (v : Value) : (w.setCell ⟨b, i, none⟩ v).cell? ⟨b', j, none⟩ = w.cell? ⟨b', j, none⟩ := World.cell?_setCell_far w _ _ v h
theorem cell_off (w : World) {i j : Nat} (h : i ≠ j) (b : Nat) (v : Value) : (w.setCell ⟨b, i, none⟩ v).cell? ⟨b, j, none⟩ = w.cell? ⟨b, j, none⟩ := by
  have hn : (⟨b, i, none⟩ : Addr) ≠ ⟨b, j, none⟩ := by intro e; cases e; exact h rfl
  simp [World.cell?_setCell_other, hn]
theorem addr_ne {b b' i j : Nat} (h : b ≠ b') : (⟨b, i, none⟩ : Addr) ≠ ⟨b', j, none⟩ := by intro e; cases e; exact h rfl

theorem rowIs_wext {w : World} {b n : Nat} {t : TypeId} {f : Nat → Value} (h : w.rowIs b t n f) (os : Array Obj) (k : Nat) : (wext w os k).rowIs b t n f := h.of_block (wext_block w os k b h.lt)
theorem rowIs_wext0 {w : World} {b n : Nat} {t : TypeId} {f : Nat → Value} (h : w.rowIs b t n f) (k : Nat) : (w.drewN k).rowIs b t n f := h
section
variable {w : World} {bw bk bb : Nat} {E S : Int} {K : Nat → Int} {B : Nat → Bool}
theorem MemW.wext (h : MemW w bw bk bb E S K B) (os : Array Obj) (k : Nat) : MemW (wext w os k) bw bk bb E S K B := ⟨rowIs_wext h.rw _ _, rowIs_wext h.rk _ _, rowIs_wext h.rb _ _, h.n1, h.n2, h.n3⟩
theorem MemW.alloc (h : MemW w bw bk bb E S K B) (o : Obj) : MemW (w.alloc o) bw bk bb E S K B := ⟨h.rw.alloc _, h.rk.alloc _, h.rb.alloc _, h.n1, h.n2, h.n3⟩
theorem MemW.drew (h : MemW w bw bk bb E S K B) : MemW w.drew bw bk bb E S K B := ⟨h.rw.drew, h.rk.drew, h.rb.drew, h.n1, h.n2, h.n3⟩
theorem MemW.setOther (h : MemW w bw bk bb E S K B) {b i : Nat} (h1 : bw ≠ b) (h2 : bk ≠ b) (h3 : bb ≠ b) (v : Value) : MemW (w.setCell ⟨b, i, none⟩ v) bw bk bb E S K B := ⟨h.rw.setOther h1 _, h.rk.setOther h2 _, h.rb.setOther h3 _, h.n1, h.n2, h.n3⟩
end

set_option maxHeartbeats 400000 in
theorem fail_any {bw bk bb : Nat} {E S : Int} {K : Nat → Int} {B : Nat → Bool} (w : World) (h : MemW w bw bk bb E S K B) (h0 : 0 ≤ E) (h1 : E ≤ 1000) :
    Calls Try.prog 22 #[.pointer (some ⟨bw, 0, none⟩)] w fun e w' => e = .returned (.tuple #[]) ∧ w' = w.setCell ⟨bw, 0, none⟩ (.int .i64 (E + 1)) := by
  have c0 : w.cell? ⟨bw, 0, none⟩ = some (.int .i64 E) := h.rw.cell (by omega)
  have f0 : w.frozen? ⟨bw, 0, none⟩ = false := h.rw.frozen 0
  go_enter Try.func22, Try.ntmps22
  go_wp2
  go_end0
  exact ⟨rfl, rfl⟩

set_option maxHeartbeats 1000000 in
theorem begin_any {bw bk bb : Nat} {E S : Int} {K : Nat → Int} {B : Nat → Bool} (w : World) (h : MemW w bw bk bb E S K B) (j : Nat) (hj : j < 4) :
    Calls Try.prog 23 #[.pointer (some ⟨bw, 0, none⟩), .int .i64 j] w fun e w' => e = .returned (.tuple #[]) ∧ Ext ((w.setCell ⟨bb, j, none⟩ (.bool true)).setCell ⟨bk, j, none⟩ (.int .i64 S)) w' := by
  have c3 : w.cell? ⟨bw, 3, none⟩ = some (.slice (some ⟨bb, 0, none⟩) 4 4) := h.rw.cell (by omega)
  have cb : w.cell? ⟨bb, j, none⟩ = some (.bool (B j)) := h.rb.cell hj
  have fb : w.frozen? ⟨bb, j, none⟩ = false := h.rb.frozen j
  have d1 : (w.setCell ⟨bb, j, none⟩ (.bool true)).cell? ⟨bw, 1, none⟩ = some (.int .i64 S) := (cell_oth w h.n2.symm _ _ _).trans (h.rw.cell (by omega))
  have d2 : (w.setCell ⟨bb, j, none⟩ (.bool true)).cell? ⟨bw, 2, none⟩ = some (.slice (some ⟨bk, 0, none⟩) 4 4) := (cell_oth w h.n2.symm _ _ _).trans (h.rw.cell (by omega))
  have dk : (w.setCell ⟨bb, j, none⟩ (.bool true)).cell? ⟨bk, j, none⟩ = some (.int .i64 (K j)) := (cell_oth w h.n3.symm _ _ _).trans (h.rk.cell hj)
  have fk : w.frozen? ⟨bk, j, none⟩ = false := h.rk.frozen j
  go_enter Try.func23, Try.ntmps23
  go_wp2_with fail
  go_region
  all_goals go_wp2
  all_goals go_end0
  all_goals exact ⟨rfl, by (exact Ext.of_below (by (repeat' (first | (with_reducible exact Below.refl _ _) | (with_reducible assumption) | (with_reducible refine Below.alloc ?_ ?_ _) | (with_reducible refine Below.wext ?_ ?_ _ _) | (with_reducible refine Below.drew ?_) | (with_reducible refine Below.setCell ?_ ?_ _) | (with_reducible exact Nat.le_refl _) | (simp; omega) | (simp; done)))))⟩

set_option maxHeartbeats 1000000 in
theorem ask_told {bw bk bb : Nat} {E S : Int} {K : Nat → Int} {B : Nat → Bool} (w : World) (h : MemW w bw bk bb E S K B) (j : Nat) (hj : j < 4) (hK : K j < E) :
    Calls Try.prog 24 #[.pointer (some ⟨bw, 0, none⟩), .int .i64 j] w fun e w' => e = .returned (.bool true) ∧ Ext ((w.setCell ⟨bw, 1, none⟩ (.int .i64 E)).setCell ⟨bk, j, none⟩ (.int .i64 E)) w' := by
  have c0 : w.cell? ⟨bw, 0, none⟩ = some (.int .i64 E) := h.rw.cell (by omega)
  have c1 : w.cell? ⟨bw, 1, none⟩ = some (.int .i64 S) := h.rw.cell (by omega)
  have c2 : w.cell? ⟨bw, 2, none⟩ = some (.slice (some ⟨bk, 0, none⟩) 4 4) := h.rw.cell (by omega)
  have ck : w.cell? ⟨bk, j, none⟩ = some (.int .i64 (K j)) := h.rk.cell hj
  have f1 : w.frozen? ⟨bw, 1, none⟩ = false := h.rw.frozen 1
  have fk : w.frozen? ⟨bk, j, none⟩ = false := h.rk.frozen j
  have d0 : (w.setCell ⟨bw, 1, none⟩ (.int .i64 E)).cell? ⟨bw, 0, none⟩ = some (.int .i64 E) := (cell_off w (by omega) _ _).trans c0
  have d2 : (w.setCell ⟨bw, 1, none⟩ (.int .i64 E)).cell? ⟨bw, 2, none⟩ = some (.slice (some ⟨bk, 0, none⟩) 4 4) := (cell_off w (by omega) _ _).trans c2
  have dk : (w.setCell ⟨bw, 1, none⟩ (.int .i64 E)).cell? ⟨bk, j, none⟩ = some (.int .i64 (K j)) := (cell_oth w h.n1 _ _ _).trans ck
  go_enter Try.func24, Try.ntmps24
  go_wp2_with fail
  go_region
  all_goals go_wp2_with fail
  go_region
  all_goals go_wp2
  all_goals go_ret
  all_goals exact ⟨rfl, by (exact Ext.of_below (by (repeat' (first | (with_reducible exact Below.refl _ _) | (with_reducible assumption) | (with_reducible refine Below.alloc ?_ ?_ _) | (with_reducible refine Below.wext ?_ ?_ _ _) | (with_reducible refine Below.drew ?_) | (with_reducible refine Below.setCell ?_ ?_ _) | (with_reducible exact Nat.le_refl _) | (simp; omega) | (simp; done)))))⟩

set_option maxHeartbeats 1000000 in
theorem ask_none {bw bk bb : Nat} {E S : Int} {K : Nat → Int} {B : Nat → Bool} (w : World) (h : MemW w bw bk bb E S K B) (j : Nat) (hj : j < 4) (hK : E ≤ K j) :
    Calls Try.prog 24 #[.pointer (some ⟨bw, 0, none⟩), .int .i64 j] w fun e w' => e = .returned (.bool false) ∧ Ext (w.setCell ⟨bk, j, none⟩ (.int .i64 E)) w' := by
  have c0 : w.cell? ⟨bw, 0, none⟩ = some (.int .i64 E) := h.rw.cell (by omega)
  have c2 : w.cell? ⟨bw, 2, none⟩ = some (.slice (some ⟨bk, 0, none⟩) 4 4) := h.rw.cell (by omega)
  have ck : w.cell? ⟨bk, j, none⟩ = some (.int .i64 (K j)) := h.rk.cell hj
  have fk : w.frozen? ⟨bk, j, none⟩ = false := h.rk.frozen j
  have hd : decide (K j < E) = false := by simp; omega
  go_enter Try.func24, Try.ntmps24
  go_wp2_with fail
  go_region
  all_goals go_wp2_with fail
  go_region
  all_goals go_wp2
  all_goals go_ret
  all_goals exact ⟨by simp [hd], by (exact Ext.of_below (by (repeat' (first | (with_reducible exact Below.refl _ _) | (with_reducible assumption) | (with_reducible refine Below.alloc ?_ ?_ _) | (with_reducible refine Below.wext ?_ ?_ _ _) | (with_reducible refine Below.drew ?_) | (with_reducible refine Below.setCell ?_ ?_ _) | (with_reducible exact Nat.le_refl _) | (simp; omega) | (simp; done)))))⟩

theorem Try.info_int : (Try.prog.info? 3).map (fun i => (i.zero, i.size, i.bytes)) = some (some (.int .i64 0), 1, 8) := by kernel_rfl
theorem Try.info_bool : (Try.prog.info? 4).map (fun i => (i.zero, i.size, i.bytes)) = some (some (.bool false), 1, 1) := by kernel_rfl
theorem row_new (w : World) {b n : Nat} (c : Array Value) (t : TypeId) (f : Nat → Value) (hb : b = w.heap.size) (hn : c.size = n) (hc : ∀ i, i < n → c[i]? = some (f i)) : (w.alloc (.cells c t)).rowIs b t n f := by
  subst hb; subst hn; exact World.rowIs_alloc w c t f hc
theorem row_made2 (w : World) {b : Nat} (z : Value) (n : Nat) (t : TypeId) (hb : b = w.heap.size) : (w.alloc (.cells (madeCells #[z] n) t)).rowIs b t n (fun _ => z) := by
  subst hb; exact World.rowIs_made w z n t
/-- What Start leaves: a new world of four observers. -/
def startPost (w : World) (e : Ending) (w' : World) : Prop := ∃ bw bk bb, e = .returned (.pointer (some ⟨bw, 0, none⟩)) ∧ MemW w' bw bk bb 0 0 (fun _ => 0) (fun _ => false) ∧ w.heap.size ≤ bw ∧ w.heap.size ≤ bk ∧ w.heap.size ≤ bb ∧ Ext w w'

set_option maxHeartbeats 1000000 in
theorem start_any (w : World) :
    Calls Try.prog 21 #[.int .i64 4] w (startPost w) := by
  have hk : ∀ w : World, (Instr.makeSlice 45 (.int .i64 4) (.int .i64 4)).run Try.prog w = .ok (.slice (some ⟨w.heap.size, 0, none⟩) 4 4) (w.alloc (.cells (madeCells #[.int .i64 0] 4) 3)) := fun w =>
    run_make_row' 45 3 (.int .i64 0) 8 Try.underlying45 Try.info_int rfl .i64 .i64 4 (by omega) (by omega) w
  have hb : ∀ w : World, (Instr.makeSlice 35 (.int .i64 4) (.int .i64 4)).run Try.prog w = .ok (.slice (some ⟨w.heap.size, 0, none⟩) 4 4) (w.alloc (.cells (madeCells #[.bool false] 4) 4)) := fun w =>
    run_make_row' 35 4 (.bool false) 1 Try.underlying35 Try.info_bool rfl .i64 .i64 4 (by omega) (by omega) w
  go_enter Try.func21, Try.ntmps21
  go_wp2_with fail
  go_region
  all_goals go_wp2
  all_goals go_ret
  · exact ⟨w.heap.size + 1 + 1, w.heap.size, w.heap.size + 1, rfl, ⟨row_new _ _ _ _ (by simp) (by simp) (by intro i hi; match i, hi with | 0, _ => rfl | 1, _ => rfl | 2, _ => rfl | 3, _ => rfl), ((World.rowIs_made w.drew (.int .i64 0) 4 3).alloc _).alloc _, (row_made2 _ _ _ _ (by simp)).alloc _, by omega, by omega, by omega⟩, by omega, by omega, by omega, by (exact Ext.of_below (by (repeat' (first | (with_reducible exact Below.refl _ _) | (with_reducible assumption) | (with_reducible refine Below.alloc ?_ ?_ _) | (with_reducible refine Below.wext ?_ ?_ _ _) | (with_reducible refine Below.drew ?_) | (with_reducible refine Below.setCell ?_ ?_ _) | (with_reducible exact Nat.le_refl _) | (simp; omega) | (simp; done)))))⟩
  · exact ⟨w.heap.size + 1 + 1, w.heap.size + 1, w.heap.size, rfl, ⟨row_new _ _ _ _ (by simp) (by simp) (by intro i hi; match i, hi with | 0, _ => rfl | 1, _ => rfl | 2, _ => rfl | 3, _ => rfl), (row_made2 _ _ _ _ (by simp)).alloc _, ((World.rowIs_made w.drew (.bool false) 4 4).alloc _).alloc _, by omega, by omega, by omega⟩, by omega, by omega, by omega, by (exact Ext.of_below (by (repeat' (first | (with_reducible exact Below.refl _ _) | (with_reducible assumption) | (with_reducible refine Below.alloc ?_ ?_ _) | (with_reducible refine Below.wext ?_ ?_ _ _) | (with_reducible refine Below.drew ?_) | (with_reducible refine Below.setCell ?_ ?_ _) | (with_reducible exact Nat.le_refl _) | (simp; omega) | (simp; done)))))⟩

end Go.Proofs.Ytdghgkajjhcbkaa
