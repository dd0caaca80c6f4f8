/- Layer 26: waited, of the code and of the reference. -/
import Derived.Test.YtcbadcbahmclpaaFpl
set_option linter.unusedSimpArgs false
set_option linter.unusedVariables false
namespace Go.Proofs.Ytcbadcbahmclpaa
open Go.RowKit

theorem name_world {P : Program} {c : Code} {Q : Exit → Act → World → Prop} {a : Act} {w : World} (h : ∀ X, X = w → c.wp P Q a X) : c.wp P Q a w := h w rfl

theorem waited4 (b : Nat) (c : FC) (w : World) (h : caseAt w b c) (ht : w.there b 0 17) :
    Calls Try.prog 26 #[.pointer (some ⟨b, 0, none⟩), .int .i64 4] w fun e w' => e = .returned (.tuple #[]) ∧ ∃ os n, w' = wext (w.setCell ⟨b, 6, none⟩ (.bool false)) os n := by
  have z0 : LtD b w.heap.size := h.1
  have k6 : w.cell? ⟨b, 6, none⟩ = some (.bool c.bz) := h.2 6 (by omega)
  have f6 : w.frozen? ⟨b, 6, none⟩ = false := (ht 6 (by omega)).2
  clear h ht
  go_enter Try.func26, Try.ntmps26
  go_wp2
  all_goals refine bodyPost_end (results_none rfl _ _ _) rfl ?_
  all_goals exact ⟨rfl, Ext.refl _⟩

theorem waited5 (b : Nat) (c : FC) (w : World) (h : caseAt w b c) (ht : w.there b 0 17) :
    Calls Try.prog 26 #[.pointer (some ⟨b, 0, none⟩), .int .i64 5] w fun e w' => e = .returned (.tuple #[]) ∧ ∃ os n, w' = wext (w.setCell ⟨b, 15, none⟩ (.bool false)) os n := by
  have z0 : LtD b w.heap.size := h.1
  have k6 : w.cell? ⟨b, 15, none⟩ = some (.bool c.fu) := h.2 15 (by omega)
  have f6 : w.frozen? ⟨b, 15, none⟩ = false := (ht 15 (by omega)).2
  clear h ht
  go_enter Try.func26, Try.ntmps26
  go_wp2
  all_goals refine bodyPost_end (results_none rfl _ _ _) rfl ?_
  all_goals exact ⟨rfl, Ext.refl _⟩

theorem waited3a (b : Nat) (c : FC) (w : World) (h : caseAt w b c) (ht : w.there b 0 17) (he : c.en = 3) :
    Calls Try.prog 26 #[.pointer (some ⟨b, 0, none⟩), .int .i64 3] w fun e w' => e = .returned (.tuple #[]) ∧ ∃ os n, w' = wext ((w.setCell ⟨b, 9, none⟩ (.bool false)).setCell ⟨b, 7, none⟩ (.int .i64 1)) os n := by
  have z0 : LtD b w.heap.size := h.1
  have k6 : w.cell? ⟨b, 9, none⟩ = some (.bool c.tr) := h.2 9 (by omega)
  have f6 : w.frozen? ⟨b, 9, none⟩ = false := (ht 9 (by omega)).2
  have k7 : w.cell? ⟨b, 7, none⟩ = some (.int .i64 c.en) := h.2 7 (by omega)
  have f7 : w.frozen? ⟨b, 7, none⟩ = false := (ht 7 (by omega)).2
  clear h ht
  go_enter Try.func26, Try.ntmps26
  go_wp2
  all_goals refine bodyPost_end (results_none rfl _ _ _) rfl ?_
  all_goals exact ⟨rfl, Ext.refl _⟩

theorem waited3b (b : Nat) (c : FC) (w : World) (h : caseAt w b c) (ht : w.there b 0 17) (he : ¬ c.en = 3) :
    Calls Try.prog 26 #[.pointer (some ⟨b, 0, none⟩), .int .i64 3] w fun e w' => e = .returned (.tuple #[]) ∧ ∃ os n, w' = wext (w.setCell ⟨b, 9, none⟩ (.bool false)) os n := by
  have z0 : LtD b w.heap.size := h.1
  have k6 : w.cell? ⟨b, 9, none⟩ = some (.bool c.tr) := h.2 9 (by omega)
  have f6 : w.frozen? ⟨b, 9, none⟩ = false := (ht 9 (by omega)).2
  have k7 : w.cell? ⟨b, 7, none⟩ = some (.int .i64 c.en) := h.2 7 (by omega)
  have f7 : w.frozen? ⟨b, 7, none⟩ = false := (ht 7 (by omega)).2
  clear h ht
  go_enter Try.func26, Try.ntmps26
  go_wp2
  all_goals refine bodyPost_end (results_none rfl _ _ _) rfl ?_
  all_goals exact ⟨rfl, Ext.refl _⟩

theorem rwaited4 (b : Nat) (c : FC) (w : World) (h : caseAt w b c) (ht : w.there b 0 17) :
    Calls Try.prog 27 #[.pointer (some ⟨b, 0, none⟩), .int .i64 4] w fun e w' => e = .returned (.tuple #[]) ∧ ∃ os n, w' = wext (w.setCell ⟨b, 6, none⟩ (.bool false)) os n := by
  have z0 : LtD b w.heap.size := h.1
  have k6 : w.cell? ⟨b, 6, none⟩ = some (.bool c.bz) := h.2 6 (by omega)
  have f6 : w.frozen? ⟨b, 6, none⟩ = false := (ht 6 (by omega)).2
  clear h ht
  go_enter Try.func27, Try.ntmps27
  go_wp2
  all_goals refine bodyPost_end (results_none rfl _ _ _) rfl ?_
  all_goals exact ⟨rfl, Ext.refl _⟩

theorem rwaited5 (b : Nat) (c : FC) (w : World) (h : caseAt w b c) (ht : w.there b 0 17) :
    Calls Try.prog 27 #[.pointer (some ⟨b, 0, none⟩), .int .i64 5] w fun e w' => e = .returned (.tuple #[]) ∧ ∃ os n, w' = wext (w.setCell ⟨b, 15, none⟩ (.bool false)) os n := by
  have z0 : LtD b w.heap.size := h.1
  have k6 : w.cell? ⟨b, 15, none⟩ = some (.bool c.fu) := h.2 15 (by omega)
  have f6 : w.frozen? ⟨b, 15, none⟩ = false := (ht 15 (by omega)).2
  clear h ht
  go_enter Try.func27, Try.ntmps27
  go_wp2
  all_goals refine bodyPost_end (results_none rfl _ _ _) rfl ?_
  all_goals exact ⟨rfl, Ext.refl _⟩

theorem rwaited3a (b : Nat) (c : FC) (w : World) (h : caseAt w b c) (ht : w.there b 0 17) (he : c.en = 3) :
    Calls Try.prog 27 #[.pointer (some ⟨b, 0, none⟩), .int .i64 3] w fun e w' => e = .returned (.tuple #[]) ∧ ∃ os n, w' = wext ((w.setCell ⟨b, 9, none⟩ (.bool false)).setCell ⟨b, 7, none⟩ (.int .i64 1)) os n := by
  have z0 : LtD b w.heap.size := h.1
  have k6 : w.cell? ⟨b, 9, none⟩ = some (.bool c.tr) := h.2 9 (by omega)
  have f6 : w.frozen? ⟨b, 9, none⟩ = false := (ht 9 (by omega)).2
  have k7 : w.cell? ⟨b, 7, none⟩ = some (.int .i64 c.en) := h.2 7 (by omega)
  have f7 : w.frozen? ⟨b, 7, none⟩ = false := (ht 7 (by omega)).2
  clear h ht
  go_enter Try.func27, Try.ntmps27
  go_wp2
  all_goals refine bodyPost_end (results_none rfl _ _ _) rfl ?_
  all_goals exact ⟨rfl, Ext.refl _⟩

theorem rwaited3b (b : Nat) (c : FC) (w : World) (h : caseAt w b c) (ht : w.there b 0 17) (he : ¬ c.en = 3) :
    Calls Try.prog 27 #[.pointer (some ⟨b, 0, none⟩), .int .i64 3] w fun e w' => e = .returned (.tuple #[]) ∧ ∃ os n, w' = wext (w.setCell ⟨b, 9, none⟩ (.bool false)) os n := by
  have z0 : LtD b w.heap.size := h.1
  have k6 : w.cell? ⟨b, 9, none⟩ = some (.bool c.tr) := h.2 9 (by omega)
  have f6 : w.frozen? ⟨b, 9, none⟩ = false := (ht 9 (by omega)).2
  have k7 : w.cell? ⟨b, 7, none⟩ = some (.int .i64 c.en) := h.2 7 (by omega)
  have f7 : w.frozen? ⟨b, 7, none⟩ = false := (ht 7 (by omega)).2
  clear h ht
  go_enter Try.func27, Try.ntmps27
  go_wp2
  all_goals refine bodyPost_end (results_none rfl _ _ _) rfl ?_
  all_goals exact ⟨rfl, Ext.refl _⟩

end Go.Proofs.Ytcbadcbahmclpaa
