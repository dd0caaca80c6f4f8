/- Lists of regions in memory; the reference's Same. -/
import Derived.Test.YtohodegmkepemaaSl
set_option linter.unusedSimpArgs false
set_option linter.unusedVariables false
namespace Go.Proofs.Ytohodegmkepemaa
open Go.RowKit

/-- A region's six numbers. -/
structure Rg where
  s : Int
  p : Int
  r : Int
  f : Int
  i : Int
  x : Int
def Rg.cells (a : Rg) : List Value := [.int .i64 a.s, .int .i64 a.p, .int .i64 a.r, .int .i64 a.f, .int .i64 a.i, .int .i64 a.x]
def rgL : List Rg → List Value
  | [] => []
  | a :: l => a.cells ++ rgL l
theorem rgL_length : ∀ (l : List Rg), (rgL l).length = l.length * 6
  | [] => rfl
  | a :: l => by simp only [rgL, List.length_append, rgL_length l, List.length_cons, Rg.cells, List.length_nil]; omega
theorem rgL_get : ∀ (l : List Rg) (k : Nat) (hk : k < l.length) (j : Nat), j < 6 → (rgL l)[k * 6 + j]? = (l[k]).cells[j]?
  | a :: l, 0, _, j, hj => by
    simp only [rgL, Nat.zero_mul, Nat.zero_add, List.getElem_cons_zero]
    rw [List.getElem?_append_left (by simp [Rg.cells]; omega)]
  | a :: l, k + 1, hk, j, hj => by
    simp only [rgL, List.getElem_cons_succ]
    rw [List.getElem?_append_right (by simp [Rg.cells]; omega)]
    have : (k + 1) * 6 + j - a.cells.length = k * 6 + j := by simp [Rg.cells]; omega
    rw [this]
    exact rgL_get l k (by simpa using hk) j hj

theorem isSl.form {w : World} {v : Value} {m n : Nat} {xs : List Value} (h : isSl w v m n xs) : ∃ a cap, v = .slice a n cap := by
  obtain ⟨_, h2⟩ := h
  rcases h2 with ⟨rfl, rfl⟩ | ⟨b, o, cap, rfl, _⟩
  · exact ⟨_, _, rfl⟩
  · exact ⟨_, _, rfl⟩

/-- The six cells of element k of a list of regions. -/
theorem rg_cells {w : World} {b o : Nat} {l : List Rg} (h : ∀ j, j < l.length * 6 → w.cell? ⟨b, o + j, none⟩ = (rgL l)[j]?) (k : Nat) (hk : k < l.length) :
    w.cell? ⟨b, o + k * 6, none⟩ = some (.int .i64 (l[k]).s) ∧ w.cell? ⟨b, o + k * 6 + 1, none⟩ = some (.int .i64 (l[k]).p) ∧ w.cell? ⟨b, o + k * 6 + 2, none⟩ = some (.int .i64 (l[k]).r) ∧
    w.cell? ⟨b, o + k * 6 + 3, none⟩ = some (.int .i64 (l[k]).f) ∧ w.cell? ⟨b, o + k * 6 + 4, none⟩ = some (.int .i64 (l[k]).i) ∧ w.cell? ⟨b, o + k * 6 + 5, none⟩ = some (.int .i64 (l[k]).x) := by
  have g : ∀ j, j < 6 → w.cell? ⟨b, o + k * 6 + j, none⟩ = (l[k]).cells[j]? := fun j hj => by
    rw [Nat.add_assoc, h (k * 6 + j) (by omega), rgL_get l k hk j hj]
  exact ⟨g 0 (by omega), g 1 (by omega), g 2 (by omega), g 3 (by omega), g 4 (by omega), g 5 (by omega)⟩

set_option maxHeartbeats 1000000 in
theorem same_nil (a b : Option Addr) (ca cb : Nat) (w : World) :
    Calls Try.prog 22 #[.slice a 0 ca, .slice b 0 cb] w fun e w' => e = .returned (.bool true) ∧ Ext w w' := by
  go_enter Try.func22, Try.ntmps22
  go_wp2_with fail
  refine wp_loop_rounds 1 ?_
  rw [rounds_succ]
  go_wp2_with fail
  all_goals go_ret
  all_goals exact ⟨rfl, by (exact Ext.of_below (by (repeat' (first | (with_reducible exact Below.refl _ _) | (with_reducible assumption) | (with_reducible refine Below.alloc ?_ ?_ _) | (with_reducible refine Below.wext ?_ ?_ _ _) | (with_reducible refine Below.drew ?_) | (with_reducible refine Below.setCell ?_ ?_ _) | (with_reducible exact Nat.le_refl _) | (simp; omega) | (simp; done)))))⟩

set_option maxHeartbeats 1000000 in
theorem same_some (l : List Rg) (ba oa ca bb ob cb : Nat) (w : World) (hl : l.length ≤ maxLen) (ha : ∀ j, j < l.length * 6 → w.cell? ⟨ba, oa + j, none⟩ = (rgL l)[j]?) (hb : ∀ j, j < l.length * 6 → w.cell? ⟨bb, ob + j, none⟩ = (rgL l)[j]?) :
    Calls Try.prog 22 #[.slice (some ⟨ba, oa, none⟩) l.length ca, .slice (some ⟨bb, ob, none⟩) l.length cb] w fun e w' => e = .returned (.bool true) ∧ Ext w w' := by
  have HA : Hid _ := ha
  have HB : Hid _ := hb
  unfold maxLen at hl
  clear ha hb
  go_enter Try.func22, Try.ntmps22
  go_wp2_with fail
  go_loopw [5] (fun v wr => ∃ k : Nat, v = .int .i64 k ∧ k ≤ l.length ∧ ∃ n, wr = w.drewN n) (fun v _ => l.length - (intOf v).toNat)
  case atStart => exact ⟨0, rfl, by omega, 0, rfl⟩
  case round =>
    obtain ⟨k, rfl, hk, n, rfl⟩ := hrel
    by_cases hlt : k < l.length
    · obtain ⟨a0, a1, a2, a3, a4, a5⟩ := rg_cells HA.out k hlt
      obtain ⟨b0, b1, b2, b3, b4, b5⟩ := rg_cells HB.out k hlt
      go_upto_region 9999 with (first | ((with_reducible (apply wp_cond_split)); rfl; (all_goals intro hcd); (all_goals (first | (exfalso; exact Bool.noConfusion hcd) | ((try simp only [hcd]); (try (have hcf := hcd; simp only [Bool.and_eq_true, Bool.or_eq_true, Bool.and_eq_false_iff, Bool.or_eq_false_iff, Bool.not_eq_true', Bool.not_eq_false', Bool.not_eq_eq_eq_not, Bool.not_true, Bool.not_false, decide_eq_true_eq, decide_eq_false_iff_not, bne_iff_ne, beq_iff_eq, beq_eq_false_iff_ne, bne_eq_false_iff_eq, ne_eq, int_eq_le, Int.not_lt, Int.not_le] at hcf)); go_prune)))) | ((fail_if_success go_not_at_region 6); ((with_reducible refine wp_region_quiet_lit ?_ ?_ ?_); kernel_rfl; kernel_rfl; (first | go_big_quiet_step (fail) | quiet_step (fail)); (first | go_big_quiet_step (fail) | quiet_step (fail)); (first | go_big_quiet_step (fail) | quiet_step (fail)); (first | go_big_quiet_step (fail) | quiet_step (fail)); (first | go_big_quiet_step (fail) | quiet_step (fail)); (first | go_big_quiet_step (fail) | quiet_step (fail)); (first | go_big_quiet_step (fail) | quiet_step (fail)); (first | go_big_quiet_step (fail) | quiet_step (fail)); (first | go_big_quiet_step (fail) | quiet_step (fail)); (with_reducible refine wpQuiet_nil ?_); intro wq hwq; obtain ⟨nq, hwq2⟩ := hwq; subst hwq2)))
      go_goals
      go_roundw
      case rel => exact ⟨k + 1, by go_num, by omega, _, rfl⟩
      case measure => simp [intOf]; omega
    · go_wp2_with fail
      go_ret
      exact ⟨rfl, Ext.of_below ⟨rfl, rfl, rfl, Nat.le_refl _, fun _ _ => rfl⟩⟩

theorem same_any (l : List Rg) (a b : Option Addr) (ca cb : Nat) (w : World) (ha : isSl w (.slice a l.length ca) 6 l.length (rgL l)) (hb : isSl w (.slice b l.length cb) 6 l.length (rgL l)) :
    Calls Try.prog 22 #[.slice a l.length ca, .slice b l.length cb] w fun e w' => e = .returned (.bool true) ∧ Ext w w' := by
  by_cases hl : l.length = 0
  · rw [hl]; exact same_nil a b ca cb w
  · obtain ⟨ba, oa, ca', e1, h1, h2, h3, h4⟩ := ha.cell (by omega)
    obtain ⟨bb, ob, cb', e2, g1, g2, g3, g4⟩ := hb.cell (by omega)
    cases e1
    cases e2
    exact same_some l ba oa ca bb ob cb w (by omega) h4 g4
end Go.Proofs.Ytohodegmkepemaa
