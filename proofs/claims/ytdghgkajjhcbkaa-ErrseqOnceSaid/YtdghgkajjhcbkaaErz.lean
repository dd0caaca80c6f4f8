/- Layer 29: the law ErrseqOnce. -/
import Derived.Test.YtdghgkajjhcbkaaErx
import Derived.Test.YtdghgkajjhcbkaaSop
set_option linter.unusedSimpArgs false
set_option linter.unusedVariables false
namespace Go.Proofs.Ytdghgkajjhcbkaa
open Go.RowKit

theorem play_any (l : List (Int × Int)) (ao : Option Addr) (cap : Nat) (w : World) (hl : l.length ≤ 60) (hs : 0 < l.length → ∃ b o, ao = some ⟨b, o, none⟩ ∧ b < w.heap.size ∧ ∀ j, j < l.length * 2 → w.cell? ⟨b, o + j, none⟩ = (opL l)[j]?) :
    Calls Try.prog 19 #[.slice ao l.length cap] w (playPost w) := by
  by_cases h0 : l.length = 0
  · rw [h0]; exact play_nil _ _ w
  · obtain ⟨b, o, rfl, h3, h4⟩ := hs (by omega)
    refine play_some l b o cap w hl h3 fun k hk => ?_
    obtain ⟨g1, g2⟩ := opL_get l k hk
    exact ⟨(h4 (k * 2) (by omega)).trans g1, by rw [Nat.add_assoc, h4 (k * 2 + 1) (by omega)]; exact g2⟩

/-- Rows of two integers are a list of events. -/
theorem rows_op : ∀ (rows : List (List Value)), (∀ x ∈ rows, flatOK [some .i64, some .i64] x) → ∃ l : List (Int × Int), l.length = rows.length ∧ rows.flatten = opL l
  | [], _ => ⟨[], rfl, rfl⟩
  | r :: rows, h => by
    obtain ⟨l, h1, h2⟩ := rows_op rows (fun x hx => h x (by simp [hx]))
    obtain ⟨a, r1, rfl, _, h3⟩ := flatOK_int (h r (by simp))
    obtain ⟨b, r2, rfl, _, h4⟩ := flatOK_int h3
    obtain rfl := flatOK_nil h4
    exact ⟨(a, b) :: l, by simp [h1], by simp [opL, h2]⟩

set_option maxHeartbeats 1000000 in
theorem once_few (l : List (Int × Int)) (ao : Option Addr) (cap : Nat) (w : World) (hl : l.length ≤ 60) (hs : 0 < l.length → ∃ b o, ao = some ⟨b, o, none⟩ ∧ b < w.heap.size ∧ ∀ j, j < l.length * 2 → w.cell? ⟨b, o + j, none⟩ = (opL l)[j]?) :
    Calls Try.prog 6 #[.slice ao l.length cap] w fun e w' => e = .returned (.bool true) ∧ Ext w w' := by
  have HS : Hid _ := hs
  clear hs
  go_enter Try.func6, Try.ntmps6
  go_wp2_with (first | (go_at_call 12; refine (awake_any _).mono ?_; rintro e w1 ⟨rfl, os1, n1, rfl⟩) | (go_at_call 19; refine (play_any l _ _ _ hl HS.out).mono ?_; intro e w1 hpp; obtain ⟨pv, rfl, os1, n1, rfl⟩ := hpp))
  all_goals go_returns
  all_goals exact ⟨rfl, by (exact Ext.of_below (by (repeat' (first | (with_reducible exact Below.refl _ _) | (with_reducible assumption) | (with_reducible refine Below.alloc ?_ ?_ _) | (with_reducible refine Below.wext ?_ ?_ _ _) | (with_reducible refine Below.drew ?_) | (with_reducible refine Below.setCell ?_ ?_ _) | (with_reducible exact Nat.le_refl _) | (simp; omega) | (simp; done)))))⟩

set_option maxHeartbeats 1000000 in
theorem once_many (n : Nat) (ao : Option Addr) (cap : Nat) (w : World) (hl : 60 < n) :
    Calls Try.prog 6 #[.slice ao n cap] w fun e w' => e = .returned (.bool true) ∧ Ext w w' := by
  go_enter Try.func6, Try.ntmps6
  go_wp2_with (first | (go_at_call 12; refine (awake_any _).mono ?_; rintro e w1 ⟨rfl, os1, n1, rfl⟩))
  all_goals go_returns
  all_goals exact ⟨rfl, by (exact Ext.of_below (by (repeat' (first | (with_reducible exact Below.refl _ _) | (with_reducible assumption) | (with_reducible refine Below.alloc ?_ ?_ _) | (with_reducible refine Below.wext ?_ ?_ _ _) | (with_reducible refine Below.drew ?_) | (with_reducible refine Below.setCell ?_ ?_ _) | (with_reducible exact Nat.le_refl _) | (simp; omega) | (simp; done)))))⟩

theorem law_once (rows : List (List Value)) (hrows : ∀ x ∈ rows, flatOK [some .i64, some .i64] x) (v : Value) (w : World) (hs : inSl w v 2 rows.length rows.flatten) :
    Calls Try.prog 6 #[v] w fun e w' => e = .returned (.bool true) ∧ Ext w w' := by
  obtain ⟨l, h1, h2⟩ := rows_op rows hrows
  obtain ⟨hlen, ao, cap, rfl, _, _, h3⟩ := hs
  rw [h2, ← h1] at h3
  rw [← h1]
  by_cases hl : l.length ≤ 60
  · exact once_few l ao cap w hl h3
  · exact once_many _ ao cap w (by omega)

end Go.Proofs.Ytdghgkajjhcbkaa
