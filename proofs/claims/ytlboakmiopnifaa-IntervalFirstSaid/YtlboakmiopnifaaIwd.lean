/- Layer 02: an argument that is a slice of intervals; the law IntervalChecks. -/
import Derived.Test.YtlboakmiopnifaaIwc
import Derived.Test.YtlboakmiopnifaaSop
set_option linter.unusedSimpArgs false
set_option linter.unusedVariables false
namespace Go.Proofs.Ytlboakmiopnifaa
open Go.RowKit

theorem rows_iv : ∀ (rows : List (List Value)), (∀ x ∈ rows, flatOK [some .i64, some .i64] x) → ∃ l : List (Int × Int), l.length = rows.length ∧ rows.flatten = ivF l
  | [], _ => ⟨[], rfl, rfl⟩
  | r :: rows, h => by
    obtain ⟨l, h1, h2⟩ := rows_iv rows (fun x hx => h x (by simp [hx]))
    obtain ⟨a, r1, rfl, _, h3⟩ := flatOK_int (h r (by simp))
    obtain ⟨b, r2, rfl, _, h4⟩ := flatOK_int h3
    obtain rfl := flatOK_nil h4
    exact ⟨(a, b) :: l, by simp [h1], by simp [ivF, h2]⟩
theorem sl_of_in {w : World} {v : Value} {m n : Nat} {xs : List Value} (h : inSl w v m n xs) : isSl w v m n xs := by
  obtain ⟨h1, ao, cap, rfl, h2, h3, h4⟩ := h
  refine ⟨h1, ?_⟩
  rcases Nat.eq_zero_or_pos n with rfl | hn
  · exact .inl ⟨ao, cap, rfl, rfl⟩
  · obtain ⟨b, o, rfl, h5, h6⟩ := h4 hn
    exact .inr ⟨b, o, cap, rfl, h2, h3, h5, h6⟩
/-- The intervals of an argument. -/
theorem iv_arg {rows : List (List Value)} (hr : ∀ x ∈ rows, flatOK [some .i64, some .i64] x) {v : Value} {w : World} (h : inSl w v 2 rows.length rows.flatten) : ∃ l : List (Int × Int), isSl w v 2 l.length (ivF l) := by
  obtain ⟨l, h1, h2⟩ := rows_iv rows hr
  refine ⟨l, ?_⟩
  rw [h1, ← h2]
  exact sl_of_in h
theorem law_checks (rows : List (List Value)) (hr : ∀ x ∈ rows, flatOK [some .i64, some .i64] x) (v : Value) (n : Int) (w : World) (h : inSl w v 2 rows.length rows.flatten) :
    Calls Try.prog 3 #[v, .int .i64 n] w fun e w' => e = .returned (.bool true) ∧ Ext w w' := by
  obtain ⟨l, hl⟩ := iv_arg hr h
  obtain ⟨a, c, rfl⟩ := sl_form hl
  exact checks_ok awake_ok l a c n w hl

end Go.Proofs.Ytlboakmiopnifaa
