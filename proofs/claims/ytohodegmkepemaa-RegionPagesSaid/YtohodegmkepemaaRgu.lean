/- Layer 22: the law RegionCuts. -/
import Derived.Test.YtohodegmkepemaaRgm
import Derived.Test.YtohodegmkepemaaRgs
set_option linter.unusedSimpArgs false
set_option linter.unusedVariables false
namespace Go.Proofs.Ytohodegmkepemaa
open Go.RowKit

def cutG (s p r f i x : Int) (q c : Int) : List Rg := if cutE s p r f i x q c = 0 then (if s + p ≤ q ∨ q + c ≤ s then [⟨s, p, r, f, i, x⟩] else (if s < q then [⟨s, q - s, r, f, i, x⟩] else []) ++ (if q + c < s + p then [⟨q + c, p - (q + c - s), r, clr2 f, i, splX i x (q + c - s)⟩] else [])) else []
theorem rgL_map : ∀ (l : List Rg), (l.map Rg.cells).flatten = rgL l
  | [] => rfl
  | a :: l => by simp only [List.map_cons, List.flatten_cons, rgL, rgL_map l]
theorem cutL_G (s p r f i x : Int) (q c : Int) : cutL s p r f i x q c = (cutG s p r f i x q c).map Rg.cells := by
  unfold cutL cutG
  (repeat' split) <;> rfl
/-- Cut's contract, said of a list of regions. -/
def cutPost2 (s p r f i x : Int) (q c : Int) (w : World) (e : Ending) (w' : World) : Prop := ∃ a cap, e = .returned (.tuple #[.slice a (cutG s p r f i x q c).length cap, .int .i64 (cutE s p r f i x q c)]) ∧ isSl w' (.slice a (cutG s p r f i x q c).length cap) 6 (cutG s p r f i x q c).length (rgL (cutG s p r f i x q c)) ∧ Ext w w'
theorem cutPost_to {s p r f i x q c : Int} {w w' : World} {e : Ending} (h : cutPost s p r f i x q c w e w') : cutPost2 s p r f i x q c w e w' := by
  obtain ⟨v, he, hs, hE⟩ := h
  rw [cutL_G, List.length_map, rgL_map] at hs
  obtain ⟨a, cap, rfl⟩ := hs.form
  exact ⟨a, cap, he, hs, hE⟩
theorem cut_any (s p r f i x : Int) (q c : Int) (w : World) :
    Calls Try.prog 20 #[.agg #[.int .i64 s, .int .i64 p, .int .i64 r, .int .i64 f, .int .i64 i, .int .i64 x], .int .i64 q, .int .i64 c] w (cutPost2 s p r f i x q c w) := (cu_any s p r f i x q c w).mono fun _ _ h => cutPost_to h
theorem rcut_any (s p r f i x : Int) (q c : Int) (w : World) :
    Calls Try.prog 21 #[.agg #[.int .i64 s, .int .i64 p, .int .i64 r, .int .i64 f, .int .i64 i, .int .i64 x], .int .i64 q, .int .i64 c] w (cutPost2 s p r f i x q c w) := (rcu_any s p r f i x q c w).mono fun _ _ h => cutPost_to h

set_option maxHeartbeats 2000000 in
theorem law_cuts (s p r f i x : Int) (q c : Int)  (w : World) :
    Calls Try.prog 6 #[.agg #[.int .i64 s, .int .i64 p, .int .i64 r, .int .i64 f, .int .i64 i, .int .i64 x], .int .i64 q, .int .i64 c] w fun e w' => e = .returned (.bool true) ∧ Ext w w' := by
  go_enter Try.func6, Try.ntmps6
  go_upto_region 9999 with (first | (go_at_call 20; refine (cut_any _ _ _ _ _ _ _ _ _).mono ?_; intro e w1 hcp; obtain ⟨aA, cA, rfl, hsa, os1, n1, rfl⟩ := hcp) | (go_at_call 21; refine (rcut_any _ _ _ _ _ _ _ _ _).mono ?_; intro e w1 hcp; obtain ⟨aB, cB, rfl, hsb, os1, n1, rfl⟩ := hcp) | (go_at_call 22; refine (same_any (cutG s p r f i x q c) _ _ _ _ _ (hsa.ext (by (exact Ext.of_below (by (repeat' (first | (with_reducible exact Below.refl _ _) | (with_reducible assumption) | (with_reducible refine Below.alloc ?_ ?_ _) | (with_reducible refine Below.wext ?_ ?_ _ _) | (with_reducible refine Below.drew ?_) | (with_reducible refine Below.setCell ?_ ?_ _) | (with_reducible exact Nat.le_refl _) | (simp; omega) | (simp; done))))))) (hsb.ext (by (exact Ext.of_below (by (repeat' (first | (with_reducible exact Below.refl _ _) | (with_reducible assumption) | (with_reducible refine Below.alloc ?_ ?_ _) | (with_reducible refine Below.wext ?_ ?_ _ _) | (with_reducible refine Below.drew ?_) | (with_reducible refine Below.setCell ?_ ?_ _) | (with_reducible exact Nat.le_refl _) | (simp; omega) | (simp; done)))))))).mono ?_; rintro e w1 ⟨rfl, os1, n1, rfl⟩) | ((with_reducible (apply wp_cond_split)); rfl; (all_goals intro hcd); (all_goals (first | (exfalso; exact Bool.noConfusion hcd) | ((try simp only [hcd]); (try (have hcf := hcd; simp only [Bool.and_eq_true, Bool.or_eq_true, Bool.and_eq_false_iff, Bool.or_eq_false_iff, Bool.not_eq_true', Bool.not_eq_false', Bool.not_eq_eq_eq_not, Bool.not_true, Bool.not_false, decide_eq_true_eq, decide_eq_false_iff_not, bne_iff_ne, beq_iff_eq, beq_eq_false_iff_ne, bne_eq_false_iff_eq, ne_eq, int_eq_le, Int.not_lt, Int.not_le] at hcf)); go_prune)))) | (go_at_call 13; refine (awake_any _).mono ?_; rintro e w1 ⟨rfl, os1, n1, rfl⟩))
  all_goals go_returns
  all_goals exact ⟨rfl, by (exact Ext.of_below (by (repeat' (first | (with_reducible exact Below.refl _ _) | (with_reducible assumption) | (with_reducible refine Below.alloc ?_ ?_ _) | (with_reducible refine Below.wext ?_ ?_ _ _) | (with_reducible refine Below.drew ?_) | (with_reducible refine Below.setCell ?_ ?_ _) | (with_reducible exact Nat.le_refl _) | (simp; omega) | (simp; done)))))⟩

end Go.Proofs.Ytohodegmkepemaa
