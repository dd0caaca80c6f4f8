/- slices.Insert at a row of regions: the contract. -/
import Derived.Test.YtohpbfcechbngaaNd
set_option linter.unusedSimpArgs false
set_option linter.unusedVariables false
namespace Go.Proofs.Ytohpbfcechbngaa
open Go.RowKit Go.Lib

theorem ins_anyI (w : World) (p : Option Addr) (n c i vb vc : Nat) (cs vs vsp : List Value) (T' : TypeId) (hn : n ≤ 90000) (hi : i ≤ n) (hown : w.ownsRow 0 3 1 (.slice p n c) n cs) (hvl : vs.length = 1)
    (hv : w.heap[vb]? = some (.cells (vs ++ vsp).toArray T' (0, 0))) (hne : (Value.slice p n c).ownBlock ≠ some vb) (h1c : ∀ v ∈ cs, v.oneCell' = true) (h1v : ∀ v ∈ vs, v.oneCell' = true) :
    Calls Try.prog 18 #[.slice p n c, .int .i64 i, .slice (some ⟨vb, 0, none⟩) 1 vc] w (InsPostI w (.slice p n c) n (cs.take (i * 1) ++ (vs ++ cs.drop (i * 1)))) := by
  have hcl := hown.1
  by_cases hin : i = n
  · subst hin
    have hnc : i ≤ c := by
      rcases hown.2 with ⟨h1, h2⟩ | ⟨g, cap, cur, h1, _, _, h4, _⟩
      · cases h1; exact Nat.le_refl _
      · cases h1; exact h4
    rw [List.take_of_length_le (by rw [hcl]; omega), List.drop_eq_nil_of_le (by rw [hcl]; omega), List.append_nil]
    exact ins_endI w p i c vb vc cs vs vsp T' hn hnc hown hvl hv h1v
  · rcases hown.2 with ⟨h1, h2⟩ | ⟨g, cap, cur, h1, _, h3, h4, h5, h6, h7⟩
    · omega
    · cases h1
      have hg : w.heap[g]? = some (.cells (cs ++ cur.toList.drop (n * 1)).toArray 3 (0, 0)) := by
        rw [← h7, List.take_append_drop]; exact h3
      have hgv : vb ≠ g := fun e => hne (by rw [e]; rfl)
      by_cases hr : n + 1 ≤ c
      · have hll : (cs ++ cur.toList.drop (n * 1)).length = c * 1 := by rw [← h7, List.take_append_drop]; simpa using h6
        refine (ins_shiftI w g n c i vb vc cs _ vs vsp _ T' (by omega) hr hn hcl hvl hll hg hv hgv h1c h1v).mono ?_
        rintro e w' ⟨rfl, rfl⟩
        have hsl : (cur.toList.drop (n * 1)).length = c * 1 - n * 1 := by rw [List.length_drop]; simp [h6]
        have hxl : (cs.take (i * 1) ++ (vs ++ cs.drop (i * 1))).length = (n + 1) * 1 := by
          have := Nat.mul_le_mul_right 1 hi
          simp only [List.length_append, List.length_take, List.length_drop, hcl, hvl]
          omega
        refine ⟨_, rfl, ⟨hxl, .inr ⟨g, c, _, rfl, Nat.zero_le _, setRow_heap w.drew g _ _ _ (0, 0) hg, hr, h5, ?_, ?_⟩⟩, ⟨rfl, rfl, rfl, ?_, fun k hk hk2 => ?_⟩, .inl rfl⟩
        · have := Nat.mul_le_mul_right 1 hr
          simp only [List.size_toArray]
          rw [← List.append_assoc, ← List.append_assoc, List.length_append, List.append_assoc, hxl, List.length_drop, hsl]
          omega
        · simp only [List.toList_toArray]
          rw [show cs.take (i * 1) ++ (vs ++ (cs.drop (i * 1) ++ (cur.toList.drop (n * 1)).drop 1)) = (cs.take (i * 1) ++ (vs ++ cs.drop (i * 1))) ++ (cur.toList.drop (n * 1)).drop 1 by simp only [List.append_assoc], ← hxl, List.take_left]
        · show w.heap.size ≤ (w.drew.setRow g _).heap.size
          show w.heap.size ≤ (w.heap.modify g _).size
          rw [Array.size_modify]
          exact Nat.le_refl _
        · rw [setRow_other w.drew g k _ (fun e => hk2 (by rw [e]; rfl))]
          rfl
      · refine (ins_growI w g n c i vb vc cs _ vs vsp T' (by omega) h4 (by omega) hn hcl hvl hg hv h1c h1v).mono ?_
        rintro e w' ⟨G, rest, rfl, k1, k2, k3, k4, k5⟩
        have hxl : (cs.take (i * 1) ++ (vs ++ cs.drop (i * 1))).length = (n + 1) * 1 := by
          have := Nat.mul_le_mul_right 1 hi
          simp only [List.length_append, List.length_take, List.length_drop, hcl, hvl]
          omega
        have he : cs.take (i * 1) ++ (vs ++ (cs.drop (i * 1) ++ rest)) = (cs.take (i * 1) ++ (vs ++ cs.drop (i * 1))) ++ rest := by simp only [List.append_assoc]
        rw [he] at k3
        refine ⟨_, rfl, ⟨hxl, .inr ⟨_, G, _, rfl, Nat.zero_le _, k3, k1, k2, ?_, ?_⟩⟩, ⟨k5.os, k5.tape, k5.output, k5.size, fun k hk _ => k5.block k hk (fun e => by cases e)⟩, .inr rfl⟩
        · have := Nat.mul_le_mul_right 1 k1
          simp only [List.size_toArray]
          rw [List.length_append, hxl, k4, Nat.sub_mul]
          omega
        · simp only [List.toList_toArray]
          rw [← hxl, List.take_left]
end Go.Proofs.Ytohpbfcechbngaa
