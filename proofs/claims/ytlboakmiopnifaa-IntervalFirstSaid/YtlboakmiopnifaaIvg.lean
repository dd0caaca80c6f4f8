/- Layer 02: Contains of the code: its closure, the search. -/
import Derived.Test.YtlboakmiopnifaaIve
import Derived.Test.YtlboakmiopnifaaIvf
import Derived.Laws.EntriesVeiled
set_option linter.unusedSimpArgs false
set_option linter.unusedVariables false
namespace Go.Proofs.Ytlboakmiopnifaa
open Go.RowKit

set_option maxHeartbeats 4000000 in
theorem cont1_any (l : List (Int × Int)) (v : Value) (m : Int) (bs bn i : Nat) (w : World) (hi : i < l.length) (hs : isSl w v 2 l.length (ivF l)) (k1 : w.cell? ⟨bs, 0, none⟩ = some v) (k2 : w.cell? ⟨bn, 0, none⟩ = some (.int .i64 m)) :
    Calls Try.prog 38 #[.int .i64 i, .pointer (some ⟨bs, 0, none⟩), .pointer (some ⟨bn, 0, none⟩)] w fun e w' => e = .returned (.bool (decide (m < (l[i]).2))) ∧ Ext w w' := by
  obtain ⟨b, o, cap, rfl, h1, h2, h3, h4⟩ := hs.cell (by omega)
  obtain ⟨a0, a1⟩ := iv_cells h4 i hi
  have hl : l.length ≤ maxLen := by omega
  unfold maxLen at hl
  clear hs h4 h1 h2
  go_enter Try.func38, Try.ntmps38
  go_upto_region 9999 with (first | ((with_reducible (apply wp_cond_split)); rfl; (all_goals intro hcd); (all_goals (first | (exfalso; exact Bool.noConfusion hcd) | ((try simp only [hcd]); go_prune)))) | ((fail_if_success go_not_at_region 1); ((with_reducible refine wp_region_quiet_lit ?_ ?_ ?_); kernel_rfl; kernel_rfl; (first | go_big_quiet_step (fail) | quiet_step (fail)); (first | go_big_quiet_step (fail) | quiet_step (fail)); (first | go_big_quiet_step (fail) | quiet_step (fail)); (first | go_big_quiet_step (fail) | quiet_step (fail)); (first | go_big_quiet_step (fail) | quiet_step (fail)); (first | go_big_quiet_step (fail) | quiet_step (fail)); (first | go_big_quiet_step (fail) | quiet_step (fail)); (first | go_big_quiet_step (fail) | quiet_step (fail)); (with_reducible refine wpQuiet_nil ?_); intro wq hwq; obtain ⟨nq, hwq2⟩ := hwq; subst hwq2)))
  all_goals go_ret
  all_goals refine ⟨ret_b ?_, by (exact Ext.of_below (by (repeat' (first | (with_reducible exact Below.refl _ _) | (with_reducible assumption) | (with_reducible refine Below.alloc ?_ ?_ _) | (with_reducible refine Below.wext ?_ ?_ _ _) | (with_reducible refine Below.drew ?_) | (with_reducible refine Below.setCell ?_ ?_ _) | (with_reducible exact Nat.le_refl _) | (with_reducible refine Below.drewN' ?_ _) | (simp; omega) | (simp; done)))))⟩
  all_goals simp

theorem cell_ext {w w' : World} {b i : Nat} {v : Value} (h : w.cell? ⟨b, i, none⟩ = some v) (hE : Ext w w') : w'.cell? ⟨b, i, none⟩ = some v :=
  (hE.below.cell (p := ⟨b, i, none⟩) (World.block_lt_of_cell? w _ h)).trans h
theorem mid_eq (i j : Nat) (hi : i ≤ j) (hj : j ≤ 9223372036854775807) : wrap64 (IntKind.u64.wrap (wrap64 ((i : Int) + (j : Int))) / 2) = (((i + j) / 2 : Nat) : Int) := by
  rw [IntKind.wrap_u64]
  unfold wrap64
  omega
theorem Okay.le {l : List (Int × Int)} (h : Okay l) {i j : Nat} (hj : j < l.length) (hij : i ≤ j) : (l[i]'(by omega)).2 ≤ (l[j]).2 := by
  rcases Nat.lt_or_ge i j with e | e
  · have := h.asc j i hj e
    have := h.one j hj
    omega
  · obtain rfl : i = j := by omega
    omega

set_option maxHeartbeats 8000000 in
/-- The search: at the place that it finds all ahead end at or ahead of m, and that one does not. -/
theorem search_any (l : List (Int × Int)) (v : Value) (m : Int) (bs bn : Nat) (w : World) (ho : Okay l) (hs : isSl w v 2 l.length (ivF l)) (k1 : w.cell? ⟨bs, 0, none⟩ = some v) (k2 : w.cell? ⟨bn, 0, none⟩ = some (.int .i64 m)) (hl : l.length ≤ maxLen) :
    Calls Try.prog 37 #[.int .i64 l.length, .func (.func 38) #[] #[.pointer (some ⟨bs, 0, none⟩), .pointer (some ⟨bn, 0, none⟩)]] w fun e w' => e = .returned (.int .i64 (findI l m)) ∧ Ext w w' := by
  have HS : Hid (isSl w v 2 l.length (ivF l)) := hs
  have HO : Hid (Okay l) := ho
  have K1 : Hid (w.cell? ⟨bs, 0, none⟩ = some v) := k1
  have K2 : Hid (w.cell? ⟨bn, 0, none⟩ = some (.int .i64 m)) := k2
  unfold maxLen at hl
  clear hs ho k1 k2
  go_enter Try.func37, Try.ntmps37
  go_wp2_with fail
  go_loopw [5, 6] (fun v5 v6 wr => ∃ i j : Nat, v5 = .int .i64 i ∧ v6 = .int .i64 j ∧ i ≤ j ∧ j ≤ l.length ∧ (∀ (t : Nat) (h : t < l.length), t < i → (l[t]).2 ≤ m) ∧ (∀ (t : Nat) (h : t < l.length), j ≤ t → m < (l[t]).2) ∧ ∃ os n, wr = wext w os n) (fun v5 v6 _ => (intOf v6 - intOf v5).toNat)
  case atStart => exact ⟨0, l.length, rfl, rfl, by omega, by omega, fun t h ht => by omega, fun t h ht => by omega, Ext.refl _⟩
  case round =>
    obtain ⟨i, j, rfl, rfl, hij, hj, hA, hB, os0, n0, rfl⟩ := hrel
    have HA : Hid (∀ (t : Nat) (h : t < l.length), t < i → (l[t]).2 ≤ m) := hA
    have HB : Hid (∀ (t : Nat) (h : t < l.length), j ≤ t → m < (l[t]).2) := hB
    clear hA hB
    by_cases hlt : i < j
    · have hme := mid_eq i j hij (by omega)
      have hh : (i + j) / 2 < l.length := by omega
      generalize hg : (i + j) / 2 = h at hme hh
      have HH : Hid (i ≤ h ∧ h < j) := ⟨by omega, by omega⟩
      by_cases hm : m < (l[h]).2
      · have HM : Hid (m < (l[h]).2) := hm
        have hd : decide (m < (l[h]).2) = true := by simpa using hm
        clear hm
        go_wp2_with (first | (go_at_call 38; (try rw [hme]); refine (cont1_any l v m bs bn h _ hh (HS.out.ext (by (exact Ext.of_below (by (repeat' (first | (with_reducible exact Below.refl _ _) | (with_reducible assumption) | (with_reducible refine Below.alloc ?_ ?_ _) | (with_reducible refine Below.wext ?_ ?_ _ _) | (with_reducible refine Below.drew ?_) | (with_reducible refine Below.setCell ?_ ?_ _) | (with_reducible exact Nat.le_refl _) | (with_reducible refine Below.drewN' ?_ _) | (simp; omega) | (simp; done))))))) (cell_ext K1.out (by (exact Ext.of_below (by (repeat' (first | (with_reducible exact Below.refl _ _) | (with_reducible assumption) | (with_reducible refine Below.alloc ?_ ?_ _) | (with_reducible refine Below.wext ?_ ?_ _ _) | (with_reducible refine Below.drew ?_) | (with_reducible refine Below.setCell ?_ ?_ _) | (with_reducible exact Nat.le_refl _) | (with_reducible refine Below.drewN' ?_ _) | (simp; omega) | (simp; done))))))) (cell_ext K2.out (by (exact Ext.of_below (by (repeat' (first | (with_reducible exact Below.refl _ _) | (with_reducible assumption) | (with_reducible refine Below.alloc ?_ ?_ _) | (with_reducible refine Below.wext ?_ ?_ _ _) | (with_reducible refine Below.drew ?_) | (with_reducible refine Below.setCell ?_ ?_ _) | (with_reducible exact Nat.le_refl _) | (with_reducible refine Below.drewN' ?_ _) | (simp; omega) | (simp; done)))))))).mono ?_; rw [hd]; rintro e w1 ⟨rfl, os1, n1, rfl⟩))
        go_roundw
        case rel => exact ⟨i, h, by go_num, by first | go_num | (rw [hme]), HH.out.1, by have := HH.out.2; omega, HA.out, fun t ht htt => by have := HO.out.le ht htt; have := HM.out; omega, by (exact Ext.of_below (by (repeat' (first | (with_reducible exact Below.refl _ _) | (with_reducible assumption) | (with_reducible refine Below.alloc ?_ ?_ _) | (with_reducible refine Below.wext ?_ ?_ _ _) | (with_reducible refine Below.drew ?_) | (with_reducible refine Below.setCell ?_ ?_ _) | (with_reducible exact Nat.le_refl _) | (with_reducible refine Below.drewN' ?_ _) | (simp; omega) | (simp; done)))))⟩
        case measure => (try rw [hme]); have := HH.out; simp [intOf]; omega
      · have HM : Hid ((l[h]).2 ≤ m) := by show (l[h]).2 ≤ m; omega
        have hd : decide (m < (l[h]).2) = false := by simpa using hm
        clear hm
        go_wp2_with (first | (go_at_call 38; (try rw [hme]); refine (cont1_any l v m bs bn h _ hh (HS.out.ext (by (exact Ext.of_below (by (repeat' (first | (with_reducible exact Below.refl _ _) | (with_reducible assumption) | (with_reducible refine Below.alloc ?_ ?_ _) | (with_reducible refine Below.wext ?_ ?_ _ _) | (with_reducible refine Below.drew ?_) | (with_reducible refine Below.setCell ?_ ?_ _) | (with_reducible exact Nat.le_refl _) | (with_reducible refine Below.drewN' ?_ _) | (simp; omega) | (simp; done))))))) (cell_ext K1.out (by (exact Ext.of_below (by (repeat' (first | (with_reducible exact Below.refl _ _) | (with_reducible assumption) | (with_reducible refine Below.alloc ?_ ?_ _) | (with_reducible refine Below.wext ?_ ?_ _ _) | (with_reducible refine Below.drew ?_) | (with_reducible refine Below.setCell ?_ ?_ _) | (with_reducible exact Nat.le_refl _) | (with_reducible refine Below.drewN' ?_ _) | (simp; omega) | (simp; done))))))) (cell_ext K2.out (by (exact Ext.of_below (by (repeat' (first | (with_reducible exact Below.refl _ _) | (with_reducible assumption) | (with_reducible refine Below.alloc ?_ ?_ _) | (with_reducible refine Below.wext ?_ ?_ _ _) | (with_reducible refine Below.drew ?_) | (with_reducible refine Below.setCell ?_ ?_ _) | (with_reducible exact Nat.le_refl _) | (with_reducible refine Below.drewN' ?_ _) | (simp; omega) | (simp; done)))))))).mono ?_; rw [hd]; rintro e w1 ⟨rfl, os1, n1, rfl⟩))
        go_roundw
        case rel => exact ⟨h + 1, j, by first | go_num | (rw [hme]; go_num), by go_num, by have := HH.out.2; omega, hj, fun t ht htt => by have := HO.out.le hh (show t ≤ h by omega); have := HM.out; omega, HB.out, by (exact Ext.of_below (by (repeat' (first | (with_reducible exact Below.refl _ _) | (with_reducible assumption) | (with_reducible refine Below.alloc ?_ ?_ _) | (with_reducible refine Below.wext ?_ ?_ _ _) | (with_reducible refine Below.drew ?_) | (with_reducible refine Below.setCell ?_ ?_ _) | (with_reducible exact Nat.le_refl _) | (with_reducible refine Below.drewN' ?_ _) | (simp; omega) | (simp; done)))))⟩
        case measure => (try rw [hme]); have := HH.out; simp [intOf]; omega
    · go_wp2_with fail
      all_goals go_ret
      all_goals refine ⟨ret_i ?_, by (exact Ext.of_below (by (repeat' (first | (with_reducible exact Below.refl _ _) | (with_reducible assumption) | (with_reducible refine Below.alloc ?_ ?_ _) | (with_reducible refine Below.wext ?_ ?_ _ _) | (with_reducible refine Below.drew ?_) | (with_reducible refine Below.setCell ?_ ?_ _) | (with_reducible exact Nat.le_refl _) | (with_reducible refine Below.drewN' ?_ _) | (simp; omega) | (simp; done)))))⟩
      all_goals (rw [findI_of (k := i) (by omega) (fun t h ht => HA.out t h ht) (fun h => HB.out i h (by omega))])

end Go.Proofs.Ytlboakmiopnifaa
