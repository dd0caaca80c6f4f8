/- Layer 22: the law RegionPages. -/
import Derived.Test.YtohodegmkepemaaRgm
import Derived.Test.YtohodegmkepemaaRgv
set_option linter.unusedSimpArgs false
set_option linter.unusedVariables false
namespace Go.Proofs.Ytohodegmkepemaa
open Go.RowKit

theorem has_eq {s p r f i x q : Int} {v : Bool} (h : hasF s p r f i x q = v) (w : World) :
    Calls Try.prog 23 #[.agg #[.int .i64 s, .int .i64 p, .int .i64 r, .int .i64 f, .int .i64 i, .int .i64 x], .int .i64 q] w fun e w' => e = .returned (.bool v) ∧ Ext w w' := by
  subst h; exact hasq_any s p r f i x q w
theorem page_eq {s p r f i x q v : Int} (h : pageF s p r f i x q = v) (w : World) :
    Calls Try.prog 24 #[.agg #[.int .i64 s, .int .i64 p, .int .i64 r, .int .i64 f, .int .i64 i, .int .i64 x], .int .i64 q] w fun e w' => e = .returned (.int .i64 v) ∧ Ext w w' := by
  subst h; exact page_any s p r f i x q w

set_option maxHeartbeats 1000000 in
theorem pages_err (s p r f i x : Int) (q c : Int) (he : ¬ cutE s p r f i x q c = 0) (w : World) :
    Calls Try.prog 7 #[.agg #[.int .i64 s, .int .i64 p, .int .i64 r, .int .i64 f, .int .i64 i, .int .i64 x], .int .i64 q, .int .i64 c] w fun e w' => e = .returned (.bool true) ∧ Ext w w' := by
  have hg := cutG_err he
  have e1 : (cutE s p r f i x q c != 0) = true := by simp [he]
  have H : Hid (¬ cutE s p r f i x q c = 0) := he
  have HG : Hid (cutG s p r f i x q c = []) := hg
  clear he hg
  go_enter Try.func7, Try.ntmps7
  go_wp2_with (first | (go_at_call 13; refine (awake_any _).mono ?_; rintro e w1 ⟨rfl, os1, n1, rfl⟩) | (go_at_call 20; refine (cut_any _ _ _ _ _ _ _ _ _).mono ?_; intro e w1 hcp; obtain ⟨aA, cA, rfl, hsa, os1, n1, rfl⟩ := hcp; rw [HG.out, List.length_nil]; clear hsa))
  all_goals go_returns
  all_goals exact ⟨rfl, by (exact Ext.of_below (by (repeat' (first | (with_reducible exact Below.refl _ _) | (with_reducible assumption) | (with_reducible refine Below.alloc ?_ ?_ _) | (with_reducible refine Below.wext ?_ ?_ _ _) | (with_reducible refine Below.drew ?_) | (with_reducible refine Below.setCell ?_ ?_ _) | (with_reducible exact Nat.le_refl _) | (simp; omega) | (simp; done)))))⟩

set_option maxRecDepth 100000 in
set_option maxHeartbeats 4000000 in
theorem pages_ok (s p r f i x : Int) (q c : Int) (he : cutE s p r f i x q c = 0) (l : List Rg) (hl : cutG s p r f i x q c = l) (hP : Parts s p r f i x q c l) (w : World) :
    Calls Try.prog 7 #[.agg #[.int .i64 s, .int .i64 p, .int .i64 r, .int .i64 f, .int .i64 i, .int .i64 x], .int .i64 q, .int .i64 c] w fun e w' => e = .returned (.bool true) ∧ Ext w w' := by
  have hv := (cutE_zero he).1
  have hb := chk_bd hv
  have hb1 : 0 ≤ s := hb.1
  have hb2 : 1 ≤ p := hb.2.1
  have hb3 : s + p ≤ 512 := hb.2.2.1
  have hq0 : 0 ≤ q ∧ 1 ≤ c ∧ q + c ≤ 512 := by have := cutE_zero he; omega
  have hl2 : l.length ≤ 2 := hP.two
  have e2 : (cutE s p r f i x q c != 0) = false := by simp [he]
  have HV : Hid (chkR s p r f i x = 0) := hv
  have HP : Hid (Parts s p r f i x q c l) := hP
  have HL : Hid (cutG s p r f i x q c = l) := hl
  clear he hv hb hP hl
  go_enter Try.func7, Try.ntmps7
  go_wp2_with (first | (go_at_call 13; refine (awake_any _).mono ?_; rintro e w1 ⟨rfl, os1, n1, rfl⟩) | (go_at_call 20; refine (cut_any _ _ _ _ _ _ _ _ _).mono ?_; intro e w1 hcp; obtain ⟨aA, cA, rfl, hsa, osC, nC, rfl⟩ := hcp; rw [HL.out] at hsa; rw [HL.out]))
  obtain ⟨W1, hW1⟩ : ∃ W, W = wext (w.alloc (.cells #[.int .i64 s, .int .i64 p, .int .i64 r, .int .i64 f, .int .i64 i, .int .i64 x] 23)) osC nC := ⟨_, rfl⟩
  rw [← hW1] at hsa ⊢
  have y0 : W1.cell? ⟨w.heap.size, 0, none⟩ = some (.int .i64 s) := by rw [hW1]; simp [go_sem]
  have y1 : W1.cell? ⟨w.heap.size, 1, none⟩ = some (.int .i64 p) := by rw [hW1]; simp [go_sem]
  have y2 : W1.cell? ⟨w.heap.size, 2, none⟩ = some (.int .i64 r) := by rw [hW1]; simp [go_sem]
  have y3 : W1.cell? ⟨w.heap.size, 3, none⟩ = some (.int .i64 f) := by rw [hW1]; simp [go_sem]
  have y4 : W1.cell? ⟨w.heap.size, 4, none⟩ = some (.int .i64 i) := by rw [hW1]; simp [go_sem]
  have y5 : W1.cell? ⟨w.heap.size, 5, none⟩ = some (.int .i64 x) := by rw [hW1]; simp [go_sem]
  have zl : LtD w.heap.size W1.heap.size := by rw [hW1]; simp [go_sem]
  have HW : Hid (Ext w W1) := by show Ext w W1; rw [hW1]; (exact Ext.of_below (by (repeat' (first | (with_reducible exact Below.refl _ _) | (with_reducible assumption) | (with_reducible refine Below.alloc ?_ ?_ _) | (with_reducible refine Below.wext ?_ ?_ _ _) | (with_reducible refine Below.drew ?_) | (with_reducible refine Below.setCell ?_ ?_ _) | (with_reducible exact Nat.le_refl _) | (simp; omega) | (simp; done)))))
  have HS : Hid (isSl W1 (.slice aA l.length cA) 6 l.length (rgL l)) := hsa
  clear hW1 hsa
  -- each page
  go_loopw [9] (fun v wr => ∃ t : Int, v = .int .i64 t ∧ s ≤ t ∧ t ≤ s + p ∧ ∃ os n, wr = wext W1 os n) (fun v _ => (s + p - intOf v).toNat)
  case atStart => exact ⟨s, rfl, by omega, by omega, #[], W1.drawn, by simp [wext]⟩
  case round =>
    obtain ⟨t, rfl, ht0, ht1, os0, n0, rfl⟩ := hrel
    by_cases htl : t < s + p
    · go_wp2_with fail
      go_loopw [10, 11] (fun v j wr => ∃ k : Nat, j = .int .i64 k ∧ k ≤ l.length ∧ v = .int .i64 (cntP l t k) ∧ ∃ os n, wr = wext W1 os n) (fun _ j _ => l.length - (intOf j).toNat)
      case atStart => exact ⟨0, rfl, by omega, rfl, by (exact Ext.of_below (by (repeat' (first | (with_reducible exact Below.refl _ _) | (with_reducible assumption) | (with_reducible refine Below.alloc ?_ ?_ _) | (with_reducible refine Below.wext ?_ ?_ _ _) | (with_reducible refine Below.drew ?_) | (with_reducible refine Below.setCell ?_ ?_ _) | (with_reducible exact Nat.le_refl _) | (simp; omega) | (simp; done)))))⟩
      case round =>
        obtain ⟨k, rfl, hk, rfl, os2, n2, rfl⟩ := hrel
        have hcb := cntP_bd l t k
        by_cases hlt : k < l.length
        · obtain ⟨bA, oA, cA', eA, m1, m2, m3, m4⟩ := HS.out.cell (by omega)
          cases eA
          have zA : LtD bA W1.heap.size := m3
          obtain ⟨a0, a1, a2, a3, a4, a5⟩ := rg_cells m4 k hlt
          by_cases hh : hasF (l[k]).s (l[k]).p (l[k]).r (l[k]).f (l[k]).i (l[k]).x t = true
          · obtain ⟨g1, g2, g3⟩ := HP.out.same k hlt t hh
            have hcn := cntP_hit hlt hh
            have HN : Hid (cntP l t (k + 1) = cntP l t k + 1) := hcn
            have HH : Hid _ := hh
            have HG : Hid _ := g1
            rw [g2] at a2
            rw [g3] at a4
            have HH2 : Hid (hasF (l[k]).s (l[k]).p r (l[k]).f i (l[k]).x t = true) := by have h := hh; rw [g2, g3] at h; exact h
            have HG2 : Hid (pageF (l[k]).s (l[k]).p r (l[k]).f i (l[k]).x t = pageF s p r f i x t) := by have h := g1; rw [g2, g3] at h; exact h
            clear g1 g2 g3 hh hcn m1 m2 m3 m4
            go_wp2_with (first | (go_at_call 23; refine (has_eq HH2.out _).mono ?_; rintro e w1 ⟨rfl, os1, n1, rfl⟩))
            (refine wp_region_ext (by kernel_rfl) (by kernel_rfl) ?_; (repeat (any_goals (refine wpQuiet_step (fun K hK => ?_); go_simp; (first | (refine hK _ ?_; clear hK K) | (apply Exists.intro; refine ⟨fun _ => ?_, hK _ ?_⟩; (first | (go_at_call 24; first | (with_reducible exact Calls.ext_of (page_eq HG2.out _)) | (with_reducible exact Calls.ext_of (page_any _ _ _ _ _ _ _ _)))); (clear hK K)) | (split <;> (refine hK _ ?_; clear hK K)))))); all_goals (refine wpQuiet_nil ?_; intro wq hwq; obtain ⟨⟨osq, nq⟩, hwq2⟩ := hwq; subst hwq2; dsimp only))
            all_goals go_wp2_with fail
            go_goals
            go_roundw
            case rel => exact ⟨k + 1, by go_num, by omega, by rw [HN.out], by (exact Ext.of_below (by (repeat' (first | (with_reducible exact Below.refl _ _) | (with_reducible assumption) | (with_reducible refine Below.alloc ?_ ?_ _) | (with_reducible refine Below.wext ?_ ?_ _ _) | (with_reducible refine Below.drew ?_) | (with_reducible refine Below.setCell ?_ ?_ _) | (with_reducible exact Nat.le_refl _) | (simp; omega) | (simp; done)))))⟩
            case measure => simp [intOf]; omega
          · have hh' : hasF (l[k]).s (l[k]).p (l[k]).r (l[k]).f (l[k]).i (l[k]).x t = false := by simpa using hh
            have hcn := cntP_miss hlt hh'
            have HN : Hid (cntP l t (k + 1) = cntP l t k) := hcn
            have HH : Hid _ := hh'
            clear hh hh' hcn m1 m2 m3 m4
            go_wp2_with (first | (go_at_call 23; refine (has_eq HH.out _).mono ?_; rintro e w1 ⟨rfl, os1, n1, rfl⟩))
            go_goals
            go_roundw
            case rel => exact ⟨k + 1, by go_num, by omega, by rw [HN.out], by (exact Ext.of_below (by (repeat' (first | (with_reducible exact Below.refl _ _) | (with_reducible assumption) | (with_reducible refine Below.alloc ?_ ?_ _) | (with_reducible refine Below.wext ?_ ?_ _ _) | (with_reducible refine Below.drew ?_) | (with_reducible refine Below.setCell ?_ ?_ _) | (with_reducible exact Nat.le_refl _) | (simp; omega) | (simp; done)))))⟩
            case measure => simp [intOf]; omega
        · obtain rfl : k = l.length := by omega
          have hct := HP.out.count t ht0 htl
          have HR : Hid (hasF s p r f i x t = true) := by show hasF s p r f i x t = true; rw [hasF_iff HV.out]; simp; omega
          clear hlt hk hcb
          by_cases hi1 : q ≤ t
          · by_cases hi2 : t - q < c
            · rw [if_pos ⟨hi1, hi2⟩] at hct
              rw [hct]
              clear hct
              clear HS HP HL
              go_wp2_with (first | (go_at_call 23; refine (has_eq HR.out _).mono ?_; rintro e w1 ⟨rfl, os1, n1, rfl⟩))
              go_goals
              go_roundw
              case rel => exact ⟨t + 1, by go_num, by omega, by omega, by (exact Ext.of_below (by (repeat' (first | (with_reducible exact Below.refl _ _) | (with_reducible assumption) | (with_reducible refine Below.alloc ?_ ?_ _) | (with_reducible refine Below.wext ?_ ?_ _ _) | (with_reducible refine Below.drew ?_) | (with_reducible refine Below.setCell ?_ ?_ _) | (with_reducible exact Nat.le_refl _) | (simp; omega) | (simp; done)))))⟩
              case measure => simp [intOf]; omega
            · rw [if_neg (by omega)] at hct
              rw [hct]
              clear hct
              clear HS HP HL
              go_wp2_with (first | (go_at_call 23; refine (has_eq HR.out _).mono ?_; rintro e w1 ⟨rfl, os1, n1, rfl⟩))
              go_goals
              go_roundw
              case rel => exact ⟨t + 1, by go_num, by omega, by omega, by (exact Ext.of_below (by (repeat' (first | (with_reducible exact Below.refl _ _) | (with_reducible assumption) | (with_reducible refine Below.alloc ?_ ?_ _) | (with_reducible refine Below.wext ?_ ?_ _ _) | (with_reducible refine Below.drew ?_) | (with_reducible refine Below.setCell ?_ ?_ _) | (with_reducible exact Nat.le_refl _) | (simp; omega) | (simp; done)))))⟩
              case measure => simp [intOf]; omega
          · rw [if_neg (by omega)] at hct
            rw [hct]
            clear hct
            clear HS HP HL
            go_wp2_with (first | (go_at_call 23; refine (has_eq HR.out _).mono ?_; rintro e w1 ⟨rfl, os1, n1, rfl⟩))
            go_goals
            go_roundw
            case rel => exact ⟨t + 1, by go_num, by omega, by omega, by (exact Ext.of_below (by (repeat' (first | (with_reducible exact Below.refl _ _) | (with_reducible assumption) | (with_reducible refine Below.alloc ?_ ?_ _) | (with_reducible refine Below.wext ?_ ?_ _ _) | (with_reducible refine Below.drew ?_) | (with_reducible refine Below.setCell ?_ ?_ _) | (with_reducible exact Nat.le_refl _) | (simp; omega) | (simp; done)))))⟩
            case measure => simp [intOf]; omega
    · obtain rfl : t = s + p := by omega
      have HP0 : Hid (∀ k, k ≤ l.length → 0 ≤ sumP l k ∧ sumP l k ≤ p) := HP.out.pages
      go_wp2_with fail
      go_loopw [13, 14] (fun v j wr => ∃ k : Nat, j = .int .i64 k ∧ k ≤ l.length ∧ v = .int .i64 (sumP l k) ∧ ∃ os n, wr = wext W1 os n) (fun _ j _ => l.length - (intOf j).toNat)
      case atStart => exact ⟨0, rfl, by omega, rfl, by (exact Ext.of_below (by (repeat' (first | (with_reducible exact Below.refl _ _) | (with_reducible assumption) | (with_reducible refine Below.alloc ?_ ?_ _) | (with_reducible refine Below.wext ?_ ?_ _ _) | (with_reducible refine Below.drew ?_) | (with_reducible refine Below.setCell ?_ ?_ _) | (with_reducible exact Nat.le_refl _) | (simp; omega) | (simp; done)))))⟩
      case round =>
        obtain ⟨k, rfl, hk, rfl, os2, n2, rfl⟩ := hrel
        have hs1 := HP0.out k hk
        by_cases hlt : k < l.length
        · obtain ⟨bA, oA, cA', eA, m1, m2, m3, m4⟩ := HS.out.cell (by omega)
          cases eA
          have zA : LtD bA W1.heap.size := m3
          obtain ⟨a0, a1, a2, a3, a4, a5⟩ := rg_cells m4 k hlt
          have HK : Hid (chkR (l[k]).s (l[k]).p (l[k]).r (l[k]).f (l[k]).i (l[k]).x = 0) := HP.out.ok k hlt
          have hs2 := HP0.out (k + 1) (by omega)
          have hsk := sumP_succ hlt
          rw [hsk] at hs2
          have HN : Hid (sumP l (k + 1) = sumP l k + (l[k]).p) := hsk
          clear hsk m1 m2 m3 m4
          go_wp2_with (first | (go_at_call 11; refine (chk_eq HK.out _).mono ?_; rintro e w1 ⟨rfl, os1, n1, rfl⟩))
          go_goals
          go_roundw
          case rel => exact ⟨k + 1, by go_num, by omega, by rw [HN.out], by (exact Ext.of_below (by (repeat' (first | (with_reducible exact Below.refl _ _) | (with_reducible assumption) | (with_reducible refine Below.alloc ?_ ?_ _) | (with_reducible refine Below.wext ?_ ?_ _ _) | (with_reducible refine Below.drew ?_) | (with_reducible refine Below.setCell ?_ ?_ _) | (with_reducible exact Nat.le_refl _) | (simp; omega) | (simp; done)))))⟩
          case measure => simp [intOf]; omega
        · obtain rfl : k = l.length := by omega
          clear hlt hk
          go_wp2_with (first | (go_at_call 13; refine (awake_any _).mono ?_; rintro e w1 ⟨rfl, os1, n1, rfl⟩))
          all_goals go_returns
          all_goals exact ⟨rfl, HW.out.trans (by (exact Ext.of_below (by (repeat' (first | (with_reducible exact Below.refl _ _) | (with_reducible assumption) | (with_reducible refine Below.alloc ?_ ?_ _) | (with_reducible refine Below.wext ?_ ?_ _ _) | (with_reducible refine Below.drew ?_) | (with_reducible refine Below.setCell ?_ ?_ _) | (with_reducible exact Nat.le_refl _) | (simp; omega) | (simp; done))))))⟩

theorem law_pages (s p r f i x : Int) (q c : Int) (w : World) :
    Calls Try.prog 7 #[.agg #[.int .i64 s, .int .i64 p, .int .i64 r, .int .i64 f, .int .i64 i, .int .i64 x], .int .i64 q, .int .i64 c] w fun e w' => e = .returned (.bool true) ∧ Ext w w' := by
  by_cases he : cutE s p r f i x q c = 0
  · exact pages_ok s p r f i x q c he _ rfl (cutG_parts he) w
  · exact pages_err s p r f i x q c he w

end Go.Proofs.Ytohodegmkepemaa
