/- Layer 02: Intersect. -/
import Derived.Test.YtlboakmiopnifaaIvo
import Derived.Test.YtlboakmiopnifaaIvp
import Derived.Test.YtlboakmiopnifaaTail
set_option linter.unusedSimpArgs false
set_option linter.unusedVariables false
namespace Go.Proofs.Ytlboakmiopnifaa
open Go.RowKit

theorem app_own {w : World} {base : Nat} {e : TypeId} {v : Value} {acc : List (Int × Int)} {f t : Int} (h : w.ownsRow base e 2 v (acc.length + 1) (ivF acc ++ [.int .i64 f, .int .i64 t])) : w.ownsRow base e 2 v (acc ++ [(f, t)]).length (ivF (acc ++ [(f, t)])) := by
  rw [ivF_app, List.length_append]; exact h

set_option maxRecDepth 100000 in
set_option maxHeartbeats 4000000 in
theorem int_ok (a b : List (Int × Int)) (v u : Value) (w : World) (hv : isSl w v 2 a.length (ivF a)) (hu : isSl w u 2 b.length (ivF b)) (hab : a.length + b.length ≤ 200) (h0 : bothI a b = 0) :
    Calls Try.prog 29 #[v, u] w fun e w' => ∃ r, e = .returned (.tuple #[r, .int .i64 0]) ∧ w'.ownsRow w.heap.size 28 2 r (intI a b).length (ivF (intI a b)) ∧ Below w.heap.size w w' := by
  have HV : Hid (isSl w v 2 a.length (ivF a)) := hv
  have HU : Hid (isSl w u 2 b.length (ivF b)) := hu
  have e1 : (bothI a b != 0) = false := by simp [h0]
  clear hv hu h0
  go_enter Try.func29, Try.ntmps29
  go_wp2_with (first | (go_at_call 45; refine (both_any a b v u _ (HV.out.ext (by (exact Ext.of_below (by (repeat' (first | (with_reducible exact Below.refl _ _) | (with_reducible assumption) | (with_reducible refine Below.alloc ?_ ?_ _) | (with_reducible refine Below.wext ?_ ?_ _ _) | (with_reducible refine Below.drew ?_) | (with_reducible refine Below.setCell ?_ ?_ _) | (with_reducible exact Nat.le_refl _) | (with_reducible refine Below.drewN' ?_ _) | (simp; omega) | (simp; done))))))) (HU.out.ext (by (exact Ext.of_below (by (repeat' (first | (with_reducible exact Below.refl _ _) | (with_reducible assumption) | (with_reducible refine Below.alloc ?_ ?_ _) | (with_reducible refine Below.wext ?_ ?_ _ _) | (with_reducible refine Below.drew ?_) | (with_reducible refine Below.setCell ?_ ?_ _) | (with_reducible exact Nat.le_refl _) | (with_reducible refine Below.drewN' ?_ _) | (simp; omega) | (simp; done)))))))).mono ?_; rintro e w1 ⟨rfl, os1, n1, rfl⟩))
  go_loopw [0, 1, 7] (fun va vb vo wr => ∃ la lb acc, isSl w va 2 la.length (ivF la) ∧ isSl w vb 2 lb.length (ivF lb) ∧ wr.ownsRow w.heap.size 28 2 vo acc.length (ivF acc) ∧ Below w.heap.size w wr ∧ acc ++ intI la lb = intI a b ∧ acc.length + la.length + lb.length ≤ 200) (fun va vb _ _ => lenOf va + lenOf vb)
  case atStart => exact ⟨a, b, [], HV.out, HU.out, World.ownsRow_nil _ _ _ _, by (repeat' (first | (with_reducible exact Below.refl _ _) | (with_reducible assumption) | (with_reducible refine Below.alloc ?_ ?_ _) | (with_reducible refine Below.wext ?_ ?_ _ _) | (with_reducible refine Below.drew ?_) | (with_reducible refine Below.setCell ?_ ?_ _) | (with_reducible exact Nat.le_refl _) | (with_reducible refine Below.drewN' ?_ _) | (simp; omega) | (simp; done))), rfl, by simpa using hab⟩
  case round =>
    obtain ⟨la, lb, acc, hA, hB, hO, hW, hE, hN⟩ := hrel
    have HA : Hid (isSl w u0 2 la.length (ivF la)) := hA
    have HB : Hid (isSl w u1 2 lb.length (ivF lb)) := hB
    obtain ⟨pa, ca, rfl⟩ := sl_form hA
    obtain ⟨pb, cb, rfl⟩ := sl_form hB
    have HO : Hid (wr.ownsRow w.heap.size 28 2 u7 acc.length (ivF acc)) := hO
    have HW : Hid (Below w.heap.size w wr) := hW
    have HE : Hid (acc ++ intI la lb = intI a b) := hE
    clear hA hB hO hW hE
    cases la with
    | nil =>
      simp only [List.length_nil]
      cases lb with
      | nil =>
        simp only [List.length_nil]
        go_wp2_with fail
        go_returns
        refine ⟨_, rfl, ?_, HW.out⟩
        have e := HE.out
        simp only [intI, intI_nil, List.append_nil] at e
        rw [← e]
        exact HO.out
      | cons y lb =>
        simp only [List.length_cons]
        go_wp2_with fail
        go_returns
        refine ⟨_, rfl, ?_, HW.out⟩
        have e := HE.out
        simp only [intI, intI_nil, List.append_nil] at e
        rw [← e]
        exact HO.out
    | cons x la =>
      obtain ⟨ba, oa, c', hv', g1, g2, g3, g4⟩ := HA.out.cell (by simp)
      obtain ⟨rfl, rfl⟩ : pa = some ⟨ba, oa, none⟩ ∧ ca = c' := by cases hv'; exact ⟨rfl, rfl⟩
      obtain ⟨a0, a1⟩ := iv_cells g4 0 (by simp)
      have zb : LtD ba wr.heap.size := Nat.lt_of_lt_of_le g3 HW.out.size
      have k0 : wr.cell? ⟨ba, oa, none⟩ = some (.int .i64 x.1) := (HW.out.cell (p := ⟨ba, oa, none⟩) g3).trans (by simpa using a0)
      have k1 : wr.cell? ⟨ba, oa + 1, none⟩ = some (.int .i64 x.2) := (HW.out.cell (p := ⟨ba, oa + 1, none⟩) g3).trans (by simpa using a1)
      have zw : ba < w.heap.size := g3
      have hcap : la.length + 1 ≤ ca := by simpa using g1
      have hcapI : (la.length : Int) + 1 ≤ (ca : Int) := by omega
      have h1I : (1 : Int) ≤ (la.length : Int) + 1 := by omega
      have h1c : (1 : Int) ≤ (ca : Int) := by omega
      have h1n : 1 ≤ ca := by omega
      have hs : w.heap.size ≤ wr.heap.size := HW.out.size
      have hacc : acc.length ≤ 1000 := by omega
      clear hv' g1 g2 g3 g4 a0 a1
      simp only [List.length_cons]
      cases lb with
      | nil =>
        simp only [List.length_nil]
        go_wp2_with fail
        go_returns
        refine ⟨_, rfl, ?_, HW.out⟩
        have e := HE.out
        simp only [intI, intI_nil, List.append_nil] at e
        rw [← e]
        exact HO.out
      | cons y lb =>
        obtain ⟨bb, ob, cb', hvb, g1, g2, g3, g4⟩ := HB.out.cell (by simp)
        obtain ⟨rfl, rfl⟩ : pb = some ⟨bb, ob, none⟩ ∧ cb = cb' := by cases hvb; exact ⟨rfl, rfl⟩
        obtain ⟨q0, q1⟩ := iv_cells g4 0 (by simp)
        have zb : LtD bb wr.heap.size := Nat.lt_of_lt_of_le g3 HW.out.size
        have kb0 : wr.cell? ⟨bb, ob, none⟩ = some (.int .i64 y.1) := (HW.out.cell (p := ⟨bb, ob, none⟩) g3).trans (by simpa using q0)
        have kb1 : wr.cell? ⟨bb, ob + 1, none⟩ = some (.int .i64 y.2) := (HW.out.cell (p := ⟨bb, ob + 1, none⟩) g3).trans (by simpa using q1)
        have zwb : bb < w.heap.size := g3
        have hcapb : lb.length + 1 ≤ cb := by simpa using g1
        have hcapIb : (lb.length : Int) + 1 ≤ (cb : Int) := by omega
        have h1Ib : (1 : Int) ≤ (lb.length : Int) + 1 := by omega
        have h1cb : (1 : Int) ≤ (cb : Int) := by omega
        have h1nb : 1 ≤ cb := by omega
        clear hvb g1 g2 g3 g4 q0 q1
        have hneb : ((lb.length : Int) + 1 == 0) = false := by simp; omega
        simp only [List.length_cons]
        obtain ⟨i0, hi0, hz0, hs0, hy0⟩ := infoIv_parts
        obtain ⟨f, hF⟩ : ∃ f : Int, (if x.1 < y.1 then y.1 else x.1) = f := ⟨_, rfl⟩
        obtain ⟨t, hT⟩ : ∃ t : Int, (if y.2 < x.2 then y.2 else x.2) = t := ⟨_, rfl⟩
        have HF : Hid (max x.1 y.1 = f) := by show max x.1 y.1 = f; rw [← hF]; split <;> omega
        have HT : Hid (min x.2 y.2 = t) := by show min x.2 y.2 = t; rw [← hT]; split <;> omega
        have K1 : Hid (w.cell? ⟨ba, oa + 1, none⟩ = some (.int .i64 x.2)) := ((HW.out.cell (p := ⟨ba, oa + 1, none⟩) zw).symm.trans k1)
        have KB1 : Hid (w.cell? ⟨bb, ob + 1, none⟩ = some (.int .i64 y.2)) := ((HW.out.cell (p := ⟨bb, ob + 1, none⟩) zwb).symm.trans kb1)
        have HS : intI (x :: la) (y :: lb) = (if f < t then [(f, t)] else []) ++ (if x.2 ≤ y.2 then intI la (y :: lb) else intI (x :: la) lb) := by rw [intI, HF.out, HT.out]
        rw [HS] at HE
        replace HE : Hid _ := HE
        clear HS
        by_cases hft : f < t
        · have hd : decide (f < t) = true := by simpa using hft
          have HFT : Hid (f < t) := hft
          clear hft
          by_cases hxy : x.2 ≤ y.2
          · have hd2 : decide (x.2 ≤ y.2) = true := by simpa using hxy
            have HXY : Hid (x.2 ≤ y.2) := hxy
            clear hxy
            go_upto_region 6 with fail
            refine wp_one ?_
            apply Exists.intro
            apply Exists.intro
            apply And.intro
            · go_region_held3 (fun w' => w'.cell? ⟨ba, oa, none⟩ = some (.int .i64 x.1) ∧ w'.cell? ⟨ba, oa + 1, none⟩ = some (.int .i64 x.2) ∧ w'.cell? ⟨bb, ob, none⟩ = some (.int .i64 y.1) ∧ w'.cell? ⟨bb, ob + 1, none⟩ = some (.int .i64 y.2)) (go_keep) (fail)
              all_goals exact ⟨rfl, rfl, rfl⟩
            go_upto_region 9 with (first | (at_builtin; have tokA : True := trivial; refine wpList_append_own _ rfl _ _ 22 rfl w.heap.size 28 i0 (.agg #[.int .i64 0, .int .i64 0]) 2 16 Try.underlying22 hi0 hz0 hs0 hy0 rfl (by decide) _ _ _ rfl (own_ext HO.out (by (exact Ext.of_below (by (repeat' (first | (with_reducible exact Below.refl _ _) | (with_reducible assumption) | (with_reducible refine Below.alloc ?_ ?_ _) | (with_reducible refine Below.wext ?_ ?_ _ _) | (with_reducible refine Below.drew ?_) | (with_reducible refine Below.setCell ?_ ?_ _) | (with_reducible exact Nat.le_refl _) | (with_reducible refine Below.drewN' ?_ _) | (simp; omega) | (simp; done))))))) ⟨_, 0, none⟩ 1 1 [.int .i64 f, .int .i64 t] rfl rfl (cells_new2 _ _ _ _ (by simp)) (by simp [Value.oneCell']) (by unfold maxLen; omega) (by omega) (by simp; omega) ?_; intro vA wA hownA hgrA _; replace hownA : Hid _ := hownA; have HWA : Hid (Below w.heap.size w wA) := (HW.out.trans (below_le hs (Ext.below (by (exact Ext.of_below (by (repeat' (first | (with_reducible exact Below.refl _ _) | (with_reducible assumption) | (with_reducible refine Below.alloc ?_ ?_ _) | (with_reducible refine Below.wext ?_ ?_ _ _) | (with_reducible refine Below.drew ?_) | (with_reducible refine Below.setCell ?_ ?_ _) | (with_reducible exact Nat.le_refl _) | (with_reducible refine Below.drewN' ?_ _) | (simp; omega) | (simp; done))))))))).trans (below_of_grown hgrA (by simp; omega) (fun k hk => (HO.out.lt k hk).1)); clear hgrA; have kA0 : wA.cell? ⟨ba, oa + 1, none⟩ = some (.int .i64 x.2) := (HWA.out.cell (p := ⟨ba, oa + 1, none⟩) zw).trans K1.out; have kA1 : wA.cell? ⟨bb, ob + 1, none⟩ = some (.int .i64 y.2) := (HWA.out.cell (p := ⟨bb, ob + 1, none⟩) zwb).trans KB1.out))
            go_region
            go_wp2_with fail
            go_roundw
            case rel =>
              refine ⟨la, y :: lb, acc ++ [(f, t)], isSl_tail' HA.out, HB.out, ?_, ?_, ?_, ?_⟩
              · first | exact app_own hownA.out | exact app_own (own_ext hownA.out (by (exact Ext.of_below (by (repeat' (first | (with_reducible exact Below.refl _ _) | (with_reducible assumption) | (with_reducible refine Below.alloc ?_ ?_ _) | (with_reducible refine Below.wext ?_ ?_ _ _) | (with_reducible refine Below.drew ?_) | (with_reducible refine Below.setCell ?_ ?_ _) | (with_reducible exact Nat.le_refl _) | (with_reducible refine Below.drewN' ?_ _) | (simp; omega) | (simp; done)))))))
              · first | exact HWA.out | exact Below.drew HWA.out
              · have e := HE.out
                have a := HFT.out
                have b := HXY.out
                rw [if_pos a, if_pos b] at e
                simpa using e
              · simp only [List.length_cons, List.length_append, List.length_nil] at hN ⊢
                omega
            case measure => simp [lenOf]
          · have hd2 : decide (x.2 ≤ y.2) = false := by simpa using hxy
            have HXY : Hid (¬ x.2 ≤ y.2) := hxy
            clear hxy
            go_upto_region 6 with fail
            refine wp_one ?_
            apply Exists.intro
            apply Exists.intro
            apply And.intro
            · go_region_held3 (fun w' => w'.cell? ⟨ba, oa, none⟩ = some (.int .i64 x.1) ∧ w'.cell? ⟨ba, oa + 1, none⟩ = some (.int .i64 x.2) ∧ w'.cell? ⟨bb, ob, none⟩ = some (.int .i64 y.1) ∧ w'.cell? ⟨bb, ob + 1, none⟩ = some (.int .i64 y.2)) (go_keep) (fail)
              all_goals exact ⟨rfl, rfl, rfl⟩
            go_upto_region 9 with (first | (at_builtin; have tokA : True := trivial; refine wpList_append_own _ rfl _ _ 22 rfl w.heap.size 28 i0 (.agg #[.int .i64 0, .int .i64 0]) 2 16 Try.underlying22 hi0 hz0 hs0 hy0 rfl (by decide) _ _ _ rfl (own_ext HO.out (by (exact Ext.of_below (by (repeat' (first | (with_reducible exact Below.refl _ _) | (with_reducible assumption) | (with_reducible refine Below.alloc ?_ ?_ _) | (with_reducible refine Below.wext ?_ ?_ _ _) | (with_reducible refine Below.drew ?_) | (with_reducible refine Below.setCell ?_ ?_ _) | (with_reducible exact Nat.le_refl _) | (with_reducible refine Below.drewN' ?_ _) | (simp; omega) | (simp; done))))))) ⟨_, 0, none⟩ 1 1 [.int .i64 f, .int .i64 t] rfl rfl (cells_new2 _ _ _ _ (by simp)) (by simp [Value.oneCell']) (by unfold maxLen; omega) (by omega) (by simp; omega) ?_; intro vA wA hownA hgrA _; replace hownA : Hid _ := hownA; have HWA : Hid (Below w.heap.size w wA) := (HW.out.trans (below_le hs (Ext.below (by (exact Ext.of_below (by (repeat' (first | (with_reducible exact Below.refl _ _) | (with_reducible assumption) | (with_reducible refine Below.alloc ?_ ?_ _) | (with_reducible refine Below.wext ?_ ?_ _ _) | (with_reducible refine Below.drew ?_) | (with_reducible refine Below.setCell ?_ ?_ _) | (with_reducible exact Nat.le_refl _) | (with_reducible refine Below.drewN' ?_ _) | (simp; omega) | (simp; done))))))))).trans (below_of_grown hgrA (by simp; omega) (fun k hk => (HO.out.lt k hk).1)); clear hgrA; have kA0 : wA.cell? ⟨ba, oa + 1, none⟩ = some (.int .i64 x.2) := (HWA.out.cell (p := ⟨ba, oa + 1, none⟩) zw).trans K1.out; have kA1 : wA.cell? ⟨bb, ob + 1, none⟩ = some (.int .i64 y.2) := (HWA.out.cell (p := ⟨bb, ob + 1, none⟩) zwb).trans KB1.out))
            go_region
            go_wp2_with fail
            go_roundw
            case rel =>
              refine ⟨x :: la, lb, acc ++ [(f, t)], HA.out, isSl_tail' HB.out, ?_, ?_, ?_, ?_⟩
              · first | exact app_own hownA.out | exact app_own (own_ext hownA.out (by (exact Ext.of_below (by (repeat' (first | (with_reducible exact Below.refl _ _) | (with_reducible assumption) | (with_reducible refine Below.alloc ?_ ?_ _) | (with_reducible refine Below.wext ?_ ?_ _ _) | (with_reducible refine Below.drew ?_) | (with_reducible refine Below.setCell ?_ ?_ _) | (with_reducible exact Nat.le_refl _) | (with_reducible refine Below.drewN' ?_ _) | (simp; omega) | (simp; done)))))))
              · first | exact HWA.out | exact Below.drew HWA.out
              · have e := HE.out
                have a := HFT.out
                have b := HXY.out
                rw [if_pos a, if_neg b] at e
                simpa using e
              · simp only [List.length_cons, List.length_append, List.length_nil] at hN ⊢
                omega
            case measure => simp [lenOf]
        · have hd : decide (f < t) = false := by simpa using hft
          have HFT : Hid (¬ f < t) := hft
          clear hft
          by_cases hxy : x.2 ≤ y.2
          · have hd2 : decide (x.2 ≤ y.2) = true := by simpa using hxy
            have HXY : Hid (x.2 ≤ y.2) := hxy
            clear hxy
            go_upto_region 6 with fail
            refine wp_one ?_
            apply Exists.intro
            apply Exists.intro
            apply And.intro
            · go_region_held3 (fun w' => w'.cell? ⟨ba, oa, none⟩ = some (.int .i64 x.1) ∧ w'.cell? ⟨ba, oa + 1, none⟩ = some (.int .i64 x.2) ∧ w'.cell? ⟨bb, ob, none⟩ = some (.int .i64 y.1) ∧ w'.cell? ⟨bb, ob + 1, none⟩ = some (.int .i64 y.2)) (go_keep) (fail)
              all_goals exact ⟨rfl, rfl, rfl⟩
            go_upto_region 9 with fail
            go_region
            go_wp2_with fail
            go_roundw
            case rel =>
              refine ⟨la, y :: lb, acc, isSl_tail' HA.out, HB.out, ?_, ?_, ?_, ?_⟩
              · exact own_ext HO.out (by (exact Ext.of_below (by (repeat' (first | (with_reducible exact Below.refl _ _) | (with_reducible assumption) | (with_reducible refine Below.alloc ?_ ?_ _) | (with_reducible refine Below.wext ?_ ?_ _ _) | (with_reducible refine Below.drew ?_) | (with_reducible refine Below.setCell ?_ ?_ _) | (with_reducible exact Nat.le_refl _) | (with_reducible refine Below.drewN' ?_ _) | (simp; omega) | (simp; done))))))
              · exact HW.out.trans (below_le hs (Ext.below (by (exact Ext.of_below (by (repeat' (first | (with_reducible exact Below.refl _ _) | (with_reducible assumption) | (with_reducible refine Below.alloc ?_ ?_ _) | (with_reducible refine Below.wext ?_ ?_ _ _) | (with_reducible refine Below.drew ?_) | (with_reducible refine Below.setCell ?_ ?_ _) | (with_reducible exact Nat.le_refl _) | (with_reducible refine Below.drewN' ?_ _) | (simp; omega) | (simp; done))))))))
              · have e := HE.out
                have a := HFT.out
                have b := HXY.out
                rw [if_neg a, if_pos b] at e
                simpa using e
              · simp only [List.length_cons, List.length_append, List.length_nil] at hN ⊢
                omega
            case measure => simp [lenOf]
          · have hd2 : decide (x.2 ≤ y.2) = false := by simpa using hxy
            have HXY : Hid (¬ x.2 ≤ y.2) := hxy
            clear hxy
            go_upto_region 6 with fail
            refine wp_one ?_
            apply Exists.intro
            apply Exists.intro
            apply And.intro
            · go_region_held3 (fun w' => w'.cell? ⟨ba, oa, none⟩ = some (.int .i64 x.1) ∧ w'.cell? ⟨ba, oa + 1, none⟩ = some (.int .i64 x.2) ∧ w'.cell? ⟨bb, ob, none⟩ = some (.int .i64 y.1) ∧ w'.cell? ⟨bb, ob + 1, none⟩ = some (.int .i64 y.2)) (go_keep) (fail)
              all_goals exact ⟨rfl, rfl, rfl⟩
            go_upto_region 9 with fail
            go_region
            go_wp2_with fail
            go_roundw
            case rel =>
              refine ⟨x :: la, lb, acc, HA.out, isSl_tail' HB.out, ?_, ?_, ?_, ?_⟩
              · exact own_ext HO.out (by (exact Ext.of_below (by (repeat' (first | (with_reducible exact Below.refl _ _) | (with_reducible assumption) | (with_reducible refine Below.alloc ?_ ?_ _) | (with_reducible refine Below.wext ?_ ?_ _ _) | (with_reducible refine Below.drew ?_) | (with_reducible refine Below.setCell ?_ ?_ _) | (with_reducible exact Nat.le_refl _) | (with_reducible refine Below.drewN' ?_ _) | (simp; omega) | (simp; done))))))
              · exact HW.out.trans (below_le hs (Ext.below (by (exact Ext.of_below (by (repeat' (first | (with_reducible exact Below.refl _ _) | (with_reducible assumption) | (with_reducible refine Below.alloc ?_ ?_ _) | (with_reducible refine Below.wext ?_ ?_ _ _) | (with_reducible refine Below.drew ?_) | (with_reducible refine Below.setCell ?_ ?_ _) | (with_reducible exact Nat.le_refl _) | (with_reducible refine Below.drewN' ?_ _) | (simp; omega) | (simp; done))))))))
              · have e := HE.out
                have a := HFT.out
                have b := HXY.out
                rw [if_neg a, if_neg b] at e
                simpa using e
              · simp only [List.length_cons, List.length_append, List.length_nil] at hN ⊢
                omega
            case measure => simp [lenOf]

end Go.Proofs.Ytlboakmiopnifaa
