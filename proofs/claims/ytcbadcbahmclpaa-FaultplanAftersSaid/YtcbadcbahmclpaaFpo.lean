/- Layer 26: After of the reference. -/
import Derived.Test.YtcbadcbahmclpaaFpn
import Derived.Test.YtcbadcbahmclpaaFpe
set_option linter.unusedSimpArgs false
set_option linter.unusedVariables false
namespace Go.Proofs.Ytcbadcbahmclpaa
open Go.RowKit

theorem pt_of {c : FC} (h : chkF c = 0) (ha : (planF c).a = 10 ∨ (planF c).a = 3) : (bits .and .i64 c.pt 2 != 0) = (c.pt == 3) := by
  have hr : c.rg = true := by
    cases hr : c.rg
    · exfalso
      have : (planF c).a = 1 := by unfold planF; rw [if_pos h]; simp [rulesF, firstF, hr]
      omega
    · rfl
  rcases (fits_of h hr).pt with e | e <;> rw [e] <;> decide

set_option maxHeartbeats 4000000 in
theorem rafter_err (hP : PlanOK 14) (c : FC) (h : ¬ chkF c = 0) (w : World) :
    Calls Try.prog 16 #[.agg #[.bool c.wr, .bool c.rg, .int .i64 c.pt, .bool c.sh, .bool c.fl, .bool c.bh, .bool c.bz, .int .i64 c.en, .bool c.wb, .bool c.tr, .bool c.ow, .bool c.on, .bool c.ca, .bool c.bk, .bool c.di, .bool c.fu, .int .i64 c.mi]] w fun e w' => e = .returned (.tuple #[.agg #[.bool FC.zero.wr, .bool FC.zero.rg, .int .i64 FC.zero.pt, .bool FC.zero.sh, .bool FC.zero.fl, .bool FC.zero.bh, .bool FC.zero.bz, .int .i64 FC.zero.en, .bool FC.zero.wb, .bool FC.zero.tr, .bool FC.zero.ow, .bool FC.zero.on, .bool FC.zero.ca, .bool FC.zero.bk, .bool FC.zero.di, .bool FC.zero.fu, .int .i64 FC.zero.mi], .bool false, .int .i64 (chkF c)]) ∧ Ext w w' := by
  have e1 : (chkF c != 0) = true := by simp [h]
  clear h
  go_enter Try.func16, Try.ntmps16
  go_wp2_with (first | (refine wpList_load_mid rfl 23 _ rfl w.heap.size 0 rfl (caseL c) _ ((case_new w c).range (by (exact Ext.of_below (by (repeat' (first | (with_reducible exact Below.refl _ _) | (with_reducible assumption) | (with_reducible refine Below.alloc ?_ ?_ _) | (with_reducible refine Below.wext ?_ ?_ _ _) | (with_reducible refine Below.drew ?_) | (with_reducible refine Below.setCell ?_ ?_ _) | (with_reducible exact Nat.le_refl _) | (with_reducible refine Below.drewN' ?_ _) | (simp; omega) | (simp; done))))))) Try.underlying23 rfl Try.info_fc ?_; simp only [caseL]) | (go_at_call 14; refine (hP _ _).mono ?_; rintro e w1 ⟨rfl, os1, n1, rfl⟩))
  · refine bodyPost_ret (results_c3 (cs := caseL FC.zero) rfl _ _ _ rfl ?_ Try.underlying23 rfl Try.info_fc) rfl ?_
    rotate_left
    · refine ⟨rfl, by (exact Ext.of_below (by (repeat' (first | (with_reducible exact Below.refl _ _) | (with_reducible assumption) | (with_reducible refine Below.alloc ?_ ?_ _) | (with_reducible refine Below.wext ?_ ?_ _ _) | (with_reducible refine Below.drew ?_) | (with_reducible refine Below.setCell ?_ ?_ _) | (with_reducible exact Nat.le_refl _) | (with_reducible refine Below.drewN' ?_ _) | (simp; omega) | (simp; done)))))⟩
    · exact R_alloc (R_wext (R_newAt (by simp) rfl) _ _) _

set_option maxRecDepth 100000 in
set_option maxHeartbeats 40000000 in
theorem rafter_ok (hP : PlanOK 14) (c : FC) (h : chkF c = 0) (w : World) :
    Calls Try.prog 16 #[.agg #[.bool c.wr, .bool c.rg, .int .i64 c.pt, .bool c.sh, .bool c.fl, .bool c.bh, .bool c.bz, .int .i64 c.en, .bool c.wb, .bool c.tr, .bool c.ow, .bool c.on, .bool c.ca, .bool c.bk, .bool c.di, .bool c.fu, .int .i64 c.mi]] w fun e w' => e = .returned (.tuple #[.agg #[.bool (aftF c).wr, .bool (aftF c).rg, .int .i64 (aftF c).pt, .bool (aftF c).sh, .bool (aftF c).fl, .bool (aftF c).bh, .bool (aftF c).bz, .int .i64 (aftF c).en, .bool (aftF c).wb, .bool (aftF c).tr, .bool (aftF c).ow, .bool (aftF c).on, .bool (aftF c).ca, .bool (aftF c).bk, .bool (aftF c).di, .bool (aftF c).fu, .int .i64 (aftF c).mi], .bool (doneF c), .int .i64 (chkF c)]) ∧ Ext w w' := by
  have e1 : (chkF c != 0) = false := by simp [h]
  have HC : Hid (chkF c = 0) := h
  clear h
  go_enter Try.func16, Try.ntmps16
  go_upto_region 4 with (first | (refine wpList_load_mid rfl 23 _ rfl w.heap.size 0 rfl (caseL c) _ ((case_new w c).range (by (exact Ext.of_below (by (repeat' (first | (with_reducible exact Below.refl _ _) | (with_reducible assumption) | (with_reducible refine Below.alloc ?_ ?_ _) | (with_reducible refine Below.wext ?_ ?_ _ _) | (with_reducible refine Below.drew ?_) | (with_reducible refine Below.setCell ?_ ?_ _) | (with_reducible exact Nat.le_refl _) | (with_reducible refine Below.drewN' ?_ _) | (simp; omega) | (simp; done))))))) Try.underlying23 rfl Try.info_fc ?_; simp only [caseL]) | (go_at_call 14; refine (hP _ _).mono ?_; rintro e w1 ⟨rfl, os1, n1, rfl⟩))
  refine name_world (fun Y hY => ?_)
  have H : Hid (caseAt Y w.heap.size c) := (case_new w c).ext (by rw [hY]; (exact Ext.of_below (by (repeat' (first | (with_reducible exact Below.refl _ _) | (with_reducible assumption) | (with_reducible refine Below.alloc ?_ ?_ _) | (with_reducible refine Below.wext ?_ ?_ _ _) | (with_reducible refine Below.drew ?_) | (with_reducible refine Below.setCell ?_ ?_ _) | (with_reducible exact Nat.le_refl _) | (with_reducible refine Below.drewN' ?_ _) | (simp; omega) | (simp; done))))))
  have T1' : Hid (Y.there w.heap.size 0 17) := by show Y.there _ _ _; rw [hY]; exact T_alloc (T_wext (T_alloc (T_new _ _ _ rfl) _) _ _) _
  have T2' : Hid (Y.there (w.heap.size + 1) 0 17) := by show Y.there _ _ _; rw [hY]; exact T_alloc (T_wext (T_newAt (by simp) rfl) _ _) _
  have R5' : Hid (Y.rangeAt (w.heap.size + 1 + 1 + os1.size) 0 [.int .i64 (planF c).a, .int .i64 (planF c).e, .int .i64 (planF c).w, .int .i64 (planF c).k, .int .i64 (planF c).u]) := by show Y.rangeAt _ _ _; rw [hY]; exact R_newAt (by simp) rfl
  have HE : Hid (Ext w Y) := by show Ext w Y; rw [hY]; (exact Ext.of_below (by (repeat' (first | (with_reducible exact Below.refl _ _) | (with_reducible assumption) | (with_reducible refine Below.alloc ?_ ?_ _) | (with_reducible refine Below.wext ?_ ?_ _ _) | (with_reducible refine Below.drew ?_) | (with_reducible refine Below.setCell ?_ ?_ _) | (with_reducible exact Nat.le_refl _) | (with_reducible refine Below.drewN' ?_ _) | (simp; omega) | (simp; done)))))
  clear hY
  have HB : Hid (Below w.heap.size w Y) := HE.out.below
  have y1 : LtD w.heap.size Y.heap.size := H.out.1
  have y5 : LtD (w.heap.size + 1 + 1 + os1.size) Y.heap.size := World.block_lt_of_cell? _ _ (R5'.out 0 _ rfl)
  have k50 : Y.cell? ⟨w.heap.size + 1 + 1 + os1.size, 0, none⟩ = some (.int .i64 (planF c).a) := by simpa using R5'.out 0 _ rfl
  have k52 : Y.cell? ⟨w.heap.size + 1 + 1 + os1.size, 2, none⟩ = some (.int .i64 (planF c).w) := by simpa using R5'.out 2 _ rfl
  have hA := aft_ok HC.out
  rcases act_cases HC.out with hA0 | hA0 | ⟨hA0, hW0⟩ | ⟨hA0, hW0⟩ | ⟨hA0, hW0⟩ | hA0 | hA0 | hA0 | hA0 | hA0 | hA0 | hA0 | hA0 | hA0
  all_goals (rw [hA0] at hA k50; (try rw [hW0] at hA k52))
  all_goals replace hA : Hid _ := hA
  · go_upto_region 8 with (first | fail)
    refine name_world (fun Z hZ => ?_)
    have Z1 : Z.rangeAt w.heap.size 0 (caseL c) := by rw [hZ]; exact (H.out.range (Ext.refl _))
    have Z2 : Z.there (w.heap.size + 1) 0 17 := by rw [hZ]; exact T2'.out
    have HZ : Hid (Below w.heap.size w Z) := by
      have hbl := HB.out
      have y1' : w.heap.size ≤ Y.heap.size := Nat.le_of_lt y1
      show Below _ _ _
      rw [hZ]
      (repeat' (first | (with_reducible exact Below.refl _ _) | (with_reducible assumption) | (with_reducible refine Below.alloc ?_ ?_ _) | (with_reducible refine Below.wext ?_ ?_ _ _) | (with_reducible refine Below.drew ?_) | (with_reducible refine Below.setCell ?_ ?_ _) | (with_reducible exact Nat.le_refl _) | (with_reducible refine Below.drewN' ?_ _) | (simp; omega) | (simp; done)))
    clear hZ
    have hAc : aftF c = c := by rw [hA.out]; simp [stepF]
    have Z1a : Z.rangeAt w.heap.size 0 (caseL (aftF c)) := by rw [hAc]; exact Z1
    clear hAc Z1
    refine wp_region_lit ?_
    refine wpList_load_mid rfl 23 _ rfl w.heap.size 0 rfl (caseL (aftF c)) _ Z1a Try.underlying23 rfl Try.info_fc ?_
    simp only [Act.put, List.setIfInBounds_toArray, List.set_cons_zero, List.set_cons_succ]
    refine wpList_store_mid rfl 23 _ _ rfl (w.heap.size + 1) 0 (caseL (aftF c)).toArray rfl rfl Z2 Try.info_fc (one_fc _) ?_
    simp only [Act.put, List.setIfInBounds_toArray, List.set_cons_zero, List.set_cons_succ]
    have V2 : Hid ((Z.setCells (w.heap.size + 1) 0 (caseL (aftF c)).toArray.toList).rangeAt (w.heap.size + 1) 0 (caseL (aftF c))) := World.rangeAt_setCells_same _ _ _ _ Z2
    have HV : Hid (Below w.heap.size w (Z.setCells (w.heap.size + 1) 0 (caseL (aftF c)).toArray.toList)) := Below.setCells' _ (by omega) _ _ _ HZ.out
    clear HZ Z2 Z1a
    generalize hVV : Z.setCells (w.heap.size + 1) 0 (caseL (aftF c)).toArray.toList = V at V2 HV ⊢
    clear hVV
    go_wp2
    refine bodyPost_ret (results_c3 (cs := caseL (aftF c)) rfl _ _ _ rfl V2.out Try.underlying23 rfl Try.info_fc) rfl ?_
    refine ⟨?_, Ext.of_below HV.out⟩
    have hD : doneF c = true := done_in HC.out (by omega)
    show _ = Ending.returned (.tuple #[.agg (caseL (aftF c)).toArray, .bool (doneF c), .int .i64 (chkF c)])
    rw [hD, HC.out]; rfl
  · go_upto_region 8 with (first | fail)
    refine name_world (fun Z hZ => ?_)
    have Z1 : Z.rangeAt w.heap.size 0 (caseL c) := by rw [hZ]; exact (H.out.range (Ext.refl _))
    have Z2 : Z.there (w.heap.size + 1) 0 17 := by rw [hZ]; exact T2'.out
    have HZ : Hid (Below w.heap.size w Z) := by
      have hbl := HB.out
      have y1' : w.heap.size ≤ Y.heap.size := Nat.le_of_lt y1
      show Below _ _ _
      rw [hZ]
      (repeat' (first | (with_reducible exact Below.refl _ _) | (with_reducible assumption) | (with_reducible refine Below.alloc ?_ ?_ _) | (with_reducible refine Below.wext ?_ ?_ _ _) | (with_reducible refine Below.drew ?_) | (with_reducible refine Below.setCell ?_ ?_ _) | (with_reducible exact Nat.le_refl _) | (with_reducible refine Below.drewN' ?_ _) | (simp; omega) | (simp; done)))
    clear hZ
    have hAc : aftF c = c := by rw [hA.out]; simp [stepF]
    have Z1a : Z.rangeAt w.heap.size 0 (caseL (aftF c)) := by rw [hAc]; exact Z1
    clear hAc Z1
    refine wp_region_lit ?_
    refine wpList_load_mid rfl 23 _ rfl w.heap.size 0 rfl (caseL (aftF c)) _ Z1a Try.underlying23 rfl Try.info_fc ?_
    simp only [Act.put, List.setIfInBounds_toArray, List.set_cons_zero, List.set_cons_succ]
    refine wpList_store_mid rfl 23 _ _ rfl (w.heap.size + 1) 0 (caseL (aftF c)).toArray rfl rfl Z2 Try.info_fc (one_fc _) ?_
    simp only [Act.put, List.setIfInBounds_toArray, List.set_cons_zero, List.set_cons_succ]
    have V2 : Hid ((Z.setCells (w.heap.size + 1) 0 (caseL (aftF c)).toArray.toList).rangeAt (w.heap.size + 1) 0 (caseL (aftF c))) := World.rangeAt_setCells_same _ _ _ _ Z2
    have HV : Hid (Below w.heap.size w (Z.setCells (w.heap.size + 1) 0 (caseL (aftF c)).toArray.toList)) := Below.setCells' _ (by omega) _ _ _ HZ.out
    clear HZ Z2 Z1a
    generalize hVV : Z.setCells (w.heap.size + 1) 0 (caseL (aftF c)).toArray.toList = V at V2 HV ⊢
    clear hVV
    go_wp2
    refine bodyPost_ret (results_c3 (cs := caseL (aftF c)) rfl _ _ _ rfl V2.out Try.underlying23 rfl Try.info_fc) rfl ?_
    refine ⟨?_, Ext.of_below HV.out⟩
    have hD : doneF c = true := done_in HC.out (by omega)
    show _ = Ending.returned (.tuple #[.agg (caseL (aftF c)).toArray, .bool (doneF c), .int .i64 (chkF c)])
    rw [hD, HC.out]; rfl
  · have k6 : Y.cell? ⟨w.heap.size, 6, none⟩ = some (.bool (c.bz)) := H.out.2 6 (by omega)
    have f6 : Y.frozen? ⟨w.heap.size, 6, none⟩ = false := by simpa using (T1'.out 6 (by omega)).2
    go_upto_region 23 with (first | (go_at_call 27; refine (rwaited4 _ c _ H.out T1'.out).mono ?_; rintro e w1 ⟨rfl, os2, n2, rfl⟩))
    refine name_world (fun Z hZ => ?_)
    have Z1 : Z.rangeAt w.heap.size 0 (caseL { c with bz := false }) := by rw [hZ]; exact (R_wext (R_set (H.out.range (Ext.refl _)) (by simp [caseL])) _ _)
    have Z2 : Z.there (w.heap.size + 1) 0 17 := by rw [hZ]; exact (T_wext (T_set T2'.out) _ _)
    have HZ : Hid (Below w.heap.size w Z) := by
      have hbl := HB.out
      have y1' : w.heap.size ≤ Y.heap.size := Nat.le_of_lt y1
      show Below _ _ _
      rw [hZ]
      (repeat' (first | (with_reducible exact Below.refl _ _) | (with_reducible assumption) | (with_reducible refine Below.alloc ?_ ?_ _) | (with_reducible refine Below.wext ?_ ?_ _ _) | (with_reducible refine Below.drew ?_) | (with_reducible refine Below.setCell ?_ ?_ _) | (with_reducible exact Nat.le_refl _) | (with_reducible refine Below.drewN' ?_ _) | (simp; omega) | (simp; done)))
    clear hZ
    have hAc : aftF c = { c with bz := false } := by rw [hA.out]; simp [stepF]
    have Z1a : Z.rangeAt w.heap.size 0 (caseL (aftF c)) := by rw [hAc]; exact Z1
    clear hAc Z1
    refine wp_region_lit ?_
    refine wpList_load_mid rfl 23 _ rfl w.heap.size 0 rfl (caseL (aftF c)) _ Z1a Try.underlying23 rfl Try.info_fc ?_
    simp only [Act.put, List.setIfInBounds_toArray, List.set_cons_zero, List.set_cons_succ]
    refine wpList_store_mid rfl 23 _ _ rfl (w.heap.size + 1) 0 (caseL (aftF c)).toArray rfl rfl Z2 Try.info_fc (one_fc _) ?_
    simp only [Act.put, List.setIfInBounds_toArray, List.set_cons_zero, List.set_cons_succ]
    have V2 : Hid ((Z.setCells (w.heap.size + 1) 0 (caseL (aftF c)).toArray.toList).rangeAt (w.heap.size + 1) 0 (caseL (aftF c))) := World.rangeAt_setCells_same _ _ _ _ Z2
    have HV : Hid (Below w.heap.size w (Z.setCells (w.heap.size + 1) 0 (caseL (aftF c)).toArray.toList)) := Below.setCells' _ (by omega) _ _ _ HZ.out
    clear HZ Z2 Z1a
    generalize hVV : Z.setCells (w.heap.size + 1) 0 (caseL (aftF c)).toArray.toList = V at V2 HV ⊢
    clear hVV
    go_wp2
    refine bodyPost_ret (results_c3 (cs := caseL (aftF c)) rfl _ _ _ rfl V2.out Try.underlying23 rfl Try.info_fc) rfl ?_
    refine ⟨?_, Ext.of_below HV.out⟩
    have hD : doneF c = false := done_no (by omega)
    show _ = Ending.returned (.tuple #[.agg (caseL (aftF c)).toArray, .bool (doneF c), .int .i64 (chkF c)])
    rw [hD, HC.out]; rfl
  · have k15 : Y.cell? ⟨w.heap.size, 15, none⟩ = some (.bool (c.fu)) := H.out.2 15 (by omega)
    have f15 : Y.frozen? ⟨w.heap.size, 15, none⟩ = false := by simpa using (T1'.out 15 (by omega)).2
    go_upto_region 23 with (first | (go_at_call 27; refine (rwaited5 _ c _ H.out T1'.out).mono ?_; rintro e w1 ⟨rfl, os2, n2, rfl⟩))
    refine name_world (fun Z hZ => ?_)
    have Z1 : Z.rangeAt w.heap.size 0 (caseL { c with fu := false }) := by rw [hZ]; exact (R_wext (R_set (H.out.range (Ext.refl _)) (by simp [caseL])) _ _)
    have Z2 : Z.there (w.heap.size + 1) 0 17 := by rw [hZ]; exact (T_wext (T_set T2'.out) _ _)
    have HZ : Hid (Below w.heap.size w Z) := by
      have hbl := HB.out
      have y1' : w.heap.size ≤ Y.heap.size := Nat.le_of_lt y1
      show Below _ _ _
      rw [hZ]
      (repeat' (first | (with_reducible exact Below.refl _ _) | (with_reducible assumption) | (with_reducible refine Below.alloc ?_ ?_ _) | (with_reducible refine Below.wext ?_ ?_ _ _) | (with_reducible refine Below.drew ?_) | (with_reducible refine Below.setCell ?_ ?_ _) | (with_reducible exact Nat.le_refl _) | (with_reducible refine Below.drewN' ?_ _) | (simp; omega) | (simp; done)))
    clear hZ
    have hAc : aftF c = { c with fu := false } := by rw [hA.out]; simp [stepF]
    have Z1a : Z.rangeAt w.heap.size 0 (caseL (aftF c)) := by rw [hAc]; exact Z1
    clear hAc Z1
    refine wp_region_lit ?_
    refine wpList_load_mid rfl 23 _ rfl w.heap.size 0 rfl (caseL (aftF c)) _ Z1a Try.underlying23 rfl Try.info_fc ?_
    simp only [Act.put, List.setIfInBounds_toArray, List.set_cons_zero, List.set_cons_succ]
    refine wpList_store_mid rfl 23 _ _ rfl (w.heap.size + 1) 0 (caseL (aftF c)).toArray rfl rfl Z2 Try.info_fc (one_fc _) ?_
    simp only [Act.put, List.setIfInBounds_toArray, List.set_cons_zero, List.set_cons_succ]
    have V2 : Hid ((Z.setCells (w.heap.size + 1) 0 (caseL (aftF c)).toArray.toList).rangeAt (w.heap.size + 1) 0 (caseL (aftF c))) := World.rangeAt_setCells_same _ _ _ _ Z2
    have HV : Hid (Below w.heap.size w (Z.setCells (w.heap.size + 1) 0 (caseL (aftF c)).toArray.toList)) := Below.setCells' _ (by omega) _ _ _ HZ.out
    clear HZ Z2 Z1a
    generalize hVV : Z.setCells (w.heap.size + 1) 0 (caseL (aftF c)).toArray.toList = V at V2 HV ⊢
    clear hVV
    go_wp2
    refine bodyPost_ret (results_c3 (cs := caseL (aftF c)) rfl _ _ _ rfl V2.out Try.underlying23 rfl Try.info_fc) rfl ?_
    refine ⟨?_, Ext.of_below HV.out⟩
    have hD : doneF c = false := done_no (by omega)
    show _ = Ending.returned (.tuple #[.agg (caseL (aftF c)).toArray, .bool (doneF c), .int .i64 (chkF c)])
    rw [hD, HC.out]; rfl
  · by_cases he : c.en = 3
    · have k7 : Y.cell? ⟨w.heap.size, 7, none⟩ = some (.int .i64 c.en) := H.out.2 7 (by omega)
      have k9 : Y.cell? ⟨w.heap.size, 9, none⟩ = some (.bool (c.tr)) := H.out.2 9 (by omega)
      have f7 : Y.frozen? ⟨w.heap.size, 7, none⟩ = false := by simpa using (T1'.out 7 (by omega)).2
      have f9 : Y.frozen? ⟨w.heap.size, 9, none⟩ = false := by simpa using (T1'.out 9 (by omega)).2
      go_upto_region 23 with (first | (go_at_call 27; refine (rwaited3a _ c _ H.out T1'.out he).mono ?_; rintro e w1 ⟨rfl, os2, n2, rfl⟩))
      refine name_world (fun Z hZ => ?_)
      have Z1 : Z.rangeAt w.heap.size 0 (caseL { c with tr := false, en := 1 }) := by rw [hZ]; exact (R_wext (R_set (R_set (H.out.range (Ext.refl _)) (by simp [caseL])) (by simp [caseL])) _ _)
      have Z2 : Z.there (w.heap.size + 1) 0 17 := by rw [hZ]; exact (T_wext (T_set (T_set T2'.out)) _ _)
      have HZ : Hid (Below w.heap.size w Z) := by
        have hbl := HB.out
        have y1' : w.heap.size ≤ Y.heap.size := Nat.le_of_lt y1
        show Below _ _ _
        rw [hZ]
        (repeat' (first | (with_reducible exact Below.refl _ _) | (with_reducible assumption) | (with_reducible refine Below.alloc ?_ ?_ _) | (with_reducible refine Below.wext ?_ ?_ _ _) | (with_reducible refine Below.drew ?_) | (with_reducible refine Below.setCell ?_ ?_ _) | (with_reducible exact Nat.le_refl _) | (with_reducible refine Below.drewN' ?_ _) | (simp; omega) | (simp; done)))
      clear hZ
      have hAc : aftF c = { c with tr := false, en := 1 } := by rw [hA.out]; simp [stepF, he]
      have Z1a : Z.rangeAt w.heap.size 0 (caseL (aftF c)) := by rw [hAc]; exact Z1
      clear hAc Z1
      refine wp_region_lit ?_
      refine wpList_load_mid rfl 23 _ rfl w.heap.size 0 rfl (caseL (aftF c)) _ Z1a Try.underlying23 rfl Try.info_fc ?_
      simp only [Act.put, List.setIfInBounds_toArray, List.set_cons_zero, List.set_cons_succ]
      refine wpList_store_mid rfl 23 _ _ rfl (w.heap.size + 1) 0 (caseL (aftF c)).toArray rfl rfl Z2 Try.info_fc (one_fc _) ?_
      simp only [Act.put, List.setIfInBounds_toArray, List.set_cons_zero, List.set_cons_succ]
      have V2 : Hid ((Z.setCells (w.heap.size + 1) 0 (caseL (aftF c)).toArray.toList).rangeAt (w.heap.size + 1) 0 (caseL (aftF c))) := World.rangeAt_setCells_same _ _ _ _ Z2
      have HV : Hid (Below w.heap.size w (Z.setCells (w.heap.size + 1) 0 (caseL (aftF c)).toArray.toList)) := Below.setCells' _ (by omega) _ _ _ HZ.out
      clear HZ Z2 Z1a
      generalize hVV : Z.setCells (w.heap.size + 1) 0 (caseL (aftF c)).toArray.toList = V at V2 HV ⊢
      clear hVV
      go_wp2
      refine bodyPost_ret (results_c3 (cs := caseL (aftF c)) rfl _ _ _ rfl V2.out Try.underlying23 rfl Try.info_fc) rfl ?_
      refine ⟨?_, Ext.of_below HV.out⟩
      have hD : doneF c = false := done_no (by omega)
      show _ = Ending.returned (.tuple #[.agg (caseL (aftF c)).toArray, .bool (doneF c), .int .i64 (chkF c)])
      rw [hD, HC.out]; rfl
    · have k9 : Y.cell? ⟨w.heap.size, 9, none⟩ = some (.bool (c.tr)) := H.out.2 9 (by omega)
      have f9 : Y.frozen? ⟨w.heap.size, 9, none⟩ = false := by simpa using (T1'.out 9 (by omega)).2
      go_upto_region 23 with (first | (go_at_call 27; refine (rwaited3b _ c _ H.out T1'.out he).mono ?_; rintro e w1 ⟨rfl, os2, n2, rfl⟩))
      refine name_world (fun Z hZ => ?_)
      have Z1 : Z.rangeAt w.heap.size 0 (caseL { c with tr := false }) := by rw [hZ]; exact (R_wext (R_set (H.out.range (Ext.refl _)) (by simp [caseL])) _ _)
      have Z2 : Z.there (w.heap.size + 1) 0 17 := by rw [hZ]; exact (T_wext (T_set T2'.out) _ _)
      have HZ : Hid (Below w.heap.size w Z) := by
        have hbl := HB.out
        have y1' : w.heap.size ≤ Y.heap.size := Nat.le_of_lt y1
        show Below _ _ _
        rw [hZ]
        (repeat' (first | (with_reducible exact Below.refl _ _) | (with_reducible assumption) | (with_reducible refine Below.alloc ?_ ?_ _) | (with_reducible refine Below.wext ?_ ?_ _ _) | (with_reducible refine Below.drew ?_) | (with_reducible refine Below.setCell ?_ ?_ _) | (with_reducible exact Nat.le_refl _) | (with_reducible refine Below.drewN' ?_ _) | (simp; omega) | (simp; done)))
      clear hZ
      have hAc : aftF c = { c with tr := false } := by rw [hA.out]; simp [stepF, he]
      have Z1a : Z.rangeAt w.heap.size 0 (caseL (aftF c)) := by rw [hAc]; exact Z1
      clear hAc Z1
      refine wp_region_lit ?_
      refine wpList_load_mid rfl 23 _ rfl w.heap.size 0 rfl (caseL (aftF c)) _ Z1a Try.underlying23 rfl Try.info_fc ?_
      simp only [Act.put, List.setIfInBounds_toArray, List.set_cons_zero, List.set_cons_succ]
      refine wpList_store_mid rfl 23 _ _ rfl (w.heap.size + 1) 0 (caseL (aftF c)).toArray rfl rfl Z2 Try.info_fc (one_fc _) ?_
      simp only [Act.put, List.setIfInBounds_toArray, List.set_cons_zero, List.set_cons_succ]
      have V2 : Hid ((Z.setCells (w.heap.size + 1) 0 (caseL (aftF c)).toArray.toList).rangeAt (w.heap.size + 1) 0 (caseL (aftF c))) := World.rangeAt_setCells_same _ _ _ _ Z2
      have HV : Hid (Below w.heap.size w (Z.setCells (w.heap.size + 1) 0 (caseL (aftF c)).toArray.toList)) := Below.setCells' _ (by omega) _ _ _ HZ.out
      clear HZ Z2 Z1a
      generalize hVV : Z.setCells (w.heap.size + 1) 0 (caseL (aftF c)).toArray.toList = V at V2 HV ⊢
      clear hVV
      go_wp2
      refine bodyPost_ret (results_c3 (cs := caseL (aftF c)) rfl _ _ _ rfl V2.out Try.underlying23 rfl Try.info_fc) rfl ?_
      refine ⟨?_, Ext.of_below HV.out⟩
      have hD : doneF c = false := done_no (by omega)
      show _ = Ending.returned (.tuple #[.agg (caseL (aftF c)).toArray, .bool (doneF c), .int .i64 (chkF c)])
      rw [hD, HC.out]; rfl
  · have k8 : Y.cell? ⟨w.heap.size, 8, none⟩ = some (.bool (c.wb)) := H.out.2 8 (by omega)
    have f8 : Y.frozen? ⟨w.heap.size, 8, none⟩ = false := by simpa using (T1'.out 8 (by omega)).2
    go_upto_region 23 with (first | fail)
    refine name_world (fun Z hZ => ?_)
    have Z1 : Z.rangeAt w.heap.size 0 (caseL { c with wb := true }) := by rw [hZ]; exact (R_set (H.out.range (Ext.refl _)) (by simp [caseL]))
    have Z2 : Z.there (w.heap.size + 1) 0 17 := by rw [hZ]; exact (T_set T2'.out)
    have HZ : Hid (Below w.heap.size w Z) := by
      have hbl := HB.out
      have y1' : w.heap.size ≤ Y.heap.size := Nat.le_of_lt y1
      show Below _ _ _
      rw [hZ]
      (repeat' (first | (with_reducible exact Below.refl _ _) | (with_reducible assumption) | (with_reducible refine Below.alloc ?_ ?_ _) | (with_reducible refine Below.wext ?_ ?_ _ _) | (with_reducible refine Below.drew ?_) | (with_reducible refine Below.setCell ?_ ?_ _) | (with_reducible exact Nat.le_refl _) | (with_reducible refine Below.drewN' ?_ _) | (simp; omega) | (simp; done)))
    clear hZ
    have hAc : aftF c = { c with wb := true } := by rw [hA.out]; simp [stepF]
    have Z1a : Z.rangeAt w.heap.size 0 (caseL (aftF c)) := by rw [hAc]; exact Z1
    clear hAc Z1
    refine wp_region_lit ?_
    refine wpList_load_mid rfl 23 _ rfl w.heap.size 0 rfl (caseL (aftF c)) _ Z1a Try.underlying23 rfl Try.info_fc ?_
    simp only [Act.put, List.setIfInBounds_toArray, List.set_cons_zero, List.set_cons_succ]
    refine wpList_store_mid rfl 23 _ _ rfl (w.heap.size + 1) 0 (caseL (aftF c)).toArray rfl rfl Z2 Try.info_fc (one_fc _) ?_
    simp only [Act.put, List.setIfInBounds_toArray, List.set_cons_zero, List.set_cons_succ]
    have V2 : Hid ((Z.setCells (w.heap.size + 1) 0 (caseL (aftF c)).toArray.toList).rangeAt (w.heap.size + 1) 0 (caseL (aftF c))) := World.rangeAt_setCells_same _ _ _ _ Z2
    have HV : Hid (Below w.heap.size w (Z.setCells (w.heap.size + 1) 0 (caseL (aftF c)).toArray.toList)) := Below.setCells' _ (by omega) _ _ _ HZ.out
    clear HZ Z2 Z1a
    generalize hVV : Z.setCells (w.heap.size + 1) 0 (caseL (aftF c)).toArray.toList = V at V2 HV ⊢
    clear hVV
    go_wp2
    refine bodyPost_ret (results_c3 (cs := caseL (aftF c)) rfl _ _ _ rfl V2.out Try.underlying23 rfl Try.info_fc) rfl ?_
    refine ⟨?_, Ext.of_below HV.out⟩
    have hD : doneF c = false := done_no (by omega)
    show _ = Ending.returned (.tuple #[.agg (caseL (aftF c)).toArray, .bool (doneF c), .int .i64 (chkF c)])
    rw [hD, HC.out]; rfl
  · have k8 : Y.cell? ⟨w.heap.size, 8, none⟩ = some (.bool (c.wb)) := H.out.2 8 (by omega)
    have k14 : Y.cell? ⟨w.heap.size, 14, none⟩ = some (.bool (c.di)) := H.out.2 14 (by omega)
    have f8 : Y.frozen? ⟨w.heap.size, 8, none⟩ = false := by simpa using (T1'.out 8 (by omega)).2
    have f14 : Y.frozen? ⟨w.heap.size, 14, none⟩ = false := by simpa using (T1'.out 14 (by omega)).2
    go_upto_region 23 with (first | fail)
    refine name_world (fun Z hZ => ?_)
    have Z1 : Z.rangeAt w.heap.size 0 (caseL { c with di := true, wb := true }) := by rw [hZ]; exact (R_set (R_set (H.out.range (Ext.refl _)) (by simp [caseL])) (by simp [caseL]))
    have Z2 : Z.there (w.heap.size + 1) 0 17 := by rw [hZ]; exact (T_set (T_set T2'.out))
    have HZ : Hid (Below w.heap.size w Z) := by
      have hbl := HB.out
      have y1' : w.heap.size ≤ Y.heap.size := Nat.le_of_lt y1
      show Below _ _ _
      rw [hZ]
      (repeat' (first | (with_reducible exact Below.refl _ _) | (with_reducible assumption) | (with_reducible refine Below.alloc ?_ ?_ _) | (with_reducible refine Below.wext ?_ ?_ _ _) | (with_reducible refine Below.drew ?_) | (with_reducible refine Below.setCell ?_ ?_ _) | (with_reducible exact Nat.le_refl _) | (with_reducible refine Below.drewN' ?_ _) | (simp; omega) | (simp; done)))
    clear hZ
    have hAc : aftF c = { c with di := true, wb := true } := by rw [hA.out]; simp [stepF]
    have Z1a : Z.rangeAt w.heap.size 0 (caseL (aftF c)) := by rw [hAc]; exact Z1
    clear hAc Z1
    refine wp_region_lit ?_
    refine wpList_load_mid rfl 23 _ rfl w.heap.size 0 rfl (caseL (aftF c)) _ Z1a Try.underlying23 rfl Try.info_fc ?_
    simp only [Act.put, List.setIfInBounds_toArray, List.set_cons_zero, List.set_cons_succ]
    refine wpList_store_mid rfl 23 _ _ rfl (w.heap.size + 1) 0 (caseL (aftF c)).toArray rfl rfl Z2 Try.info_fc (one_fc _) ?_
    simp only [Act.put, List.setIfInBounds_toArray, List.set_cons_zero, List.set_cons_succ]
    have V2 : Hid ((Z.setCells (w.heap.size + 1) 0 (caseL (aftF c)).toArray.toList).rangeAt (w.heap.size + 1) 0 (caseL (aftF c))) := World.rangeAt_setCells_same _ _ _ _ Z2
    have HV : Hid (Below w.heap.size w (Z.setCells (w.heap.size + 1) 0 (caseL (aftF c)).toArray.toList)) := Below.setCells' _ (by omega) _ _ _ HZ.out
    clear HZ Z2 Z1a
    generalize hVV : Z.setCells (w.heap.size + 1) 0 (caseL (aftF c)).toArray.toList = V at V2 HV ⊢
    clear hVV
    go_wp2
    refine bodyPost_ret (results_c3 (cs := caseL (aftF c)) rfl _ _ _ rfl V2.out Try.underlying23 rfl Try.info_fc) rfl ?_
    refine ⟨?_, Ext.of_below HV.out⟩
    have hD : doneF c = false := done_no (by omega)
    show _ = Ending.returned (.tuple #[.agg (caseL (aftF c)).toArray, .bool (doneF c), .int .i64 (chkF c)])
    rw [hD, HC.out]; rfl
  · have k8 : Y.cell? ⟨w.heap.size, 8, none⟩ = some (.bool (c.wb)) := H.out.2 8 (by omega)
    have k10 : Y.cell? ⟨w.heap.size, 10, none⟩ = some (.bool (c.ow)) := H.out.2 10 (by omega)
    have k11 : Y.cell? ⟨w.heap.size, 11, none⟩ = some (.bool (c.on)) := H.out.2 11 (by omega)
    have f8 : Y.frozen? ⟨w.heap.size, 8, none⟩ = false := by simpa using (T1'.out 8 (by omega)).2
    have f10 : Y.frozen? ⟨w.heap.size, 10, none⟩ = false := by simpa using (T1'.out 10 (by omega)).2
    have f11 : Y.frozen? ⟨w.heap.size, 11, none⟩ = false := by simpa using (T1'.out 11 (by omega)).2
    go_upto_region 23 with (first | fail)
    refine name_world (fun Z hZ => ?_)
    have Z1 : Z.rangeAt w.heap.size 0 (caseL { c with ow := true, on := true, wb := true }) := by rw [hZ]; exact (R_set (R_set (R_set (H.out.range (Ext.refl _)) (by simp [caseL])) (by simp [caseL])) (by simp [caseL]))
    have Z2 : Z.there (w.heap.size + 1) 0 17 := by rw [hZ]; exact (T_set (T_set (T_set T2'.out)))
    have HZ : Hid (Below w.heap.size w Z) := by
      have hbl := HB.out
      have y1' : w.heap.size ≤ Y.heap.size := Nat.le_of_lt y1
      show Below _ _ _
      rw [hZ]
      (repeat' (first | (with_reducible exact Below.refl _ _) | (with_reducible assumption) | (with_reducible refine Below.alloc ?_ ?_ _) | (with_reducible refine Below.wext ?_ ?_ _ _) | (with_reducible refine Below.drew ?_) | (with_reducible refine Below.setCell ?_ ?_ _) | (with_reducible exact Nat.le_refl _) | (with_reducible refine Below.drewN' ?_ _) | (simp; omega) | (simp; done)))
    clear hZ
    have hAc : aftF c = { c with ow := true, on := true, wb := true } := by rw [hA.out]; simp [stepF]
    have Z1a : Z.rangeAt w.heap.size 0 (caseL (aftF c)) := by rw [hAc]; exact Z1
    clear hAc Z1
    refine wp_region_lit ?_
    refine wpList_load_mid rfl 23 _ rfl w.heap.size 0 rfl (caseL (aftF c)) _ Z1a Try.underlying23 rfl Try.info_fc ?_
    simp only [Act.put, List.setIfInBounds_toArray, List.set_cons_zero, List.set_cons_succ]
    refine wpList_store_mid rfl 23 _ _ rfl (w.heap.size + 1) 0 (caseL (aftF c)).toArray rfl rfl Z2 Try.info_fc (one_fc _) ?_
    simp only [Act.put, List.setIfInBounds_toArray, List.set_cons_zero, List.set_cons_succ]
    have V2 : Hid ((Z.setCells (w.heap.size + 1) 0 (caseL (aftF c)).toArray.toList).rangeAt (w.heap.size + 1) 0 (caseL (aftF c))) := World.rangeAt_setCells_same _ _ _ _ Z2
    have HV : Hid (Below w.heap.size w (Z.setCells (w.heap.size + 1) 0 (caseL (aftF c)).toArray.toList)) := Below.setCells' _ (by omega) _ _ _ HZ.out
    clear HZ Z2 Z1a
    generalize hVV : Z.setCells (w.heap.size + 1) 0 (caseL (aftF c)).toArray.toList = V at V2 HV ⊢
    clear hVV
    go_wp2
    refine bodyPost_ret (results_c3 (cs := caseL (aftF c)) rfl _ _ _ rfl V2.out Try.underlying23 rfl Try.info_fc) rfl ?_
    refine ⟨?_, Ext.of_below HV.out⟩
    have hD : doneF c = false := done_no (by omega)
    show _ = Ending.returned (.tuple #[.agg (caseL (aftF c)).toArray, .bool (doneF c), .int .i64 (chkF c)])
    rw [hD, HC.out]; rfl
  · cases hon : c.on
    · have k0 : Y.cell? ⟨w.heap.size, 0, none⟩ = some (.bool (c.wr)) := H.out.2 0 (by omega)
      have k1 : Y.cell? ⟨w.heap.size, 1, none⟩ = some (.bool (c.rg)) := H.out.2 1 (by omega)
      have k2 : Y.cell? ⟨w.heap.size, 2, none⟩ = some (.int .i64 c.pt) := H.out.2 2 (by omega)
      have k3 : Y.cell? ⟨w.heap.size, 3, none⟩ = some (.bool (c.sh)) := H.out.2 3 (by omega)
      have k4 : Y.cell? ⟨w.heap.size, 4, none⟩ = some (.bool (c.fl)) := H.out.2 4 (by omega)
      have k5 : Y.cell? ⟨w.heap.size, 5, none⟩ = some (.bool (c.bh)) := H.out.2 5 (by omega)
      have k6 : Y.cell? ⟨w.heap.size, 6, none⟩ = some (.bool (c.bz)) := H.out.2 6 (by omega)
      have k7 : Y.cell? ⟨w.heap.size, 7, none⟩ = some (.int .i64 c.en) := H.out.2 7 (by omega)
      have k8 : Y.cell? ⟨w.heap.size, 8, none⟩ = some (.bool (c.wb)) := H.out.2 8 (by omega)
      have k9 : Y.cell? ⟨w.heap.size, 9, none⟩ = some (.bool (c.tr)) := H.out.2 9 (by omega)
      have k10 : Y.cell? ⟨w.heap.size, 10, none⟩ = some (.bool (c.ow)) := H.out.2 10 (by omega)
      have k11 : Y.cell? ⟨w.heap.size, 11, none⟩ = some (.bool (c.on)) := H.out.2 11 (by omega)
      have k12 : Y.cell? ⟨w.heap.size, 12, none⟩ = some (.bool (c.ca)) := H.out.2 12 (by omega)
      have k13 : Y.cell? ⟨w.heap.size, 13, none⟩ = some (.bool (c.bk)) := H.out.2 13 (by omega)
      have k14 : Y.cell? ⟨w.heap.size, 14, none⟩ = some (.bool (c.di)) := H.out.2 14 (by omega)
      have k15 : Y.cell? ⟨w.heap.size, 15, none⟩ = some (.bool (c.fu)) := H.out.2 15 (by omega)
      have k16 : Y.cell? ⟨w.heap.size, 16, none⟩ = some (.int .i64 c.mi) := H.out.2 16 (by omega)
      have f7 : Y.frozen? ⟨w.heap.size, 7, none⟩ = false := by simpa using (T1'.out 7 (by omega)).2
      have f8 : Y.frozen? ⟨w.heap.size, 8, none⟩ = false := by simpa using (T1'.out 8 (by omega)).2
      have f11 : Y.frozen? ⟨w.heap.size, 11, none⟩ = false := by simpa using (T1'.out 11 (by omega)).2
      have f12 : Y.frozen? ⟨w.heap.size, 12, none⟩ = false := by simpa using (T1'.out 12 (by omega)).2
      have hb := pt_of HC.out (by omega)
      go_upto_region 23 with (first | (go_at_call 18; refine (writes17 _ _ _ _ _ _ _ _ _ _ _ _ _ _ _ _ _ _).mono ?_; rintro e w1 ⟨rfl, os1, n1, rfl⟩))
      refine name_world (fun Z hZ => ?_)
      have Z1 : Z.rangeAt w.heap.size 0 (caseL { c with en := 1, ca := false, wb := false }) := by rw [hZ]; exact (R_set (R_set (R_set (H.out.range (Ext.refl _)) (by simp [caseL])) (by simp [caseL])) (by simp [caseL]))
      have Z2 : Z.there (w.heap.size + 1) 0 17 := by rw [hZ]; exact (T_set (T_set (T_set T2'.out)))
      have HZ : Hid (Below w.heap.size w Z) := by
        have hbl := HB.out
        have y1' : w.heap.size ≤ Y.heap.size := Nat.le_of_lt y1
        show Below _ _ _
        rw [hZ]
        (repeat' (first | (with_reducible exact Below.refl _ _) | (with_reducible assumption) | (with_reducible refine Below.alloc ?_ ?_ _) | (with_reducible refine Below.wext ?_ ?_ _ _) | (with_reducible refine Below.drew ?_) | (with_reducible refine Below.setCell ?_ ?_ _) | (with_reducible exact Nat.le_refl _) | (with_reducible refine Below.drewN' ?_ _) | (simp; omega) | (simp; done)))
      clear hZ
      have hAc : aftF c = { c with en := 1, ca := false, wb := false } := by rw [hA.out]; simp [stepF, hb, hon]
      have Z1a : Z.rangeAt w.heap.size 0 (caseL (aftF c)) := by rw [hAc]; exact Z1
      clear hAc Z1
      refine wp_region_lit ?_
      refine wpList_load_mid rfl 23 _ rfl w.heap.size 0 rfl (caseL (aftF c)) _ Z1a Try.underlying23 rfl Try.info_fc ?_
      simp only [Act.put, List.setIfInBounds_toArray, List.set_cons_zero, List.set_cons_succ]
      refine wpList_store_mid rfl 23 _ _ rfl (w.heap.size + 1) 0 (caseL (aftF c)).toArray rfl rfl Z2 Try.info_fc (one_fc _) ?_
      simp only [Act.put, List.setIfInBounds_toArray, List.set_cons_zero, List.set_cons_succ]
      have V2 : Hid ((Z.setCells (w.heap.size + 1) 0 (caseL (aftF c)).toArray.toList).rangeAt (w.heap.size + 1) 0 (caseL (aftF c))) := World.rangeAt_setCells_same _ _ _ _ Z2
      have HV : Hid (Below w.heap.size w (Z.setCells (w.heap.size + 1) 0 (caseL (aftF c)).toArray.toList)) := Below.setCells' _ (by omega) _ _ _ HZ.out
      clear HZ Z2 Z1a
      generalize hVV : Z.setCells (w.heap.size + 1) 0 (caseL (aftF c)).toArray.toList = V at V2 HV ⊢
      clear hVV
      go_wp2
      refine bodyPost_ret (results_c3 (cs := caseL (aftF c)) rfl _ _ _ rfl V2.out Try.underlying23 rfl Try.info_fc) rfl ?_
      refine ⟨?_, Ext.of_below HV.out⟩
      have hD : doneF c = false := done_no (by omega)
      show _ = Ending.returned (.tuple #[.agg (caseL (aftF c)).toArray, .bool (doneF c), .int .i64 (chkF c)])
      rw [hD, HC.out]; rfl
    · have k0 : Y.cell? ⟨w.heap.size, 0, none⟩ = some (.bool (c.wr)) := H.out.2 0 (by omega)
      have k1 : Y.cell? ⟨w.heap.size, 1, none⟩ = some (.bool (c.rg)) := H.out.2 1 (by omega)
      have k2 : Y.cell? ⟨w.heap.size, 2, none⟩ = some (.int .i64 c.pt) := H.out.2 2 (by omega)
      have k3 : Y.cell? ⟨w.heap.size, 3, none⟩ = some (.bool (c.sh)) := H.out.2 3 (by omega)
      have k4 : Y.cell? ⟨w.heap.size, 4, none⟩ = some (.bool (c.fl)) := H.out.2 4 (by omega)
      have k5 : Y.cell? ⟨w.heap.size, 5, none⟩ = some (.bool (c.bh)) := H.out.2 5 (by omega)
      have k6 : Y.cell? ⟨w.heap.size, 6, none⟩ = some (.bool (c.bz)) := H.out.2 6 (by omega)
      have k7 : Y.cell? ⟨w.heap.size, 7, none⟩ = some (.int .i64 c.en) := H.out.2 7 (by omega)
      have k8 : Y.cell? ⟨w.heap.size, 8, none⟩ = some (.bool (c.wb)) := H.out.2 8 (by omega)
      have k9 : Y.cell? ⟨w.heap.size, 9, none⟩ = some (.bool (c.tr)) := H.out.2 9 (by omega)
      have k10 : Y.cell? ⟨w.heap.size, 10, none⟩ = some (.bool (c.ow)) := H.out.2 10 (by omega)
      have k11 : Y.cell? ⟨w.heap.size, 11, none⟩ = some (.bool (c.on)) := H.out.2 11 (by omega)
      have k12 : Y.cell? ⟨w.heap.size, 12, none⟩ = some (.bool (c.ca)) := H.out.2 12 (by omega)
      have k13 : Y.cell? ⟨w.heap.size, 13, none⟩ = some (.bool (c.bk)) := H.out.2 13 (by omega)
      have k14 : Y.cell? ⟨w.heap.size, 14, none⟩ = some (.bool (c.di)) := H.out.2 14 (by omega)
      have k15 : Y.cell? ⟨w.heap.size, 15, none⟩ = some (.bool (c.fu)) := H.out.2 15 (by omega)
      have k16 : Y.cell? ⟨w.heap.size, 16, none⟩ = some (.int .i64 c.mi) := H.out.2 16 (by omega)
      have f7 : Y.frozen? ⟨w.heap.size, 7, none⟩ = false := by simpa using (T1'.out 7 (by omega)).2
      have f8 : Y.frozen? ⟨w.heap.size, 8, none⟩ = false := by simpa using (T1'.out 8 (by omega)).2
      have f11 : Y.frozen? ⟨w.heap.size, 11, none⟩ = false := by simpa using (T1'.out 11 (by omega)).2
      have f12 : Y.frozen? ⟨w.heap.size, 12, none⟩ = false := by simpa using (T1'.out 12 (by omega)).2
      have hb := pt_of HC.out (by omega)
      go_upto_region 23 with (first | (go_at_call 18; refine (writes17 _ _ _ _ _ _ _ _ _ _ _ _ _ _ _ _ _ _).mono ?_; rintro e w1 ⟨rfl, os1, n1, rfl⟩))
      refine name_world (fun Z hZ => ?_)
      have Z1 : Z.rangeAt w.heap.size 0 (caseL { c with en := 1, ca := false, wb := c.pt == 3 }) := by rw [hZ]; exact (R_wext (R_set (R_set (R_set (H.out.range (Ext.refl _)) (by simp [caseL])) (by simp [caseL])) (by simp [caseL])) _ _)
      have Z2 : Z.there (w.heap.size + 1) 0 17 := by rw [hZ]; exact (T_wext (T_set (T_set (T_set T2'.out))) _ _)
      have HZ : Hid (Below w.heap.size w Z) := by
        have hbl := HB.out
        have y1' : w.heap.size ≤ Y.heap.size := Nat.le_of_lt y1
        show Below _ _ _
        rw [hZ]
        (repeat' (first | (with_reducible exact Below.refl _ _) | (with_reducible assumption) | (with_reducible refine Below.alloc ?_ ?_ _) | (with_reducible refine Below.wext ?_ ?_ _ _) | (with_reducible refine Below.drew ?_) | (with_reducible refine Below.setCell ?_ ?_ _) | (with_reducible exact Nat.le_refl _) | (with_reducible refine Below.drewN' ?_ _) | (simp; omega) | (simp; done)))
      clear hZ
      have hAc : aftF c = { c with en := 1, ca := false, wb := c.pt == 3 } := by rw [hA.out]; simp [stepF, hb, hon]
      have Z1a : Z.rangeAt w.heap.size 0 (caseL (aftF c)) := by rw [hAc]; exact Z1
      clear hAc Z1
      refine wp_region_lit ?_
      refine wpList_load_mid rfl 23 _ rfl w.heap.size 0 rfl (caseL (aftF c)) _ Z1a Try.underlying23 rfl Try.info_fc ?_
      simp only [Act.put, List.setIfInBounds_toArray, List.set_cons_zero, List.set_cons_succ]
      refine wpList_store_mid rfl 23 _ _ rfl (w.heap.size + 1) 0 (caseL (aftF c)).toArray rfl rfl Z2 Try.info_fc (one_fc _) ?_
      simp only [Act.put, List.setIfInBounds_toArray, List.set_cons_zero, List.set_cons_succ]
      have V2 : Hid ((Z.setCells (w.heap.size + 1) 0 (caseL (aftF c)).toArray.toList).rangeAt (w.heap.size + 1) 0 (caseL (aftF c))) := World.rangeAt_setCells_same _ _ _ _ Z2
      have HV : Hid (Below w.heap.size w (Z.setCells (w.heap.size + 1) 0 (caseL (aftF c)).toArray.toList)) := Below.setCells' _ (by omega) _ _ _ HZ.out
      clear HZ Z2 Z1a
      generalize hVV : Z.setCells (w.heap.size + 1) 0 (caseL (aftF c)).toArray.toList = V at V2 HV ⊢
      clear hVV
      go_wp2
      refine bodyPost_ret (results_c3 (cs := caseL (aftF c)) rfl _ _ _ rfl V2.out Try.underlying23 rfl Try.info_fc) rfl ?_
      refine ⟨?_, Ext.of_below HV.out⟩
      have hD : doneF c = false := done_no (by omega)
      show _ = Ending.returned (.tuple #[.agg (caseL (aftF c)).toArray, .bool (doneF c), .int .i64 (chkF c)])
      rw [hD, HC.out]; rfl
  · have k12 : Y.cell? ⟨w.heap.size, 12, none⟩ = some (.bool (c.ca)) := H.out.2 12 (by omega)
    have f12 : Y.frozen? ⟨w.heap.size, 12, none⟩ = false := by simpa using (T1'.out 12 (by omega)).2
    go_upto_region 23 with (first | fail)
    refine name_world (fun Z hZ => ?_)
    have Z1 : Z.rangeAt w.heap.size 0 (caseL { c with ca := true }) := by rw [hZ]; exact (R_set (H.out.range (Ext.refl _)) (by simp [caseL]))
    have Z2 : Z.there (w.heap.size + 1) 0 17 := by rw [hZ]; exact (T_set T2'.out)
    have HZ : Hid (Below w.heap.size w Z) := by
      have hbl := HB.out
      have y1' : w.heap.size ≤ Y.heap.size := Nat.le_of_lt y1
      show Below _ _ _
      rw [hZ]
      (repeat' (first | (with_reducible exact Below.refl _ _) | (with_reducible assumption) | (with_reducible refine Below.alloc ?_ ?_ _) | (with_reducible refine Below.wext ?_ ?_ _ _) | (with_reducible refine Below.drew ?_) | (with_reducible refine Below.setCell ?_ ?_ _) | (with_reducible exact Nat.le_refl _) | (with_reducible refine Below.drewN' ?_ _) | (simp; omega) | (simp; done)))
    clear hZ
    have hAc : aftF c = { c with ca := true } := by rw [hA.out]; simp [stepF]
    have Z1a : Z.rangeAt w.heap.size 0 (caseL (aftF c)) := by rw [hAc]; exact Z1
    clear hAc Z1
    refine wp_region_lit ?_
    refine wpList_load_mid rfl 23 _ rfl w.heap.size 0 rfl (caseL (aftF c)) _ Z1a Try.underlying23 rfl Try.info_fc ?_
    simp only [Act.put, List.setIfInBounds_toArray, List.set_cons_zero, List.set_cons_succ]
    refine wpList_store_mid rfl 23 _ _ rfl (w.heap.size + 1) 0 (caseL (aftF c)).toArray rfl rfl Z2 Try.info_fc (one_fc _) ?_
    simp only [Act.put, List.setIfInBounds_toArray, List.set_cons_zero, List.set_cons_succ]
    have V2 : Hid ((Z.setCells (w.heap.size + 1) 0 (caseL (aftF c)).toArray.toList).rangeAt (w.heap.size + 1) 0 (caseL (aftF c))) := World.rangeAt_setCells_same _ _ _ _ Z2
    have HV : Hid (Below w.heap.size w (Z.setCells (w.heap.size + 1) 0 (caseL (aftF c)).toArray.toList)) := Below.setCells' _ (by omega) _ _ _ HZ.out
    clear HZ Z2 Z1a
    generalize hVV : Z.setCells (w.heap.size + 1) 0 (caseL (aftF c)).toArray.toList = V at V2 HV ⊢
    clear hVV
    go_wp2
    refine bodyPost_ret (results_c3 (cs := caseL (aftF c)) rfl _ _ _ rfl V2.out Try.underlying23 rfl Try.info_fc) rfl ?_
    refine ⟨?_, Ext.of_below HV.out⟩
    have hD : doneF c = false := done_no (by omega)
    show _ = Ending.returned (.tuple #[.agg (caseL (aftF c)).toArray, .bool (doneF c), .int .i64 (chkF c)])
    rw [hD, HC.out]; rfl
  · have k0 : Y.cell? ⟨w.heap.size, 0, none⟩ = some (.bool (c.wr)) := H.out.2 0 (by omega)
    have k1 : Y.cell? ⟨w.heap.size, 1, none⟩ = some (.bool (c.rg)) := H.out.2 1 (by omega)
    have k2 : Y.cell? ⟨w.heap.size, 2, none⟩ = some (.int .i64 c.pt) := H.out.2 2 (by omega)
    have k3 : Y.cell? ⟨w.heap.size, 3, none⟩ = some (.bool (c.sh)) := H.out.2 3 (by omega)
    have k4 : Y.cell? ⟨w.heap.size, 4, none⟩ = some (.bool (c.fl)) := H.out.2 4 (by omega)
    have k5 : Y.cell? ⟨w.heap.size, 5, none⟩ = some (.bool (c.bh)) := H.out.2 5 (by omega)
    have k6 : Y.cell? ⟨w.heap.size, 6, none⟩ = some (.bool (c.bz)) := H.out.2 6 (by omega)
    have k7 : Y.cell? ⟨w.heap.size, 7, none⟩ = some (.int .i64 c.en) := H.out.2 7 (by omega)
    have k8 : Y.cell? ⟨w.heap.size, 8, none⟩ = some (.bool (c.wb)) := H.out.2 8 (by omega)
    have k9 : Y.cell? ⟨w.heap.size, 9, none⟩ = some (.bool (c.tr)) := H.out.2 9 (by omega)
    have k10 : Y.cell? ⟨w.heap.size, 10, none⟩ = some (.bool (c.ow)) := H.out.2 10 (by omega)
    have k11 : Y.cell? ⟨w.heap.size, 11, none⟩ = some (.bool (c.on)) := H.out.2 11 (by omega)
    have k12 : Y.cell? ⟨w.heap.size, 12, none⟩ = some (.bool (c.ca)) := H.out.2 12 (by omega)
    have k13 : Y.cell? ⟨w.heap.size, 13, none⟩ = some (.bool (c.bk)) := H.out.2 13 (by omega)
    have k14 : Y.cell? ⟨w.heap.size, 14, none⟩ = some (.bool (c.di)) := H.out.2 14 (by omega)
    have k15 : Y.cell? ⟨w.heap.size, 15, none⟩ = some (.bool (c.fu)) := H.out.2 15 (by omega)
    have k16 : Y.cell? ⟨w.heap.size, 16, none⟩ = some (.int .i64 c.mi) := H.out.2 16 (by omega)
    have f7 : Y.frozen? ⟨w.heap.size, 7, none⟩ = false := by simpa using (T1'.out 7 (by omega)).2
    have f8 : Y.frozen? ⟨w.heap.size, 8, none⟩ = false := by simpa using (T1'.out 8 (by omega)).2
    have f10 : Y.frozen? ⟨w.heap.size, 10, none⟩ = false := by simpa using (T1'.out 10 (by omega)).2
    have f11 : Y.frozen? ⟨w.heap.size, 11, none⟩ = false := by simpa using (T1'.out 11 (by omega)).2
    have f16 : Y.frozen? ⟨w.heap.size, 16, none⟩ = false := by simpa using (T1'.out 16 (by omega)).2
    have hb := pt_of HC.out (by omega)
    go_upto_region 23 with (first | (go_at_call 18; refine (writes17 _ _ _ _ _ _ _ _ _ _ _ _ _ _ _ _ _ _).mono ?_; rintro e w1 ⟨rfl, os1, n1, rfl⟩))
    refine name_world (fun Z hZ => ?_)
    have Z1 : Z.rangeAt w.heap.size 0 (caseL { c with en := 1, mi := 0, ow := true, on := true, wb := c.pt == 3 }) := by rw [hZ]; exact (R_wext (R_set (R_set (R_set (R_set (R_set (H.out.range (Ext.refl _)) (by simp [caseL])) (by simp [caseL])) (by simp [caseL])) (by simp [caseL])) (by simp [caseL])) _ _)
    have Z2 : Z.there (w.heap.size + 1) 0 17 := by rw [hZ]; exact (T_wext (T_set (T_set (T_set (T_set (T_set T2'.out))))) _ _)
    have HZ : Hid (Below w.heap.size w Z) := by
      have hbl := HB.out
      have y1' : w.heap.size ≤ Y.heap.size := Nat.le_of_lt y1
      show Below _ _ _
      rw [hZ]
      (repeat' (first | (with_reducible exact Below.refl _ _) | (with_reducible assumption) | (with_reducible refine Below.alloc ?_ ?_ _) | (with_reducible refine Below.wext ?_ ?_ _ _) | (with_reducible refine Below.drew ?_) | (with_reducible refine Below.setCell ?_ ?_ _) | (with_reducible exact Nat.le_refl _) | (with_reducible refine Below.drewN' ?_ _) | (simp; omega) | (simp; done)))
    clear hZ
    have hAc : aftF c = { c with en := 1, mi := 0, ow := true, on := true, wb := c.pt == 3 } := by rw [hA.out]; simp [stepF, hb]
    have Z1a : Z.rangeAt w.heap.size 0 (caseL (aftF c)) := by rw [hAc]; exact Z1
    clear hAc Z1
    refine wp_region_lit ?_
    refine wpList_load_mid rfl 23 _ rfl w.heap.size 0 rfl (caseL (aftF c)) _ Z1a Try.underlying23 rfl Try.info_fc ?_
    simp only [Act.put, List.setIfInBounds_toArray, List.set_cons_zero, List.set_cons_succ]
    refine wpList_store_mid rfl 23 _ _ rfl (w.heap.size + 1) 0 (caseL (aftF c)).toArray rfl rfl Z2 Try.info_fc (one_fc _) ?_
    simp only [Act.put, List.setIfInBounds_toArray, List.set_cons_zero, List.set_cons_succ]
    have V2 : Hid ((Z.setCells (w.heap.size + 1) 0 (caseL (aftF c)).toArray.toList).rangeAt (w.heap.size + 1) 0 (caseL (aftF c))) := World.rangeAt_setCells_same _ _ _ _ Z2
    have HV : Hid (Below w.heap.size w (Z.setCells (w.heap.size + 1) 0 (caseL (aftF c)).toArray.toList)) := Below.setCells' _ (by omega) _ _ _ HZ.out
    clear HZ Z2 Z1a
    generalize hVV : Z.setCells (w.heap.size + 1) 0 (caseL (aftF c)).toArray.toList = V at V2 HV ⊢
    clear hVV
    go_wp2
    refine bodyPost_ret (results_c3 (cs := caseL (aftF c)) rfl _ _ _ rfl V2.out Try.underlying23 rfl Try.info_fc) rfl ?_
    refine ⟨?_, Ext.of_below HV.out⟩
    have hD : doneF c = false := done_no (by omega)
    show _ = Ending.returned (.tuple #[.agg (caseL (aftF c)).toArray, .bool (doneF c), .int .i64 (chkF c)])
    rw [hD, HC.out]; rfl
  · have k7 : Y.cell? ⟨w.heap.size, 7, none⟩ = some (.int .i64 c.en) := H.out.2 7 (by omega)
    have k12 : Y.cell? ⟨w.heap.size, 12, none⟩ = some (.bool (c.ca)) := H.out.2 12 (by omega)
    have k16 : Y.cell? ⟨w.heap.size, 16, none⟩ = some (.int .i64 c.mi) := H.out.2 16 (by omega)
    have f7 : Y.frozen? ⟨w.heap.size, 7, none⟩ = false := by simpa using (T1'.out 7 (by omega)).2
    have f12 : Y.frozen? ⟨w.heap.size, 12, none⟩ = false := by simpa using (T1'.out 12 (by omega)).2
    have f16 : Y.frozen? ⟨w.heap.size, 16, none⟩ = false := by simpa using (T1'.out 16 (by omega)).2
    go_upto_region 23 with (first | fail)
    refine name_world (fun Z hZ => ?_)
    have Z1 : Z.rangeAt w.heap.size 0 (caseL { c with en := 1, mi := 0, ca := false }) := by rw [hZ]; exact (R_set (R_set (R_set (H.out.range (Ext.refl _)) (by simp [caseL])) (by simp [caseL])) (by simp [caseL]))
    have Z2 : Z.there (w.heap.size + 1) 0 17 := by rw [hZ]; exact (T_set (T_set (T_set T2'.out)))
    have HZ : Hid (Below w.heap.size w Z) := by
      have hbl := HB.out
      have y1' : w.heap.size ≤ Y.heap.size := Nat.le_of_lt y1
      show Below _ _ _
      rw [hZ]
      (repeat' (first | (with_reducible exact Below.refl _ _) | (with_reducible assumption) | (with_reducible refine Below.alloc ?_ ?_ _) | (with_reducible refine Below.wext ?_ ?_ _ _) | (with_reducible refine Below.drew ?_) | (with_reducible refine Below.setCell ?_ ?_ _) | (with_reducible exact Nat.le_refl _) | (with_reducible refine Below.drewN' ?_ _) | (simp; omega) | (simp; done)))
    clear hZ
    have hAc : aftF c = { c with en := 1, mi := 0, ca := false } := by rw [hA.out]; simp [stepF]
    have Z1a : Z.rangeAt w.heap.size 0 (caseL (aftF c)) := by rw [hAc]; exact Z1
    clear hAc Z1
    refine wp_region_lit ?_
    refine wpList_load_mid rfl 23 _ rfl w.heap.size 0 rfl (caseL (aftF c)) _ Z1a Try.underlying23 rfl Try.info_fc ?_
    simp only [Act.put, List.setIfInBounds_toArray, List.set_cons_zero, List.set_cons_succ]
    refine wpList_store_mid rfl 23 _ _ rfl (w.heap.size + 1) 0 (caseL (aftF c)).toArray rfl rfl Z2 Try.info_fc (one_fc _) ?_
    simp only [Act.put, List.setIfInBounds_toArray, List.set_cons_zero, List.set_cons_succ]
    have V2 : Hid ((Z.setCells (w.heap.size + 1) 0 (caseL (aftF c)).toArray.toList).rangeAt (w.heap.size + 1) 0 (caseL (aftF c))) := World.rangeAt_setCells_same _ _ _ _ Z2
    have HV : Hid (Below w.heap.size w (Z.setCells (w.heap.size + 1) 0 (caseL (aftF c)).toArray.toList)) := Below.setCells' _ (by omega) _ _ _ HZ.out
    clear HZ Z2 Z1a
    generalize hVV : Z.setCells (w.heap.size + 1) 0 (caseL (aftF c)).toArray.toList = V at V2 HV ⊢
    clear hVV
    go_wp2
    refine bodyPost_ret (results_c3 (cs := caseL (aftF c)) rfl _ _ _ rfl V2.out Try.underlying23 rfl Try.info_fc) rfl ?_
    refine ⟨?_, Ext.of_below HV.out⟩
    have hD : doneF c = false := done_no (by omega)
    show _ = Ending.returned (.tuple #[.agg (caseL (aftF c)).toArray, .bool (doneF c), .int .i64 (chkF c)])
    rw [hD, HC.out]; rfl
  · have k12 : Y.cell? ⟨w.heap.size, 12, none⟩ = some (.bool (c.ca)) := H.out.2 12 (by omega)
    have f12 : Y.frozen? ⟨w.heap.size, 12, none⟩ = false := by simpa using (T1'.out 12 (by omega)).2
    go_upto_region 23 with (first | fail)
    refine name_world (fun Z hZ => ?_)
    have Z1 : Z.rangeAt w.heap.size 0 (caseL { c with ca := true }) := by rw [hZ]; exact (R_set (H.out.range (Ext.refl _)) (by simp [caseL]))
    have Z2 : Z.there (w.heap.size + 1) 0 17 := by rw [hZ]; exact (T_set T2'.out)
    have HZ : Hid (Below w.heap.size w Z) := by
      have hbl := HB.out
      have y1' : w.heap.size ≤ Y.heap.size := Nat.le_of_lt y1
      show Below _ _ _
      rw [hZ]
      (repeat' (first | (with_reducible exact Below.refl _ _) | (with_reducible assumption) | (with_reducible refine Below.alloc ?_ ?_ _) | (with_reducible refine Below.wext ?_ ?_ _ _) | (with_reducible refine Below.drew ?_) | (with_reducible refine Below.setCell ?_ ?_ _) | (with_reducible exact Nat.le_refl _) | (with_reducible refine Below.drewN' ?_ _) | (simp; omega) | (simp; done)))
    clear hZ
    have hAc : aftF c = { c with ca := true } := by rw [hA.out]; simp [stepF]
    have Z1a : Z.rangeAt w.heap.size 0 (caseL (aftF c)) := by rw [hAc]; exact Z1
    clear hAc Z1
    refine wp_region_lit ?_
    refine wpList_load_mid rfl 23 _ rfl w.heap.size 0 rfl (caseL (aftF c)) _ Z1a Try.underlying23 rfl Try.info_fc ?_
    simp only [Act.put, List.setIfInBounds_toArray, List.set_cons_zero, List.set_cons_succ]
    refine wpList_store_mid rfl 23 _ _ rfl (w.heap.size + 1) 0 (caseL (aftF c)).toArray rfl rfl Z2 Try.info_fc (one_fc _) ?_
    simp only [Act.put, List.setIfInBounds_toArray, List.set_cons_zero, List.set_cons_succ]
    have V2 : Hid ((Z.setCells (w.heap.size + 1) 0 (caseL (aftF c)).toArray.toList).rangeAt (w.heap.size + 1) 0 (caseL (aftF c))) := World.rangeAt_setCells_same _ _ _ _ Z2
    have HV : Hid (Below w.heap.size w (Z.setCells (w.heap.size + 1) 0 (caseL (aftF c)).toArray.toList)) := Below.setCells' _ (by omega) _ _ _ HZ.out
    clear HZ Z2 Z1a
    generalize hVV : Z.setCells (w.heap.size + 1) 0 (caseL (aftF c)).toArray.toList = V at V2 HV ⊢
    clear hVV
    go_wp2
    refine bodyPost_ret (results_c3 (cs := caseL (aftF c)) rfl _ _ _ rfl V2.out Try.underlying23 rfl Try.info_fc) rfl ?_
    refine ⟨?_, Ext.of_below HV.out⟩
    have hD : doneF c = false := done_no (by omega)
    show _ = Ending.returned (.tuple #[.agg (caseL (aftF c)).toArray, .bool (doneF c), .int .i64 (chkF c)])
    rw [hD, HC.out]; rfl
  · have k12 : Y.cell? ⟨w.heap.size, 12, none⟩ = some (.bool (c.ca)) := H.out.2 12 (by omega)
    have f12 : Y.frozen? ⟨w.heap.size, 12, none⟩ = false := by simpa using (T1'.out 12 (by omega)).2
    go_upto_region 23 with (first | fail)
    refine name_world (fun Z hZ => ?_)
    have Z1 : Z.rangeAt w.heap.size 0 (caseL { c with ca := true }) := by rw [hZ]; exact (R_set (H.out.range (Ext.refl _)) (by simp [caseL]))
    have Z2 : Z.there (w.heap.size + 1) 0 17 := by rw [hZ]; exact (T_set T2'.out)
    have HZ : Hid (Below w.heap.size w Z) := by
      have hbl := HB.out
      have y1' : w.heap.size ≤ Y.heap.size := Nat.le_of_lt y1
      show Below _ _ _
      rw [hZ]
      (repeat' (first | (with_reducible exact Below.refl _ _) | (with_reducible assumption) | (with_reducible refine Below.alloc ?_ ?_ _) | (with_reducible refine Below.wext ?_ ?_ _ _) | (with_reducible refine Below.drew ?_) | (with_reducible refine Below.setCell ?_ ?_ _) | (with_reducible exact Nat.le_refl _) | (with_reducible refine Below.drewN' ?_ _) | (simp; omega) | (simp; done)))
    clear hZ
    have hAc : aftF c = { c with ca := true } := by rw [hA.out]; simp [stepF]
    have Z1a : Z.rangeAt w.heap.size 0 (caseL (aftF c)) := by rw [hAc]; exact Z1
    clear hAc Z1
    refine wp_region_lit ?_
    refine wpList_load_mid rfl 23 _ rfl w.heap.size 0 rfl (caseL (aftF c)) _ Z1a Try.underlying23 rfl Try.info_fc ?_
    simp only [Act.put, List.setIfInBounds_toArray, List.set_cons_zero, List.set_cons_succ]
    refine wpList_store_mid rfl 23 _ _ rfl (w.heap.size + 1) 0 (caseL (aftF c)).toArray rfl rfl Z2 Try.info_fc (one_fc _) ?_
    simp only [Act.put, List.setIfInBounds_toArray, List.set_cons_zero, List.set_cons_succ]
    have V2 : Hid ((Z.setCells (w.heap.size + 1) 0 (caseL (aftF c)).toArray.toList).rangeAt (w.heap.size + 1) 0 (caseL (aftF c))) := World.rangeAt_setCells_same _ _ _ _ Z2
    have HV : Hid (Below w.heap.size w (Z.setCells (w.heap.size + 1) 0 (caseL (aftF c)).toArray.toList)) := Below.setCells' _ (by omega) _ _ _ HZ.out
    clear HZ Z2 Z1a
    generalize hVV : Z.setCells (w.heap.size + 1) 0 (caseL (aftF c)).toArray.toList = V at V2 HV ⊢
    clear hVV
    go_wp2
    refine bodyPost_ret (results_c3 (cs := caseL (aftF c)) rfl _ _ _ rfl V2.out Try.underlying23 rfl Try.info_fc) rfl ?_
    refine ⟨?_, Ext.of_below HV.out⟩
    have hD : doneF c = false := done_no (by omega)
    show _ = Ending.returned (.tuple #[.agg (caseL (aftF c)).toArray, .bool (doneF c), .int .i64 (chkF c)])
    rw [hD, HC.out]; rfl

end Go.Proofs.Ytcbadcbahmclpaa
