/- Layer 26: After. -/
import Derived.Test.YtcbadcbahmclpaaFpn
set_option linter.unusedSimpArgs false
set_option linter.unusedVariables false
namespace Go.Proofs.Ytcbadcbahmclpaa
open Go.RowKit

set_option maxHeartbeats 4000000 in
theorem after_err (hP : PlanOK 13) (c : FC) (h : ¬ chkF c = 0) (w : World) :
    Calls Try.prog 15 #[.agg #[.bool c.wr, .bool c.rg, .int .i64 c.pt, .bool c.sh, .bool c.fl, .bool c.bh, .bool c.bz, .int .i64 c.en, .bool c.wb, .bool c.tr, .bool c.ow, .bool c.on, .bool c.ca, .bool c.bk, .bool c.di, .bool c.fu, .int .i64 c.mi]] w fun e w' => e = .returned (.tuple #[.agg #[.bool FC.zero.wr, .bool FC.zero.rg, .int .i64 FC.zero.pt, .bool FC.zero.sh, .bool FC.zero.fl, .bool FC.zero.bh, .bool FC.zero.bz, .int .i64 FC.zero.en, .bool FC.zero.wb, .bool FC.zero.tr, .bool FC.zero.ow, .bool FC.zero.on, .bool FC.zero.ca, .bool FC.zero.bk, .bool FC.zero.di, .bool FC.zero.fu, .int .i64 FC.zero.mi], .bool false, .int .i64 (chkF c)]) ∧ Ext w w' := by
  have e1 : (chkF c != 0) = true := by simp [h]
  clear h
  go_enter Try.func15, Try.ntmps15
  go_wp2_with (first | (refine wpList_load_mid rfl 23 _ rfl w.heap.size 0 rfl (caseL c) _ ((case_new w c).range (by (exact Ext.of_below (by (repeat' (first | (with_reducible exact Below.refl _ _) | (with_reducible assumption) | (with_reducible refine Below.alloc ?_ ?_ _) | (with_reducible refine Below.wext ?_ ?_ _ _) | (with_reducible refine Below.drew ?_) | (with_reducible refine Below.setCell ?_ ?_ _) | (with_reducible exact Nat.le_refl _) | (with_reducible refine Below.drewN' ?_ _) | (simp; omega) | (simp; done))))))) Try.underlying23 rfl Try.info_fc ?_; simp only [caseL]) | (go_at_call 13; refine (hP _ _).mono ?_; rintro e w1 ⟨rfl, os1, n1, rfl⟩))
  · refine bodyPost_ret (results_c3 (cs := caseL FC.zero) rfl _ _ _ rfl ?_ Try.underlying23 rfl Try.info_fc) rfl ?_
    rotate_left
    · refine ⟨rfl, by (exact Ext.of_below (by (repeat' (first | (with_reducible exact Below.refl _ _) | (with_reducible assumption) | (with_reducible refine Below.alloc ?_ ?_ _) | (with_reducible refine Below.wext ?_ ?_ _ _) | (with_reducible refine Below.drew ?_) | (with_reducible refine Below.setCell ?_ ?_ _) | (with_reducible exact Nat.le_refl _) | (with_reducible refine Below.drewN' ?_ _) | (simp; omega) | (simp; done)))))⟩
    · exact R_alloc (R_wext (R_newAt (by simp) rfl) _ _) _

set_option maxRecDepth 100000 in
set_option maxHeartbeats 40000000 in
theorem after_ok (hP : PlanOK 13) (c : FC) (h : chkF c = 0) (w : World) :
    Calls Try.prog 15 #[.agg #[.bool c.wr, .bool c.rg, .int .i64 c.pt, .bool c.sh, .bool c.fl, .bool c.bh, .bool c.bz, .int .i64 c.en, .bool c.wb, .bool c.tr, .bool c.ow, .bool c.on, .bool c.ca, .bool c.bk, .bool c.di, .bool c.fu, .int .i64 c.mi]] w fun e w' => e = .returned (.tuple #[.agg #[.bool (aftF c).wr, .bool (aftF c).rg, .int .i64 (aftF c).pt, .bool (aftF c).sh, .bool (aftF c).fl, .bool (aftF c).bh, .bool (aftF c).bz, .int .i64 (aftF c).en, .bool (aftF c).wb, .bool (aftF c).tr, .bool (aftF c).ow, .bool (aftF c).on, .bool (aftF c).ca, .bool (aftF c).bk, .bool (aftF c).di, .bool (aftF c).fu, .int .i64 (aftF c).mi], .bool (doneF c), .int .i64 (chkF c)]) ∧ Ext w w' := by
  have e1 : (chkF c != 0) = false := by simp [h]
  have HC : Hid (chkF c = 0) := h
  clear h
  go_enter Try.func15, Try.ntmps15
  go_upto_region 4 with (first | (refine wpList_load_mid rfl 23 _ rfl w.heap.size 0 rfl (caseL c) _ ((case_new w c).range (by (exact Ext.of_below (by (repeat' (first | (with_reducible exact Below.refl _ _) | (with_reducible assumption) | (with_reducible refine Below.alloc ?_ ?_ _) | (with_reducible refine Below.wext ?_ ?_ _ _) | (with_reducible refine Below.drew ?_) | (with_reducible refine Below.setCell ?_ ?_ _) | (with_reducible exact Nat.le_refl _) | (with_reducible refine Below.drewN' ?_ _) | (simp; omega) | (simp; done))))))) Try.underlying23 rfl Try.info_fc ?_; simp only [caseL]) | (go_at_call 13; refine (hP _ _).mono ?_; rintro e w1 ⟨rfl, os1, n1, rfl⟩))
  refine name_world (fun X hX => ?_)
  have H1 : Hid (caseAt X w.heap.size c) := (case_new w c).ext (by rw [hX]; (exact Ext.of_below (by (repeat' (first | (with_reducible exact Below.refl _ _) | (with_reducible assumption) | (with_reducible refine Below.alloc ?_ ?_ _) | (with_reducible refine Below.wext ?_ ?_ _ _) | (with_reducible refine Below.drew ?_) | (with_reducible refine Below.setCell ?_ ?_ _) | (with_reducible exact Nat.le_refl _) | (with_reducible refine Below.drewN' ?_ _) | (simp; omega) | (simp; done))))))
  have T1 : Hid (X.there w.heap.size 0 17) := by show X.there _ _ _; rw [hX]; exact T_alloc (T_wext (T_alloc (T_new _ _ _ rfl) _) _ _) _
  have T2 : Hid (X.there (w.heap.size + 1) 0 17) := by show X.there _ _ _; rw [hX]; exact T_alloc (T_wext (T_newAt (by simp) rfl) _ _) _
  have R5 : Hid (X.rangeAt (w.heap.size + 1 + 1 + os1.size) 0 [.int .i64 (planF c).a, .int .i64 (planF c).e, .int .i64 (planF c).w, .int .i64 (planF c).k, .int .i64 (planF c).u]) := by show X.rangeAt _ _ _; rw [hX]; exact R_newAt (by simp) rfl
  have HE : Hid (Ext w X) := by show Ext w X; rw [hX]; (exact Ext.of_below (by (repeat' (first | (with_reducible exact Below.refl _ _) | (with_reducible assumption) | (with_reducible refine Below.alloc ?_ ?_ _) | (with_reducible refine Below.wext ?_ ?_ _ _) | (with_reducible refine Below.drew ?_) | (with_reducible refine Below.setCell ?_ ?_ _) | (with_reducible exact Nat.le_refl _) | (with_reducible refine Below.drewN' ?_ _) | (simp; omega) | (simp; done)))))
  have z0 : LtD (w.heap.size + 1 + 1 + os1.size) X.heap.size := by rw [hX]; simp [LtD]
  clear hX
  have z1 : LtD w.heap.size X.heap.size := H1.out.1
  refine wp_region_held_drew (S := fun w' => w'.rangeAt w.heap.size 0 (caseL c)) (by kernel_rfl) (R_drew (H1.out.range (Ext.refl _))) (fun hHeld => ?_)
  refine wpAnyH_take (i := 0) at_0 (by kernel_rfl) (by kernel_rfl) (by kernel_rfl) (fun _ _ _ h => h) (yieldsIf_load_mid (by rfl) _ _ rfl (w.heap.size) 0 rfl (caseL c) _ (fun w hw => hw) Try.underlying23 rfl Try.info_fc) (by assumption) ?_
  simp only [Act.put, List.setIfInBounds_toArray, List.set_cons_zero, List.set_cons_succ]
  refine wpAnyH_take (i := 1) (v := ?_) at_1 (by kernel_rfl) (by kernel_rfl) (by kernel_rfl) (fun _ _ _ h => h) (Or.inl ⟨by rfl, ?_⟩) (by assumption) ?_
  rotate_left
  · intro wq hSw; (try dsimp only at hSw); go_simp <;> with_reducible rfl
  simp only [Act.put, List.setIfInBounds_toArray, List.set_cons_zero, List.set_cons_succ]
  refine wpAnyH_take (i := 2) (v := ?_) at_2 (by kernel_rfl) (by kernel_rfl) (by kernel_rfl) (fun _ _ _ h => h) (Or.inl ⟨by rfl, ?_⟩) (by assumption) ?_
  rotate_left
  · intro wq hSw; (try dsimp only at hSw); have k2 := hSw 2 _ rfl; rw [Nat.zero_add] at k2; go_simp <;> with_reducible rfl
  simp only [Act.put, List.setIfInBounds_toArray, List.set_cons_zero, List.set_cons_succ]
  refine wpAnyH_take (i := 3) (v := ?_) at_3 (by kernel_rfl) (by kernel_rfl) (by kernel_rfl) (fun _ _ _ h => h) (Or.inl ⟨by rfl, ?_⟩) (by assumption) ?_
  rotate_left
  · intro wq hSw; (try dsimp only at hSw); go_simp <;> with_reducible rfl
  simp only [Act.put, List.setIfInBounds_toArray, List.set_cons_zero, List.set_cons_succ]
  refine wpAnyH_take (i := 4) (v := ?_) at_4 (by kernel_rfl) (by kernel_rfl) (by kernel_rfl) (fun _ _ _ h => h) (Or.inl ⟨by rfl, ?_⟩) (by assumption) ?_
  rotate_left
  · intro wq hSw; (try dsimp only at hSw); go_simp <;> with_reducible rfl
  simp only [Act.put, List.setIfInBounds_toArray, List.set_cons_zero, List.set_cons_succ]
  refine wpAnyH_ready (rs := [5]) (by kernel_rfl) (by simp) (AllReadyH.cons at_5 (fun K hK => ?_) AllReadyH.nil)
  go_simp
  refine hK.out _ _ (R_alloc hHeld _) (fun hHeld => ?_)
  clear hK K
  (try simp only [Act.put, List.setIfInBounds_toArray, List.set_cons_zero, List.set_cons_succ])
  refine wpAnyH_ready (rs := [6]) (by kernel_rfl) (by simp) (AllReadyH.cons at_6 (fun K hK => ?_) AllReadyH.nil)
  rw [if_pos (by rfl)]
  refine wp_store_mid _ _ _ rfl (X.heap.size) 0 ((caseL c).toArray) rfl rfl (T_newAt (by simp) rfl) Try.info_fc (one_fc _) ?_
  simp only [Act.put, List.setIfInBounds_toArray, List.set_cons_zero, List.set_cons_succ]
  refine hK.out _ _ (World.rangeAt_setCells_apart hHeld _ _ _ (Or.inl (Nat.ne_of_lt z1))) (fun hHeld => ?_)
  clear hK K
  (try simp only [Act.put, List.setIfInBounds_toArray, List.set_cons_zero, List.set_cons_succ])
  refine wpAnyH_ready (rs := [7]) (by kernel_rfl) (by simp) (AllReadyH.cons at_7 (fun K hK => ?_) AllReadyH.nil)
  go_simp
  refine hK.out _ _ hHeld (fun hHeld => ?_)
  clear hK K
  (try simp only [Act.put, List.setIfInBounds_toArray, List.set_cons_zero, List.set_cons_succ])
  refine wpAnyH_done (by kernel_rfl) ?_ _
  go_upto_region 5 with fail
  refine name_world (fun Y hY => ?_)
  have H : Hid (caseAt Y w.heap.size c) := by show caseAt Y _ _; rw [hY]; exact caseAt_of hHeld
  have R5' : Hid (Y.rangeAt (w.heap.size + 1 + 1 + os1.size) 0 [.int .i64 (planF c).a, .int .i64 (planF c).e, .int .i64 (planF c).w, .int .i64 (planF c).k, .int .i64 (planF c).u]) := by show Y.rangeAt _ _ _; rw [hY]; exact World.rangeAt_setCells_apart (R_alloc (R_drew R5.out) _) _ _ _ (Or.inl (Nat.ne_of_lt z0))
  have R7 : Hid (Y.rangeAt X.heap.size 0 (caseL c)) := by show Y.rangeAt _ _ _; rw [hY]; exact World.rangeAt_setCells_same _ _ _ _ (T_newAt (by simp) rfl)
  have T1' : Hid (Y.there w.heap.size 0 17) := by show Y.there _ _ _; rw [hY]; exact World.there_setCells (T_alloc (T_drew T1.out) _) _ _ _
  have T2' : Hid (Y.there (w.heap.size + 1) 0 17) := by show Y.there _ _ _; rw [hY]; exact World.there_setCells (T_alloc (T_drew T2.out) _) _ _ _
  have ne72 : w.heap.size + 1 ≠ X.heap.size := Nat.ne_of_lt (Nat.lt_of_le_of_lt (by omega) z0)
  have HB : Hid (Below w.heap.size w Y) := by
    show Below w.heap.size w Y
    rw [hY]
    refine Below.setCells' _ (Nat.le_of_lt (Nat.lt_of_le_of_lt (by omega) z0)) _ _ _ ?_
    have hX := HE.out.below
    have hXs : w.heap.size ≤ X.heap.size := Nat.le_of_lt z1
    exact Below.alloc (Below.drew hX) (by simpa using hXs) _
  clear hY hHeld z0 H1 T1 T2 R5
  have y1 : LtD w.heap.size Y.heap.size := H.out.1
  have y7 : LtD X.heap.size Y.heap.size := World.block_lt_of_cell? _ _ (R7.out 0 _ rfl)
  have y5 : LtD (w.heap.size + 1 + 1 + os1.size) Y.heap.size := World.block_lt_of_cell? _ _ (R5'.out 0 _ rfl)
  have ne7 : w.heap.size ≠ X.heap.size := Nat.ne_of_lt z1
  have k50 : Y.cell? ⟨w.heap.size + 1 + 1 + os1.size, 0, none⟩ = some (.int .i64 (planF c).a) := by simpa using R5'.out 0 _ rfl
  have k52 : Y.cell? ⟨w.heap.size + 1 + 1 + os1.size, 2, none⟩ = some (.int .i64 (planF c).w) := by simpa using R5'.out 2 _ rfl
  have hA := aft_ok HC.out
  have hD := done_eq HC.out
  rcases act_cases HC.out with hA0 | hA0 | ⟨hA0, hW0⟩ | ⟨hA0, hW0⟩ | ⟨hA0, hW0⟩ | hA0 | hA0 | hA0 | hA0 | hA0 | hA0 | hA0 | hA0 | hA0
  all_goals (rw [hA0] at hA k50; (try rw [hW0] at hA k52))
  all_goals replace hA : Hid _ := hA
  all_goals replace hD : Hid _ := hD
  · go_upto_region 25 with (first | fail)
    refine name_world (fun Z hZ => ?_)
    have Z1 : Z.rangeAt w.heap.size 0 (caseL c) := by rw [hZ]; exact (H.out.range (Ext.refl _))
    have Z7 : Z.rangeAt X.heap.size 0 (caseL c) := by rw [hZ]; exact R7.out
    have Z2 : Z.there (w.heap.size + 1) 0 17 := by rw [hZ]; exact T2'.out
    have HZ : Hid (Below w.heap.size w Z) := by
      have hb := HB.out
      have y1' : w.heap.size ≤ Y.heap.size := Nat.le_of_lt y1
      show Below _ _ _
      rw [hZ]
      (repeat' (first | (with_reducible exact Below.refl _ _) | (with_reducible assumption) | (with_reducible refine Below.alloc ?_ ?_ _) | (with_reducible refine Below.wext ?_ ?_ _ _) | (with_reducible refine Below.drew ?_) | (with_reducible refine Below.setCell ?_ ?_ _) | (with_reducible exact Nat.le_refl _) | (with_reducible refine Below.drewN' ?_ _) | (simp; omega) | (simp; done)))
    clear hZ
    have hAc : aftF c = c := by rw [hA.out]; simp [stepF]
    have Z1a : Z.rangeAt w.heap.size 0 (caseL (aftF c)) := by rw [hAc]; exact Z1
    clear hAc Z1
    refine wp_region_held_drew (S := fun w' => w'.rangeAt w.heap.size 0 (caseL (aftF c)) ∧ w'.rangeAt X.heap.size 0 (caseL c)) (by kernel_rfl) ⟨R_drew Z1a, R_drew Z7⟩ (fun hHeld => ?_)
    refine wpAnyH_take (i := 0) at_0 (by kernel_rfl) (by kernel_rfl) (by kernel_rfl) (fun _ _ _ h => h) (yieldsIf_load_mid (by rfl) _ _ rfl (w.heap.size) 0 rfl (caseL (aftF c)) _ (fun w hw => hw.1) Try.underlying23 rfl Try.info_fc) (by assumption) ?_
    simp only [Act.put, List.setIfInBounds_toArray, List.set_cons_zero, List.set_cons_succ]
    refine wpAnyH_take (i := 1) at_1 (by kernel_rfl) (by kernel_rfl) (by kernel_rfl) (fun _ _ _ h => h) (yieldsIf_load_mid (by rfl) _ _ rfl (w.heap.size) 0 rfl (caseL (aftF c)) _ (fun w hw => hw.1) Try.underlying23 rfl Try.info_fc) (by assumption) ?_
    simp only [Act.put, List.setIfInBounds_toArray, List.set_cons_zero, List.set_cons_succ]
    refine wpAnyH_take (i := 2) at_2 (by kernel_rfl) (by kernel_rfl) (by kernel_rfl) (fun _ _ _ h => h) (yieldsIf_load_mid (by rfl) _ _ rfl (X.heap.size) 0 rfl (caseL c) _ (fun w hw => hw.2) Try.underlying23 rfl Try.info_fc) (by assumption) ?_
    simp only [Act.put, List.setIfInBounds_toArray, List.set_cons_zero, List.set_cons_succ]
    refine wpAnyH_take (i := 3) at_3 (by kernel_rfl) (by kernel_rfl) (by kernel_rfl) (fun _ _ _ h => h) (yieldsIf_eqfc (aftF c) c (by rfl) rfl rfl rfl) (by assumption) ?_
    simp only [Act.put, List.setIfInBounds_toArray, List.set_cons_zero, List.set_cons_succ]
    refine wpAnyH_ready (rs := [4]) (by kernel_rfl) (by simp) (AllReadyH.cons at_4 (fun K hK => ?_) AllReadyH.nil)
    rw [if_pos (by rfl)]
    refine wp_store_mid _ _ _ rfl (w.heap.size + 1) 0 ((caseL (aftF c)).toArray) rfl rfl (T_drew Z2) Try.info_fc (one_fc _) ?_
    simp only [Act.put, List.setIfInBounds_toArray, List.set_cons_zero, List.set_cons_succ]
    refine hK.out _ _ ⟨World.rangeAt_setCells_apart hHeld.1 _ _ _ (Or.inl (by omega)), World.rangeAt_setCells_apart hHeld.2 _ _ _ (Or.inl (Ne.symm ne72))⟩ (fun hHeld => ?_)
    clear hK K
    (try simp only [Act.put, List.setIfInBounds_toArray, List.set_cons_zero, List.set_cons_succ])
    refine wpAnyH_ready (rs := [5]) (by kernel_rfl) (by simp) (AllReadyH.cons at_5 (fun K hK => ?_) AllReadyH.nil)
    go_simp
    refine hK.out _ _ hHeld (fun hHeld => ?_)
    clear hK K
    (try simp only [Act.put, List.setIfInBounds_toArray, List.set_cons_zero, List.set_cons_succ])
    refine wpAnyH_ready (rs := [6]) (by kernel_rfl) (by simp) (AllReadyH.cons at_6 (fun K hK => ?_) AllReadyH.nil)
    go_simp
    refine hK.out _ _ hHeld (fun hHeld => ?_)
    clear hK K
    (try simp only [Act.put, List.setIfInBounds_toArray, List.set_cons_zero, List.set_cons_succ])
    refine wpAnyH_done (by kernel_rfl) ?_ _
    have V2 : Hid ((Z.drew.setCells (w.heap.size + 1) 0 (caseL (aftF c))).rangeAt (w.heap.size + 1) 0 (caseL (aftF c))) := World.rangeAt_setCells_same _ _ _ _ (T_drew Z2)
    have HV : Hid (Below w.heap.size w (Z.drew.setCells (w.heap.size + 1) 0 (caseL (aftF c)))) := Below.setCells' _ (by omega) _ _ _ (Below.drew HZ.out)
    clear hHeld HZ Z2 Z7 Z1a
    generalize hVV : Z.drew.setCells (w.heap.size + 1) 0 (caseL (aftF c)) = V at V2 HV ⊢
    clear hVV
    go_wp2
    refine bodyPost_ret (results_c3 (cs := caseL (aftF c)) rfl _ _ _ rfl V2.out Try.underlying23 rfl Try.info_fc) rfl ?_
    refine ⟨?_, Ext.of_below HV.out⟩
    show _ = Ending.returned (.tuple #[.agg (caseL (aftF c)).toArray, .bool (doneF c), .int .i64 (chkF c)])
    rw [hD.out, HC.out]; rfl
  · go_upto_region 25 with (first | fail)
    refine name_world (fun Z hZ => ?_)
    have Z1 : Z.rangeAt w.heap.size 0 (caseL c) := by rw [hZ]; exact (H.out.range (Ext.refl _))
    have Z7 : Z.rangeAt X.heap.size 0 (caseL c) := by rw [hZ]; exact R7.out
    have Z2 : Z.there (w.heap.size + 1) 0 17 := by rw [hZ]; exact T2'.out
    have HZ : Hid (Below w.heap.size w Z) := by
      have hb := HB.out
      have y1' : w.heap.size ≤ Y.heap.size := Nat.le_of_lt y1
      show Below _ _ _
      rw [hZ]
      (repeat' (first | (with_reducible exact Below.refl _ _) | (with_reducible assumption) | (with_reducible refine Below.alloc ?_ ?_ _) | (with_reducible refine Below.wext ?_ ?_ _ _) | (with_reducible refine Below.drew ?_) | (with_reducible refine Below.setCell ?_ ?_ _) | (with_reducible exact Nat.le_refl _) | (with_reducible refine Below.drewN' ?_ _) | (simp; omega) | (simp; done)))
    clear hZ
    have hAc : aftF c = c := by rw [hA.out]; simp [stepF]
    have Z1a : Z.rangeAt w.heap.size 0 (caseL (aftF c)) := by rw [hAc]; exact Z1
    clear hAc Z1
    refine wp_region_held_drew (S := fun w' => w'.rangeAt w.heap.size 0 (caseL (aftF c)) ∧ w'.rangeAt X.heap.size 0 (caseL c)) (by kernel_rfl) ⟨R_drew Z1a, R_drew Z7⟩ (fun hHeld => ?_)
    refine wpAnyH_take (i := 0) at_0 (by kernel_rfl) (by kernel_rfl) (by kernel_rfl) (fun _ _ _ h => h) (yieldsIf_load_mid (by rfl) _ _ rfl (w.heap.size) 0 rfl (caseL (aftF c)) _ (fun w hw => hw.1) Try.underlying23 rfl Try.info_fc) (by assumption) ?_
    simp only [Act.put, List.setIfInBounds_toArray, List.set_cons_zero, List.set_cons_succ]
    refine wpAnyH_take (i := 1) at_1 (by kernel_rfl) (by kernel_rfl) (by kernel_rfl) (fun _ _ _ h => h) (yieldsIf_load_mid (by rfl) _ _ rfl (w.heap.size) 0 rfl (caseL (aftF c)) _ (fun w hw => hw.1) Try.underlying23 rfl Try.info_fc) (by assumption) ?_
    simp only [Act.put, List.setIfInBounds_toArray, List.set_cons_zero, List.set_cons_succ]
    refine wpAnyH_take (i := 2) at_2 (by kernel_rfl) (by kernel_rfl) (by kernel_rfl) (fun _ _ _ h => h) (yieldsIf_load_mid (by rfl) _ _ rfl (X.heap.size) 0 rfl (caseL c) _ (fun w hw => hw.2) Try.underlying23 rfl Try.info_fc) (by assumption) ?_
    simp only [Act.put, List.setIfInBounds_toArray, List.set_cons_zero, List.set_cons_succ]
    refine wpAnyH_take (i := 3) at_3 (by kernel_rfl) (by kernel_rfl) (by kernel_rfl) (fun _ _ _ h => h) (yieldsIf_eqfc (aftF c) c (by rfl) rfl rfl rfl) (by assumption) ?_
    simp only [Act.put, List.setIfInBounds_toArray, List.set_cons_zero, List.set_cons_succ]
    refine wpAnyH_ready (rs := [4]) (by kernel_rfl) (by simp) (AllReadyH.cons at_4 (fun K hK => ?_) AllReadyH.nil)
    rw [if_pos (by rfl)]
    refine wp_store_mid _ _ _ rfl (w.heap.size + 1) 0 ((caseL (aftF c)).toArray) rfl rfl (T_drew Z2) Try.info_fc (one_fc _) ?_
    simp only [Act.put, List.setIfInBounds_toArray, List.set_cons_zero, List.set_cons_succ]
    refine hK.out _ _ ⟨World.rangeAt_setCells_apart hHeld.1 _ _ _ (Or.inl (by omega)), World.rangeAt_setCells_apart hHeld.2 _ _ _ (Or.inl (Ne.symm ne72))⟩ (fun hHeld => ?_)
    clear hK K
    (try simp only [Act.put, List.setIfInBounds_toArray, List.set_cons_zero, List.set_cons_succ])
    refine wpAnyH_ready (rs := [5]) (by kernel_rfl) (by simp) (AllReadyH.cons at_5 (fun K hK => ?_) AllReadyH.nil)
    go_simp
    refine hK.out _ _ hHeld (fun hHeld => ?_)
    clear hK K
    (try simp only [Act.put, List.setIfInBounds_toArray, List.set_cons_zero, List.set_cons_succ])
    refine wpAnyH_ready (rs := [6]) (by kernel_rfl) (by simp) (AllReadyH.cons at_6 (fun K hK => ?_) AllReadyH.nil)
    go_simp
    refine hK.out _ _ hHeld (fun hHeld => ?_)
    clear hK K
    (try simp only [Act.put, List.setIfInBounds_toArray, List.set_cons_zero, List.set_cons_succ])
    refine wpAnyH_done (by kernel_rfl) ?_ _
    have V2 : Hid ((Z.drew.setCells (w.heap.size + 1) 0 (caseL (aftF c))).rangeAt (w.heap.size + 1) 0 (caseL (aftF c))) := World.rangeAt_setCells_same _ _ _ _ (T_drew Z2)
    have HV : Hid (Below w.heap.size w (Z.drew.setCells (w.heap.size + 1) 0 (caseL (aftF c)))) := Below.setCells' _ (by omega) _ _ _ (Below.drew HZ.out)
    clear hHeld HZ Z2 Z7 Z1a
    generalize hVV : Z.drew.setCells (w.heap.size + 1) 0 (caseL (aftF c)) = V at V2 HV ⊢
    clear hVV
    go_wp2
    refine bodyPost_ret (results_c3 (cs := caseL (aftF c)) rfl _ _ _ rfl V2.out Try.underlying23 rfl Try.info_fc) rfl ?_
    refine ⟨?_, Ext.of_below HV.out⟩
    show _ = Ending.returned (.tuple #[.agg (caseL (aftF c)).toArray, .bool (doneF c), .int .i64 (chkF c)])
    rw [hD.out, HC.out]; rfl
  · have k6 : Y.cell? ⟨w.heap.size, 6, none⟩ = some (.bool (c.bz)) := H.out.2 6 (by omega)
    have f6 : Y.frozen? ⟨w.heap.size, 6, none⟩ = false := by simpa using (T1'.out 6 (by omega)).2
    go_upto_region 25 with (first | (go_at_call 26; refine (waited4 _ c _ H.out T1'.out).mono ?_; rintro e w1 ⟨rfl, os2, n2, rfl⟩))
    refine name_world (fun Z hZ => ?_)
    have Z1 : Z.rangeAt w.heap.size 0 (caseL { c with bz := false }) := by rw [hZ]; exact (R_wext (R_set (H.out.range (Ext.refl _)) (by simp [caseL])) _ _)
    have Z7 : Z.rangeAt X.heap.size 0 (caseL c) := by rw [hZ]; exact (R_wext (R_other R7.out ne7) _ _)
    have Z2 : Z.there (w.heap.size + 1) 0 17 := by rw [hZ]; exact (T_wext (T_set T2'.out) _ _)
    have HZ : Hid (Below w.heap.size w Z) := by
      have hb := HB.out
      have y1' : w.heap.size ≤ Y.heap.size := Nat.le_of_lt y1
      show Below _ _ _
      rw [hZ]
      (repeat' (first | (with_reducible exact Below.refl _ _) | (with_reducible assumption) | (with_reducible refine Below.alloc ?_ ?_ _) | (with_reducible refine Below.wext ?_ ?_ _ _) | (with_reducible refine Below.drew ?_) | (with_reducible refine Below.setCell ?_ ?_ _) | (with_reducible exact Nat.le_refl _) | (with_reducible refine Below.drewN' ?_ _) | (simp; omega) | (simp; done)))
    clear hZ
    have hAc : aftF c = { c with bz := false } := by rw [hA.out]; simp [stepF]
    have Z1a : Z.rangeAt w.heap.size 0 (caseL (aftF c)) := by rw [hAc]; exact Z1
    clear hAc Z1
    refine wp_region_held_drew (S := fun w' => w'.rangeAt w.heap.size 0 (caseL (aftF c)) ∧ w'.rangeAt X.heap.size 0 (caseL c)) (by kernel_rfl) ⟨R_drew Z1a, R_drew Z7⟩ (fun hHeld => ?_)
    refine wpAnyH_take (i := 0) at_0 (by kernel_rfl) (by kernel_rfl) (by kernel_rfl) (fun _ _ _ h => h) (yieldsIf_load_mid (by rfl) _ _ rfl (w.heap.size) 0 rfl (caseL (aftF c)) _ (fun w hw => hw.1) Try.underlying23 rfl Try.info_fc) (by assumption) ?_
    simp only [Act.put, List.setIfInBounds_toArray, List.set_cons_zero, List.set_cons_succ]
    refine wpAnyH_take (i := 1) at_1 (by kernel_rfl) (by kernel_rfl) (by kernel_rfl) (fun _ _ _ h => h) (yieldsIf_load_mid (by rfl) _ _ rfl (w.heap.size) 0 rfl (caseL (aftF c)) _ (fun w hw => hw.1) Try.underlying23 rfl Try.info_fc) (by assumption) ?_
    simp only [Act.put, List.setIfInBounds_toArray, List.set_cons_zero, List.set_cons_succ]
    refine wpAnyH_take (i := 2) at_2 (by kernel_rfl) (by kernel_rfl) (by kernel_rfl) (fun _ _ _ h => h) (yieldsIf_load_mid (by rfl) _ _ rfl (X.heap.size) 0 rfl (caseL c) _ (fun w hw => hw.2) Try.underlying23 rfl Try.info_fc) (by assumption) ?_
    simp only [Act.put, List.setIfInBounds_toArray, List.set_cons_zero, List.set_cons_succ]
    refine wpAnyH_take (i := 3) at_3 (by kernel_rfl) (by kernel_rfl) (by kernel_rfl) (fun _ _ _ h => h) (yieldsIf_eqfc (aftF c) c (by rfl) rfl rfl rfl) (by assumption) ?_
    simp only [Act.put, List.setIfInBounds_toArray, List.set_cons_zero, List.set_cons_succ]
    refine wpAnyH_ready (rs := [4]) (by kernel_rfl) (by simp) (AllReadyH.cons at_4 (fun K hK => ?_) AllReadyH.nil)
    rw [if_pos (by rfl)]
    refine wp_store_mid _ _ _ rfl (w.heap.size + 1) 0 ((caseL (aftF c)).toArray) rfl rfl (T_drew Z2) Try.info_fc (one_fc _) ?_
    simp only [Act.put, List.setIfInBounds_toArray, List.set_cons_zero, List.set_cons_succ]
    refine hK.out _ _ ⟨World.rangeAt_setCells_apart hHeld.1 _ _ _ (Or.inl (by omega)), World.rangeAt_setCells_apart hHeld.2 _ _ _ (Or.inl (Ne.symm ne72))⟩ (fun hHeld => ?_)
    clear hK K
    (try simp only [Act.put, List.setIfInBounds_toArray, List.set_cons_zero, List.set_cons_succ])
    refine wpAnyH_ready (rs := [5]) (by kernel_rfl) (by simp) (AllReadyH.cons at_5 (fun K hK => ?_) AllReadyH.nil)
    go_simp
    refine hK.out _ _ hHeld (fun hHeld => ?_)
    clear hK K
    (try simp only [Act.put, List.setIfInBounds_toArray, List.set_cons_zero, List.set_cons_succ])
    refine wpAnyH_ready (rs := [6]) (by kernel_rfl) (by simp) (AllReadyH.cons at_6 (fun K hK => ?_) AllReadyH.nil)
    go_simp
    refine hK.out _ _ hHeld (fun hHeld => ?_)
    clear hK K
    (try simp only [Act.put, List.setIfInBounds_toArray, List.set_cons_zero, List.set_cons_succ])
    refine wpAnyH_done (by kernel_rfl) ?_ _
    have V2 : Hid ((Z.drew.setCells (w.heap.size + 1) 0 (caseL (aftF c))).rangeAt (w.heap.size + 1) 0 (caseL (aftF c))) := World.rangeAt_setCells_same _ _ _ _ (T_drew Z2)
    have HV : Hid (Below w.heap.size w (Z.drew.setCells (w.heap.size + 1) 0 (caseL (aftF c)))) := Below.setCells' _ (by omega) _ _ _ (Below.drew HZ.out)
    clear hHeld HZ Z2 Z7 Z1a
    generalize hVV : Z.drew.setCells (w.heap.size + 1) 0 (caseL (aftF c)) = V at V2 HV ⊢
    clear hVV
    go_wp2
    refine bodyPost_ret (results_c3 (cs := caseL (aftF c)) rfl _ _ _ rfl V2.out Try.underlying23 rfl Try.info_fc) rfl ?_
    refine ⟨?_, Ext.of_below HV.out⟩
    show _ = Ending.returned (.tuple #[.agg (caseL (aftF c)).toArray, .bool (doneF c), .int .i64 (chkF c)])
    rw [hD.out, HC.out]; rfl
  · have k15 : Y.cell? ⟨w.heap.size, 15, none⟩ = some (.bool (c.fu)) := H.out.2 15 (by omega)
    have f15 : Y.frozen? ⟨w.heap.size, 15, none⟩ = false := by simpa using (T1'.out 15 (by omega)).2
    go_upto_region 25 with (first | (go_at_call 26; refine (waited5 _ c _ H.out T1'.out).mono ?_; rintro e w1 ⟨rfl, os2, n2, rfl⟩))
    refine name_world (fun Z hZ => ?_)
    have Z1 : Z.rangeAt w.heap.size 0 (caseL { c with fu := false }) := by rw [hZ]; exact (R_wext (R_set (H.out.range (Ext.refl _)) (by simp [caseL])) _ _)
    have Z7 : Z.rangeAt X.heap.size 0 (caseL c) := by rw [hZ]; exact (R_wext (R_other R7.out ne7) _ _)
    have Z2 : Z.there (w.heap.size + 1) 0 17 := by rw [hZ]; exact (T_wext (T_set T2'.out) _ _)
    have HZ : Hid (Below w.heap.size w Z) := by
      have hb := HB.out
      have y1' : w.heap.size ≤ Y.heap.size := Nat.le_of_lt y1
      show Below _ _ _
      rw [hZ]
      (repeat' (first | (with_reducible exact Below.refl _ _) | (with_reducible assumption) | (with_reducible refine Below.alloc ?_ ?_ _) | (with_reducible refine Below.wext ?_ ?_ _ _) | (with_reducible refine Below.drew ?_) | (with_reducible refine Below.setCell ?_ ?_ _) | (with_reducible exact Nat.le_refl _) | (with_reducible refine Below.drewN' ?_ _) | (simp; omega) | (simp; done)))
    clear hZ
    have hAc : aftF c = { c with fu := false } := by rw [hA.out]; simp [stepF]
    have Z1a : Z.rangeAt w.heap.size 0 (caseL (aftF c)) := by rw [hAc]; exact Z1
    clear hAc Z1
    refine wp_region_held_drew (S := fun w' => w'.rangeAt w.heap.size 0 (caseL (aftF c)) ∧ w'.rangeAt X.heap.size 0 (caseL c)) (by kernel_rfl) ⟨R_drew Z1a, R_drew Z7⟩ (fun hHeld => ?_)
    refine wpAnyH_take (i := 0) at_0 (by kernel_rfl) (by kernel_rfl) (by kernel_rfl) (fun _ _ _ h => h) (yieldsIf_load_mid (by rfl) _ _ rfl (w.heap.size) 0 rfl (caseL (aftF c)) _ (fun w hw => hw.1) Try.underlying23 rfl Try.info_fc) (by assumption) ?_
    simp only [Act.put, List.setIfInBounds_toArray, List.set_cons_zero, List.set_cons_succ]
    refine wpAnyH_take (i := 1) at_1 (by kernel_rfl) (by kernel_rfl) (by kernel_rfl) (fun _ _ _ h => h) (yieldsIf_load_mid (by rfl) _ _ rfl (w.heap.size) 0 rfl (caseL (aftF c)) _ (fun w hw => hw.1) Try.underlying23 rfl Try.info_fc) (by assumption) ?_
    simp only [Act.put, List.setIfInBounds_toArray, List.set_cons_zero, List.set_cons_succ]
    refine wpAnyH_take (i := 2) at_2 (by kernel_rfl) (by kernel_rfl) (by kernel_rfl) (fun _ _ _ h => h) (yieldsIf_load_mid (by rfl) _ _ rfl (X.heap.size) 0 rfl (caseL c) _ (fun w hw => hw.2) Try.underlying23 rfl Try.info_fc) (by assumption) ?_
    simp only [Act.put, List.setIfInBounds_toArray, List.set_cons_zero, List.set_cons_succ]
    refine wpAnyH_take (i := 3) at_3 (by kernel_rfl) (by kernel_rfl) (by kernel_rfl) (fun _ _ _ h => h) (yieldsIf_eqfc (aftF c) c (by rfl) rfl rfl rfl) (by assumption) ?_
    simp only [Act.put, List.setIfInBounds_toArray, List.set_cons_zero, List.set_cons_succ]
    refine wpAnyH_ready (rs := [4]) (by kernel_rfl) (by simp) (AllReadyH.cons at_4 (fun K hK => ?_) AllReadyH.nil)
    rw [if_pos (by rfl)]
    refine wp_store_mid _ _ _ rfl (w.heap.size + 1) 0 ((caseL (aftF c)).toArray) rfl rfl (T_drew Z2) Try.info_fc (one_fc _) ?_
    simp only [Act.put, List.setIfInBounds_toArray, List.set_cons_zero, List.set_cons_succ]
    refine hK.out _ _ ⟨World.rangeAt_setCells_apart hHeld.1 _ _ _ (Or.inl (by omega)), World.rangeAt_setCells_apart hHeld.2 _ _ _ (Or.inl (Ne.symm ne72))⟩ (fun hHeld => ?_)
    clear hK K
    (try simp only [Act.put, List.setIfInBounds_toArray, List.set_cons_zero, List.set_cons_succ])
    refine wpAnyH_ready (rs := [5]) (by kernel_rfl) (by simp) (AllReadyH.cons at_5 (fun K hK => ?_) AllReadyH.nil)
    go_simp
    refine hK.out _ _ hHeld (fun hHeld => ?_)
    clear hK K
    (try simp only [Act.put, List.setIfInBounds_toArray, List.set_cons_zero, List.set_cons_succ])
    refine wpAnyH_ready (rs := [6]) (by kernel_rfl) (by simp) (AllReadyH.cons at_6 (fun K hK => ?_) AllReadyH.nil)
    go_simp
    refine hK.out _ _ hHeld (fun hHeld => ?_)
    clear hK K
    (try simp only [Act.put, List.setIfInBounds_toArray, List.set_cons_zero, List.set_cons_succ])
    refine wpAnyH_done (by kernel_rfl) ?_ _
    have V2 : Hid ((Z.drew.setCells (w.heap.size + 1) 0 (caseL (aftF c))).rangeAt (w.heap.size + 1) 0 (caseL (aftF c))) := World.rangeAt_setCells_same _ _ _ _ (T_drew Z2)
    have HV : Hid (Below w.heap.size w (Z.drew.setCells (w.heap.size + 1) 0 (caseL (aftF c)))) := Below.setCells' _ (by omega) _ _ _ (Below.drew HZ.out)
    clear hHeld HZ Z2 Z7 Z1a
    generalize hVV : Z.drew.setCells (w.heap.size + 1) 0 (caseL (aftF c)) = V at V2 HV ⊢
    clear hVV
    go_wp2
    refine bodyPost_ret (results_c3 (cs := caseL (aftF c)) rfl _ _ _ rfl V2.out Try.underlying23 rfl Try.info_fc) rfl ?_
    refine ⟨?_, Ext.of_below HV.out⟩
    show _ = Ending.returned (.tuple #[.agg (caseL (aftF c)).toArray, .bool (doneF c), .int .i64 (chkF c)])
    rw [hD.out, HC.out]; rfl
  · by_cases he : c.en = 3
    · have k7 : Y.cell? ⟨w.heap.size, 7, none⟩ = some (.int .i64 c.en) := H.out.2 7 (by omega)
      have f7 : Y.frozen? ⟨w.heap.size, 7, none⟩ = false := by simpa using (T1'.out 7 (by omega)).2
      have k9 : Y.cell? ⟨w.heap.size, 9, none⟩ = some (.bool (c.tr)) := H.out.2 9 (by omega)
      have f9 : Y.frozen? ⟨w.heap.size, 9, none⟩ = false := by simpa using (T1'.out 9 (by omega)).2
      go_upto_region 25 with (first | (go_at_call 26; refine (waited3a _ c _ H.out T1'.out he).mono ?_; rintro e w1 ⟨rfl, os2, n2, rfl⟩))
      refine name_world (fun Z hZ => ?_)
      have Z1 : Z.rangeAt w.heap.size 0 (caseL { c with tr := false, en := 1 }) := by rw [hZ]; exact (R_wext (R_set (R_set (H.out.range (Ext.refl _)) (by simp [caseL])) (by simp [caseL])) _ _)
      have Z7 : Z.rangeAt X.heap.size 0 (caseL c) := by rw [hZ]; exact (R_wext (R_other (R_other R7.out ne7) ne7) _ _)
      have Z2 : Z.there (w.heap.size + 1) 0 17 := by rw [hZ]; exact (T_wext (T_set (T_set T2'.out)) _ _)
      have HZ : Hid (Below w.heap.size w Z) := by
        have hb := HB.out
        have y1' : w.heap.size ≤ Y.heap.size := Nat.le_of_lt y1
        show Below _ _ _
        rw [hZ]
        (repeat' (first | (with_reducible exact Below.refl _ _) | (with_reducible assumption) | (with_reducible refine Below.alloc ?_ ?_ _) | (with_reducible refine Below.wext ?_ ?_ _ _) | (with_reducible refine Below.drew ?_) | (with_reducible refine Below.setCell ?_ ?_ _) | (with_reducible exact Nat.le_refl _) | (with_reducible refine Below.drewN' ?_ _) | (simp; omega) | (simp; done)))
      clear hZ
      have hAc : aftF c = { c with tr := false, en := 1 } := by rw [hA.out]; simp [stepF, he]
      have Z1a : Z.rangeAt w.heap.size 0 (caseL (aftF c)) := by rw [hAc]; exact Z1
      clear hAc Z1
      refine wp_region_held_drew (S := fun w' => w'.rangeAt w.heap.size 0 (caseL (aftF c)) ∧ w'.rangeAt X.heap.size 0 (caseL c)) (by kernel_rfl) ⟨R_drew Z1a, R_drew Z7⟩ (fun hHeld => ?_)
      refine wpAnyH_take (i := 0) at_0 (by kernel_rfl) (by kernel_rfl) (by kernel_rfl) (fun _ _ _ h => h) (yieldsIf_load_mid (by rfl) _ _ rfl (w.heap.size) 0 rfl (caseL (aftF c)) _ (fun w hw => hw.1) Try.underlying23 rfl Try.info_fc) (by assumption) ?_
      simp only [Act.put, List.setIfInBounds_toArray, List.set_cons_zero, List.set_cons_succ]
      refine wpAnyH_take (i := 1) at_1 (by kernel_rfl) (by kernel_rfl) (by kernel_rfl) (fun _ _ _ h => h) (yieldsIf_load_mid (by rfl) _ _ rfl (w.heap.size) 0 rfl (caseL (aftF c)) _ (fun w hw => hw.1) Try.underlying23 rfl Try.info_fc) (by assumption) ?_
      simp only [Act.put, List.setIfInBounds_toArray, List.set_cons_zero, List.set_cons_succ]
      refine wpAnyH_take (i := 2) at_2 (by kernel_rfl) (by kernel_rfl) (by kernel_rfl) (fun _ _ _ h => h) (yieldsIf_load_mid (by rfl) _ _ rfl (X.heap.size) 0 rfl (caseL c) _ (fun w hw => hw.2) Try.underlying23 rfl Try.info_fc) (by assumption) ?_
      simp only [Act.put, List.setIfInBounds_toArray, List.set_cons_zero, List.set_cons_succ]
      refine wpAnyH_take (i := 3) at_3 (by kernel_rfl) (by kernel_rfl) (by kernel_rfl) (fun _ _ _ h => h) (yieldsIf_eqfc (aftF c) c (by rfl) rfl rfl rfl) (by assumption) ?_
      simp only [Act.put, List.setIfInBounds_toArray, List.set_cons_zero, List.set_cons_succ]
      refine wpAnyH_ready (rs := [4]) (by kernel_rfl) (by simp) (AllReadyH.cons at_4 (fun K hK => ?_) AllReadyH.nil)
      rw [if_pos (by rfl)]
      refine wp_store_mid _ _ _ rfl (w.heap.size + 1) 0 ((caseL (aftF c)).toArray) rfl rfl (T_drew Z2) Try.info_fc (one_fc _) ?_
      simp only [Act.put, List.setIfInBounds_toArray, List.set_cons_zero, List.set_cons_succ]
      refine hK.out _ _ ⟨World.rangeAt_setCells_apart hHeld.1 _ _ _ (Or.inl (by omega)), World.rangeAt_setCells_apart hHeld.2 _ _ _ (Or.inl (Ne.symm ne72))⟩ (fun hHeld => ?_)
      clear hK K
      (try simp only [Act.put, List.setIfInBounds_toArray, List.set_cons_zero, List.set_cons_succ])
      refine wpAnyH_ready (rs := [5]) (by kernel_rfl) (by simp) (AllReadyH.cons at_5 (fun K hK => ?_) AllReadyH.nil)
      go_simp
      refine hK.out _ _ hHeld (fun hHeld => ?_)
      clear hK K
      (try simp only [Act.put, List.setIfInBounds_toArray, List.set_cons_zero, List.set_cons_succ])
      refine wpAnyH_ready (rs := [6]) (by kernel_rfl) (by simp) (AllReadyH.cons at_6 (fun K hK => ?_) AllReadyH.nil)
      go_simp
      refine hK.out _ _ hHeld (fun hHeld => ?_)
      clear hK K
      (try simp only [Act.put, List.setIfInBounds_toArray, List.set_cons_zero, List.set_cons_succ])
      refine wpAnyH_done (by kernel_rfl) ?_ _
      have V2 : Hid ((Z.drew.setCells (w.heap.size + 1) 0 (caseL (aftF c))).rangeAt (w.heap.size + 1) 0 (caseL (aftF c))) := World.rangeAt_setCells_same _ _ _ _ (T_drew Z2)
      have HV : Hid (Below w.heap.size w (Z.drew.setCells (w.heap.size + 1) 0 (caseL (aftF c)))) := Below.setCells' _ (by omega) _ _ _ (Below.drew HZ.out)
      clear hHeld HZ Z2 Z7 Z1a
      generalize hVV : Z.drew.setCells (w.heap.size + 1) 0 (caseL (aftF c)) = V at V2 HV ⊢
      clear hVV
      go_wp2
      refine bodyPost_ret (results_c3 (cs := caseL (aftF c)) rfl _ _ _ rfl V2.out Try.underlying23 rfl Try.info_fc) rfl ?_
      refine ⟨?_, Ext.of_below HV.out⟩
      show _ = Ending.returned (.tuple #[.agg (caseL (aftF c)).toArray, .bool (doneF c), .int .i64 (chkF c)])
      rw [hD.out, HC.out]; rfl
    · have k9 : Y.cell? ⟨w.heap.size, 9, none⟩ = some (.bool (c.tr)) := H.out.2 9 (by omega)
      have f9 : Y.frozen? ⟨w.heap.size, 9, none⟩ = false := by simpa using (T1'.out 9 (by omega)).2
      go_upto_region 25 with (first | (go_at_call 26; refine (waited3b _ c _ H.out T1'.out he).mono ?_; rintro e w1 ⟨rfl, os2, n2, rfl⟩))
      refine name_world (fun Z hZ => ?_)
      have Z1 : Z.rangeAt w.heap.size 0 (caseL { c with tr := false }) := by rw [hZ]; exact (R_wext (R_set (H.out.range (Ext.refl _)) (by simp [caseL])) _ _)
      have Z7 : Z.rangeAt X.heap.size 0 (caseL c) := by rw [hZ]; exact (R_wext (R_other R7.out ne7) _ _)
      have Z2 : Z.there (w.heap.size + 1) 0 17 := by rw [hZ]; exact (T_wext (T_set T2'.out) _ _)
      have HZ : Hid (Below w.heap.size w Z) := by
        have hb := HB.out
        have y1' : w.heap.size ≤ Y.heap.size := Nat.le_of_lt y1
        show Below _ _ _
        rw [hZ]
        (repeat' (first | (with_reducible exact Below.refl _ _) | (with_reducible assumption) | (with_reducible refine Below.alloc ?_ ?_ _) | (with_reducible refine Below.wext ?_ ?_ _ _) | (with_reducible refine Below.drew ?_) | (with_reducible refine Below.setCell ?_ ?_ _) | (with_reducible exact Nat.le_refl _) | (with_reducible refine Below.drewN' ?_ _) | (simp; omega) | (simp; done)))
      clear hZ
      have hAc : aftF c = { c with tr := false } := by rw [hA.out]; simp [stepF, he]
      have Z1a : Z.rangeAt w.heap.size 0 (caseL (aftF c)) := by rw [hAc]; exact Z1
      clear hAc Z1
      refine wp_region_held_drew (S := fun w' => w'.rangeAt w.heap.size 0 (caseL (aftF c)) ∧ w'.rangeAt X.heap.size 0 (caseL c)) (by kernel_rfl) ⟨R_drew Z1a, R_drew Z7⟩ (fun hHeld => ?_)
      refine wpAnyH_take (i := 0) at_0 (by kernel_rfl) (by kernel_rfl) (by kernel_rfl) (fun _ _ _ h => h) (yieldsIf_load_mid (by rfl) _ _ rfl (w.heap.size) 0 rfl (caseL (aftF c)) _ (fun w hw => hw.1) Try.underlying23 rfl Try.info_fc) (by assumption) ?_
      simp only [Act.put, List.setIfInBounds_toArray, List.set_cons_zero, List.set_cons_succ]
      refine wpAnyH_take (i := 1) at_1 (by kernel_rfl) (by kernel_rfl) (by kernel_rfl) (fun _ _ _ h => h) (yieldsIf_load_mid (by rfl) _ _ rfl (w.heap.size) 0 rfl (caseL (aftF c)) _ (fun w hw => hw.1) Try.underlying23 rfl Try.info_fc) (by assumption) ?_
      simp only [Act.put, List.setIfInBounds_toArray, List.set_cons_zero, List.set_cons_succ]
      refine wpAnyH_take (i := 2) at_2 (by kernel_rfl) (by kernel_rfl) (by kernel_rfl) (fun _ _ _ h => h) (yieldsIf_load_mid (by rfl) _ _ rfl (X.heap.size) 0 rfl (caseL c) _ (fun w hw => hw.2) Try.underlying23 rfl Try.info_fc) (by assumption) ?_
      simp only [Act.put, List.setIfInBounds_toArray, List.set_cons_zero, List.set_cons_succ]
      refine wpAnyH_take (i := 3) at_3 (by kernel_rfl) (by kernel_rfl) (by kernel_rfl) (fun _ _ _ h => h) (yieldsIf_eqfc (aftF c) c (by rfl) rfl rfl rfl) (by assumption) ?_
      simp only [Act.put, List.setIfInBounds_toArray, List.set_cons_zero, List.set_cons_succ]
      refine wpAnyH_ready (rs := [4]) (by kernel_rfl) (by simp) (AllReadyH.cons at_4 (fun K hK => ?_) AllReadyH.nil)
      rw [if_pos (by rfl)]
      refine wp_store_mid _ _ _ rfl (w.heap.size + 1) 0 ((caseL (aftF c)).toArray) rfl rfl (T_drew Z2) Try.info_fc (one_fc _) ?_
      simp only [Act.put, List.setIfInBounds_toArray, List.set_cons_zero, List.set_cons_succ]
      refine hK.out _ _ ⟨World.rangeAt_setCells_apart hHeld.1 _ _ _ (Or.inl (by omega)), World.rangeAt_setCells_apart hHeld.2 _ _ _ (Or.inl (Ne.symm ne72))⟩ (fun hHeld => ?_)
      clear hK K
      (try simp only [Act.put, List.setIfInBounds_toArray, List.set_cons_zero, List.set_cons_succ])
      refine wpAnyH_ready (rs := [5]) (by kernel_rfl) (by simp) (AllReadyH.cons at_5 (fun K hK => ?_) AllReadyH.nil)
      go_simp
      refine hK.out _ _ hHeld (fun hHeld => ?_)
      clear hK K
      (try simp only [Act.put, List.setIfInBounds_toArray, List.set_cons_zero, List.set_cons_succ])
      refine wpAnyH_ready (rs := [6]) (by kernel_rfl) (by simp) (AllReadyH.cons at_6 (fun K hK => ?_) AllReadyH.nil)
      go_simp
      refine hK.out _ _ hHeld (fun hHeld => ?_)
      clear hK K
      (try simp only [Act.put, List.setIfInBounds_toArray, List.set_cons_zero, List.set_cons_succ])
      refine wpAnyH_done (by kernel_rfl) ?_ _
      have V2 : Hid ((Z.drew.setCells (w.heap.size + 1) 0 (caseL (aftF c))).rangeAt (w.heap.size + 1) 0 (caseL (aftF c))) := World.rangeAt_setCells_same _ _ _ _ (T_drew Z2)
      have HV : Hid (Below w.heap.size w (Z.drew.setCells (w.heap.size + 1) 0 (caseL (aftF c)))) := Below.setCells' _ (by omega) _ _ _ (Below.drew HZ.out)
      clear hHeld HZ Z2 Z7 Z1a
      generalize hVV : Z.drew.setCells (w.heap.size + 1) 0 (caseL (aftF c)) = V at V2 HV ⊢
      clear hVV
      go_wp2
      refine bodyPost_ret (results_c3 (cs := caseL (aftF c)) rfl _ _ _ rfl V2.out Try.underlying23 rfl Try.info_fc) rfl ?_
      refine ⟨?_, Ext.of_below HV.out⟩
      show _ = Ending.returned (.tuple #[.agg (caseL (aftF c)).toArray, .bool (doneF c), .int .i64 (chkF c)])
      rw [hD.out, HC.out]; rfl
  · have k8 : Y.cell? ⟨w.heap.size, 8, none⟩ = some (.bool (c.wb)) := H.out.2 8 (by omega)
    have f8 : Y.frozen? ⟨w.heap.size, 8, none⟩ = false := by simpa using (T1'.out 8 (by omega)).2
    go_upto_region 25 with (first | fail)
    refine name_world (fun Z hZ => ?_)
    have Z1 : Z.rangeAt w.heap.size 0 (caseL { c with wb := true }) := by rw [hZ]; exact (R_set (H.out.range (Ext.refl _)) (by simp [caseL]))
    have Z7 : Z.rangeAt X.heap.size 0 (caseL c) := by rw [hZ]; exact (R_other R7.out ne7)
    have Z2 : Z.there (w.heap.size + 1) 0 17 := by rw [hZ]; exact (T_set T2'.out)
    have HZ : Hid (Below w.heap.size w Z) := by
      have hb := HB.out
      have y1' : w.heap.size ≤ Y.heap.size := Nat.le_of_lt y1
      show Below _ _ _
      rw [hZ]
      (repeat' (first | (with_reducible exact Below.refl _ _) | (with_reducible assumption) | (with_reducible refine Below.alloc ?_ ?_ _) | (with_reducible refine Below.wext ?_ ?_ _ _) | (with_reducible refine Below.drew ?_) | (with_reducible refine Below.setCell ?_ ?_ _) | (with_reducible exact Nat.le_refl _) | (with_reducible refine Below.drewN' ?_ _) | (simp; omega) | (simp; done)))
    clear hZ
    have hAc : aftF c = { c with wb := true } := by rw [hA.out]; simp [stepF]
    have Z1a : Z.rangeAt w.heap.size 0 (caseL (aftF c)) := by rw [hAc]; exact Z1
    clear hAc Z1
    refine wp_region_held_drew (S := fun w' => w'.rangeAt w.heap.size 0 (caseL (aftF c)) ∧ w'.rangeAt X.heap.size 0 (caseL c)) (by kernel_rfl) ⟨R_drew Z1a, R_drew Z7⟩ (fun hHeld => ?_)
    refine wpAnyH_take (i := 0) at_0 (by kernel_rfl) (by kernel_rfl) (by kernel_rfl) (fun _ _ _ h => h) (yieldsIf_load_mid (by rfl) _ _ rfl (w.heap.size) 0 rfl (caseL (aftF c)) _ (fun w hw => hw.1) Try.underlying23 rfl Try.info_fc) (by assumption) ?_
    simp only [Act.put, List.setIfInBounds_toArray, List.set_cons_zero, List.set_cons_succ]
    refine wpAnyH_take (i := 1) at_1 (by kernel_rfl) (by kernel_rfl) (by kernel_rfl) (fun _ _ _ h => h) (yieldsIf_load_mid (by rfl) _ _ rfl (w.heap.size) 0 rfl (caseL (aftF c)) _ (fun w hw => hw.1) Try.underlying23 rfl Try.info_fc) (by assumption) ?_
    simp only [Act.put, List.setIfInBounds_toArray, List.set_cons_zero, List.set_cons_succ]
    refine wpAnyH_take (i := 2) at_2 (by kernel_rfl) (by kernel_rfl) (by kernel_rfl) (fun _ _ _ h => h) (yieldsIf_load_mid (by rfl) _ _ rfl (X.heap.size) 0 rfl (caseL c) _ (fun w hw => hw.2) Try.underlying23 rfl Try.info_fc) (by assumption) ?_
    simp only [Act.put, List.setIfInBounds_toArray, List.set_cons_zero, List.set_cons_succ]
    refine wpAnyH_take (i := 3) at_3 (by kernel_rfl) (by kernel_rfl) (by kernel_rfl) (fun _ _ _ h => h) (yieldsIf_eqfc (aftF c) c (by rfl) rfl rfl rfl) (by assumption) ?_
    simp only [Act.put, List.setIfInBounds_toArray, List.set_cons_zero, List.set_cons_succ]
    refine wpAnyH_ready (rs := [4]) (by kernel_rfl) (by simp) (AllReadyH.cons at_4 (fun K hK => ?_) AllReadyH.nil)
    rw [if_pos (by rfl)]
    refine wp_store_mid _ _ _ rfl (w.heap.size + 1) 0 ((caseL (aftF c)).toArray) rfl rfl (T_drew Z2) Try.info_fc (one_fc _) ?_
    simp only [Act.put, List.setIfInBounds_toArray, List.set_cons_zero, List.set_cons_succ]
    refine hK.out _ _ ⟨World.rangeAt_setCells_apart hHeld.1 _ _ _ (Or.inl (by omega)), World.rangeAt_setCells_apart hHeld.2 _ _ _ (Or.inl (Ne.symm ne72))⟩ (fun hHeld => ?_)
    clear hK K
    (try simp only [Act.put, List.setIfInBounds_toArray, List.set_cons_zero, List.set_cons_succ])
    refine wpAnyH_ready (rs := [5]) (by kernel_rfl) (by simp) (AllReadyH.cons at_5 (fun K hK => ?_) AllReadyH.nil)
    go_simp
    refine hK.out _ _ hHeld (fun hHeld => ?_)
    clear hK K
    (try simp only [Act.put, List.setIfInBounds_toArray, List.set_cons_zero, List.set_cons_succ])
    refine wpAnyH_ready (rs := [6]) (by kernel_rfl) (by simp) (AllReadyH.cons at_6 (fun K hK => ?_) AllReadyH.nil)
    go_simp
    refine hK.out _ _ hHeld (fun hHeld => ?_)
    clear hK K
    (try simp only [Act.put, List.setIfInBounds_toArray, List.set_cons_zero, List.set_cons_succ])
    refine wpAnyH_done (by kernel_rfl) ?_ _
    have V2 : Hid ((Z.drew.setCells (w.heap.size + 1) 0 (caseL (aftF c))).rangeAt (w.heap.size + 1) 0 (caseL (aftF c))) := World.rangeAt_setCells_same _ _ _ _ (T_drew Z2)
    have HV : Hid (Below w.heap.size w (Z.drew.setCells (w.heap.size + 1) 0 (caseL (aftF c)))) := Below.setCells' _ (by omega) _ _ _ (Below.drew HZ.out)
    clear hHeld HZ Z2 Z7 Z1a
    generalize hVV : Z.drew.setCells (w.heap.size + 1) 0 (caseL (aftF c)) = V at V2 HV ⊢
    clear hVV
    go_wp2
    refine bodyPost_ret (results_c3 (cs := caseL (aftF c)) rfl _ _ _ rfl V2.out Try.underlying23 rfl Try.info_fc) rfl ?_
    refine ⟨?_, Ext.of_below HV.out⟩
    show _ = Ending.returned (.tuple #[.agg (caseL (aftF c)).toArray, .bool (doneF c), .int .i64 (chkF c)])
    rw [hD.out, HC.out]; rfl
  · have k8 : Y.cell? ⟨w.heap.size, 8, none⟩ = some (.bool (c.wb)) := H.out.2 8 (by omega)
    have f8 : Y.frozen? ⟨w.heap.size, 8, none⟩ = false := by simpa using (T1'.out 8 (by omega)).2
    have k14 : Y.cell? ⟨w.heap.size, 14, none⟩ = some (.bool (c.di)) := H.out.2 14 (by omega)
    have f14 : Y.frozen? ⟨w.heap.size, 14, none⟩ = false := by simpa using (T1'.out 14 (by omega)).2
    go_upto_region 25 with (first | fail)
    refine name_world (fun Z hZ => ?_)
    have Z1 : Z.rangeAt w.heap.size 0 (caseL { c with di := true, wb := true }) := by rw [hZ]; exact (R_set (R_set (H.out.range (Ext.refl _)) (by simp [caseL])) (by simp [caseL]))
    have Z7 : Z.rangeAt X.heap.size 0 (caseL c) := by rw [hZ]; exact (R_other (R_other R7.out ne7) ne7)
    have Z2 : Z.there (w.heap.size + 1) 0 17 := by rw [hZ]; exact (T_set (T_set T2'.out))
    have HZ : Hid (Below w.heap.size w Z) := by
      have hb := HB.out
      have y1' : w.heap.size ≤ Y.heap.size := Nat.le_of_lt y1
      show Below _ _ _
      rw [hZ]
      (repeat' (first | (with_reducible exact Below.refl _ _) | (with_reducible assumption) | (with_reducible refine Below.alloc ?_ ?_ _) | (with_reducible refine Below.wext ?_ ?_ _ _) | (with_reducible refine Below.drew ?_) | (with_reducible refine Below.setCell ?_ ?_ _) | (with_reducible exact Nat.le_refl _) | (with_reducible refine Below.drewN' ?_ _) | (simp; omega) | (simp; done)))
    clear hZ
    have hAc : aftF c = { c with di := true, wb := true } := by rw [hA.out]; simp [stepF]
    have Z1a : Z.rangeAt w.heap.size 0 (caseL (aftF c)) := by rw [hAc]; exact Z1
    clear hAc Z1
    refine wp_region_held_drew (S := fun w' => w'.rangeAt w.heap.size 0 (caseL (aftF c)) ∧ w'.rangeAt X.heap.size 0 (caseL c)) (by kernel_rfl) ⟨R_drew Z1a, R_drew Z7⟩ (fun hHeld => ?_)
    refine wpAnyH_take (i := 0) at_0 (by kernel_rfl) (by kernel_rfl) (by kernel_rfl) (fun _ _ _ h => h) (yieldsIf_load_mid (by rfl) _ _ rfl (w.heap.size) 0 rfl (caseL (aftF c)) _ (fun w hw => hw.1) Try.underlying23 rfl Try.info_fc) (by assumption) ?_
    simp only [Act.put, List.setIfInBounds_toArray, List.set_cons_zero, List.set_cons_succ]
    refine wpAnyH_take (i := 1) at_1 (by kernel_rfl) (by kernel_rfl) (by kernel_rfl) (fun _ _ _ h => h) (yieldsIf_load_mid (by rfl) _ _ rfl (w.heap.size) 0 rfl (caseL (aftF c)) _ (fun w hw => hw.1) Try.underlying23 rfl Try.info_fc) (by assumption) ?_
    simp only [Act.put, List.setIfInBounds_toArray, List.set_cons_zero, List.set_cons_succ]
    refine wpAnyH_take (i := 2) at_2 (by kernel_rfl) (by kernel_rfl) (by kernel_rfl) (fun _ _ _ h => h) (yieldsIf_load_mid (by rfl) _ _ rfl (X.heap.size) 0 rfl (caseL c) _ (fun w hw => hw.2) Try.underlying23 rfl Try.info_fc) (by assumption) ?_
    simp only [Act.put, List.setIfInBounds_toArray, List.set_cons_zero, List.set_cons_succ]
    refine wpAnyH_take (i := 3) at_3 (by kernel_rfl) (by kernel_rfl) (by kernel_rfl) (fun _ _ _ h => h) (yieldsIf_eqfc (aftF c) c (by rfl) rfl rfl rfl) (by assumption) ?_
    simp only [Act.put, List.setIfInBounds_toArray, List.set_cons_zero, List.set_cons_succ]
    refine wpAnyH_ready (rs := [4]) (by kernel_rfl) (by simp) (AllReadyH.cons at_4 (fun K hK => ?_) AllReadyH.nil)
    rw [if_pos (by rfl)]
    refine wp_store_mid _ _ _ rfl (w.heap.size + 1) 0 ((caseL (aftF c)).toArray) rfl rfl (T_drew Z2) Try.info_fc (one_fc _) ?_
    simp only [Act.put, List.setIfInBounds_toArray, List.set_cons_zero, List.set_cons_succ]
    refine hK.out _ _ ⟨World.rangeAt_setCells_apart hHeld.1 _ _ _ (Or.inl (by omega)), World.rangeAt_setCells_apart hHeld.2 _ _ _ (Or.inl (Ne.symm ne72))⟩ (fun hHeld => ?_)
    clear hK K
    (try simp only [Act.put, List.setIfInBounds_toArray, List.set_cons_zero, List.set_cons_succ])
    refine wpAnyH_ready (rs := [5]) (by kernel_rfl) (by simp) (AllReadyH.cons at_5 (fun K hK => ?_) AllReadyH.nil)
    go_simp
    refine hK.out _ _ hHeld (fun hHeld => ?_)
    clear hK K
    (try simp only [Act.put, List.setIfInBounds_toArray, List.set_cons_zero, List.set_cons_succ])
    refine wpAnyH_ready (rs := [6]) (by kernel_rfl) (by simp) (AllReadyH.cons at_6 (fun K hK => ?_) AllReadyH.nil)
    go_simp
    refine hK.out _ _ hHeld (fun hHeld => ?_)
    clear hK K
    (try simp only [Act.put, List.setIfInBounds_toArray, List.set_cons_zero, List.set_cons_succ])
    refine wpAnyH_done (by kernel_rfl) ?_ _
    have V2 : Hid ((Z.drew.setCells (w.heap.size + 1) 0 (caseL (aftF c))).rangeAt (w.heap.size + 1) 0 (caseL (aftF c))) := World.rangeAt_setCells_same _ _ _ _ (T_drew Z2)
    have HV : Hid (Below w.heap.size w (Z.drew.setCells (w.heap.size + 1) 0 (caseL (aftF c)))) := Below.setCells' _ (by omega) _ _ _ (Below.drew HZ.out)
    clear hHeld HZ Z2 Z7 Z1a
    generalize hVV : Z.drew.setCells (w.heap.size + 1) 0 (caseL (aftF c)) = V at V2 HV ⊢
    clear hVV
    go_wp2
    refine bodyPost_ret (results_c3 (cs := caseL (aftF c)) rfl _ _ _ rfl V2.out Try.underlying23 rfl Try.info_fc) rfl ?_
    refine ⟨?_, Ext.of_below HV.out⟩
    show _ = Ending.returned (.tuple #[.agg (caseL (aftF c)).toArray, .bool (doneF c), .int .i64 (chkF c)])
    rw [hD.out, HC.out]; rfl
  · have k8 : Y.cell? ⟨w.heap.size, 8, none⟩ = some (.bool (c.wb)) := H.out.2 8 (by omega)
    have f8 : Y.frozen? ⟨w.heap.size, 8, none⟩ = false := by simpa using (T1'.out 8 (by omega)).2
    have k10 : Y.cell? ⟨w.heap.size, 10, none⟩ = some (.bool (c.ow)) := H.out.2 10 (by omega)
    have f10 : Y.frozen? ⟨w.heap.size, 10, none⟩ = false := by simpa using (T1'.out 10 (by omega)).2
    have k11 : Y.cell? ⟨w.heap.size, 11, none⟩ = some (.bool (c.on)) := H.out.2 11 (by omega)
    have f11 : Y.frozen? ⟨w.heap.size, 11, none⟩ = false := by simpa using (T1'.out 11 (by omega)).2
    go_upto_region 25 with (first | fail)
    refine name_world (fun Z hZ => ?_)
    have Z1 : Z.rangeAt w.heap.size 0 (caseL { c with ow := true, on := true, wb := true }) := by rw [hZ]; exact (R_set (R_set (R_set (H.out.range (Ext.refl _)) (by simp [caseL])) (by simp [caseL])) (by simp [caseL]))
    have Z7 : Z.rangeAt X.heap.size 0 (caseL c) := by rw [hZ]; exact (R_other (R_other (R_other R7.out ne7) ne7) ne7)
    have Z2 : Z.there (w.heap.size + 1) 0 17 := by rw [hZ]; exact (T_set (T_set (T_set T2'.out)))
    have HZ : Hid (Below w.heap.size w Z) := by
      have hb := HB.out
      have y1' : w.heap.size ≤ Y.heap.size := Nat.le_of_lt y1
      show Below _ _ _
      rw [hZ]
      (repeat' (first | (with_reducible exact Below.refl _ _) | (with_reducible assumption) | (with_reducible refine Below.alloc ?_ ?_ _) | (with_reducible refine Below.wext ?_ ?_ _ _) | (with_reducible refine Below.drew ?_) | (with_reducible refine Below.setCell ?_ ?_ _) | (with_reducible exact Nat.le_refl _) | (with_reducible refine Below.drewN' ?_ _) | (simp; omega) | (simp; done)))
    clear hZ
    have hAc : aftF c = { c with ow := true, on := true, wb := true } := by rw [hA.out]; simp [stepF]
    have Z1a : Z.rangeAt w.heap.size 0 (caseL (aftF c)) := by rw [hAc]; exact Z1
    clear hAc Z1
    refine wp_region_held_drew (S := fun w' => w'.rangeAt w.heap.size 0 (caseL (aftF c)) ∧ w'.rangeAt X.heap.size 0 (caseL c)) (by kernel_rfl) ⟨R_drew Z1a, R_drew Z7⟩ (fun hHeld => ?_)
    refine wpAnyH_take (i := 0) at_0 (by kernel_rfl) (by kernel_rfl) (by kernel_rfl) (fun _ _ _ h => h) (yieldsIf_load_mid (by rfl) _ _ rfl (w.heap.size) 0 rfl (caseL (aftF c)) _ (fun w hw => hw.1) Try.underlying23 rfl Try.info_fc) (by assumption) ?_
    simp only [Act.put, List.setIfInBounds_toArray, List.set_cons_zero, List.set_cons_succ]
    refine wpAnyH_take (i := 1) at_1 (by kernel_rfl) (by kernel_rfl) (by kernel_rfl) (fun _ _ _ h => h) (yieldsIf_load_mid (by rfl) _ _ rfl (w.heap.size) 0 rfl (caseL (aftF c)) _ (fun w hw => hw.1) Try.underlying23 rfl Try.info_fc) (by assumption) ?_
    simp only [Act.put, List.setIfInBounds_toArray, List.set_cons_zero, List.set_cons_succ]
    refine wpAnyH_take (i := 2) at_2 (by kernel_rfl) (by kernel_rfl) (by kernel_rfl) (fun _ _ _ h => h) (yieldsIf_load_mid (by rfl) _ _ rfl (X.heap.size) 0 rfl (caseL c) _ (fun w hw => hw.2) Try.underlying23 rfl Try.info_fc) (by assumption) ?_
    simp only [Act.put, List.setIfInBounds_toArray, List.set_cons_zero, List.set_cons_succ]
    refine wpAnyH_take (i := 3) at_3 (by kernel_rfl) (by kernel_rfl) (by kernel_rfl) (fun _ _ _ h => h) (yieldsIf_eqfc (aftF c) c (by rfl) rfl rfl rfl) (by assumption) ?_
    simp only [Act.put, List.setIfInBounds_toArray, List.set_cons_zero, List.set_cons_succ]
    refine wpAnyH_ready (rs := [4]) (by kernel_rfl) (by simp) (AllReadyH.cons at_4 (fun K hK => ?_) AllReadyH.nil)
    rw [if_pos (by rfl)]
    refine wp_store_mid _ _ _ rfl (w.heap.size + 1) 0 ((caseL (aftF c)).toArray) rfl rfl (T_drew Z2) Try.info_fc (one_fc _) ?_
    simp only [Act.put, List.setIfInBounds_toArray, List.set_cons_zero, List.set_cons_succ]
    refine hK.out _ _ ⟨World.rangeAt_setCells_apart hHeld.1 _ _ _ (Or.inl (by omega)), World.rangeAt_setCells_apart hHeld.2 _ _ _ (Or.inl (Ne.symm ne72))⟩ (fun hHeld => ?_)
    clear hK K
    (try simp only [Act.put, List.setIfInBounds_toArray, List.set_cons_zero, List.set_cons_succ])
    refine wpAnyH_ready (rs := [5]) (by kernel_rfl) (by simp) (AllReadyH.cons at_5 (fun K hK => ?_) AllReadyH.nil)
    go_simp
    refine hK.out _ _ hHeld (fun hHeld => ?_)
    clear hK K
    (try simp only [Act.put, List.setIfInBounds_toArray, List.set_cons_zero, List.set_cons_succ])
    refine wpAnyH_ready (rs := [6]) (by kernel_rfl) (by simp) (AllReadyH.cons at_6 (fun K hK => ?_) AllReadyH.nil)
    go_simp
    refine hK.out _ _ hHeld (fun hHeld => ?_)
    clear hK K
    (try simp only [Act.put, List.setIfInBounds_toArray, List.set_cons_zero, List.set_cons_succ])
    refine wpAnyH_done (by kernel_rfl) ?_ _
    have V2 : Hid ((Z.drew.setCells (w.heap.size + 1) 0 (caseL (aftF c))).rangeAt (w.heap.size + 1) 0 (caseL (aftF c))) := World.rangeAt_setCells_same _ _ _ _ (T_drew Z2)
    have HV : Hid (Below w.heap.size w (Z.drew.setCells (w.heap.size + 1) 0 (caseL (aftF c)))) := Below.setCells' _ (by omega) _ _ _ (Below.drew HZ.out)
    clear hHeld HZ Z2 Z7 Z1a
    generalize hVV : Z.drew.setCells (w.heap.size + 1) 0 (caseL (aftF c)) = V at V2 HV ⊢
    clear hVV
    go_wp2
    refine bodyPost_ret (results_c3 (cs := caseL (aftF c)) rfl _ _ _ rfl V2.out Try.underlying23 rfl Try.info_fc) rfl ?_
    refine ⟨?_, Ext.of_below HV.out⟩
    show _ = Ending.returned (.tuple #[.agg (caseL (aftF c)).toArray, .bool (doneF c), .int .i64 (chkF c)])
    rw [hD.out, HC.out]; rfl
  · cases hon : c.on
    · have k7 : Y.cell? ⟨w.heap.size, 7, none⟩ = some (.int .i64 c.en) := H.out.2 7 (by omega)
      have f7 : Y.frozen? ⟨w.heap.size, 7, none⟩ = false := by simpa using (T1'.out 7 (by omega)).2
      have k8 : Y.cell? ⟨w.heap.size, 8, none⟩ = some (.bool (c.wb)) := H.out.2 8 (by omega)
      have f8 : Y.frozen? ⟨w.heap.size, 8, none⟩ = false := by simpa using (T1'.out 8 (by omega)).2
      have k11 : Y.cell? ⟨w.heap.size, 11, none⟩ = some (.bool (c.on)) := H.out.2 11 (by omega)
      have f11 : Y.frozen? ⟨w.heap.size, 11, none⟩ = false := by simpa using (T1'.out 11 (by omega)).2
      have k12 : Y.cell? ⟨w.heap.size, 12, none⟩ = some (.bool (c.ca)) := H.out.2 12 (by omega)
      have f12 : Y.frozen? ⟨w.heap.size, 12, none⟩ = false := by simpa using (T1'.out 12 (by omega)).2
      go_upto_region 25 with (first | fail)
      refine name_world (fun Z hZ => ?_)
      have Z1 : Z.rangeAt w.heap.size 0 (caseL { c with en := 1, ca := false, wb := false }) := by rw [hZ]; exact (R_set (R_set (R_set (H.out.range (Ext.refl _)) (by simp [caseL])) (by simp [caseL])) (by simp [caseL]))
      have Z7 : Z.rangeAt X.heap.size 0 (caseL c) := by rw [hZ]; exact (R_other (R_other (R_other R7.out ne7) ne7) ne7)
      have Z2 : Z.there (w.heap.size + 1) 0 17 := by rw [hZ]; exact (T_set (T_set (T_set T2'.out)))
      have HZ : Hid (Below w.heap.size w Z) := by
        have hb := HB.out
        have y1' : w.heap.size ≤ Y.heap.size := Nat.le_of_lt y1
        show Below _ _ _
        rw [hZ]
        (repeat' (first | (with_reducible exact Below.refl _ _) | (with_reducible assumption) | (with_reducible refine Below.alloc ?_ ?_ _) | (with_reducible refine Below.wext ?_ ?_ _ _) | (with_reducible refine Below.drew ?_) | (with_reducible refine Below.setCell ?_ ?_ _) | (with_reducible exact Nat.le_refl _) | (with_reducible refine Below.drewN' ?_ _) | (simp; omega) | (simp; done)))
      clear hZ
      have hAc : aftF c = { c with en := 1, ca := false, wb := false } := by rw [hA.out]; simp [stepF, hon]
      have Z1a : Z.rangeAt w.heap.size 0 (caseL (aftF c)) := by rw [hAc]; exact Z1
      clear hAc Z1
      refine wp_region_held_drew (S := fun w' => w'.rangeAt w.heap.size 0 (caseL (aftF c)) ∧ w'.rangeAt X.heap.size 0 (caseL c)) (by kernel_rfl) ⟨R_drew Z1a, R_drew Z7⟩ (fun hHeld => ?_)
      refine wpAnyH_take (i := 0) at_0 (by kernel_rfl) (by kernel_rfl) (by kernel_rfl) (fun _ _ _ h => h) (yieldsIf_load_mid (by rfl) _ _ rfl (w.heap.size) 0 rfl (caseL (aftF c)) _ (fun w hw => hw.1) Try.underlying23 rfl Try.info_fc) (by assumption) ?_
      simp only [Act.put, List.setIfInBounds_toArray, List.set_cons_zero, List.set_cons_succ]
      refine wpAnyH_take (i := 1) at_1 (by kernel_rfl) (by kernel_rfl) (by kernel_rfl) (fun _ _ _ h => h) (yieldsIf_load_mid (by rfl) _ _ rfl (w.heap.size) 0 rfl (caseL (aftF c)) _ (fun w hw => hw.1) Try.underlying23 rfl Try.info_fc) (by assumption) ?_
      simp only [Act.put, List.setIfInBounds_toArray, List.set_cons_zero, List.set_cons_succ]
      refine wpAnyH_take (i := 2) at_2 (by kernel_rfl) (by kernel_rfl) (by kernel_rfl) (fun _ _ _ h => h) (yieldsIf_load_mid (by rfl) _ _ rfl (X.heap.size) 0 rfl (caseL c) _ (fun w hw => hw.2) Try.underlying23 rfl Try.info_fc) (by assumption) ?_
      simp only [Act.put, List.setIfInBounds_toArray, List.set_cons_zero, List.set_cons_succ]
      refine wpAnyH_take (i := 3) at_3 (by kernel_rfl) (by kernel_rfl) (by kernel_rfl) (fun _ _ _ h => h) (yieldsIf_eqfc (aftF c) c (by rfl) rfl rfl rfl) (by assumption) ?_
      simp only [Act.put, List.setIfInBounds_toArray, List.set_cons_zero, List.set_cons_succ]
      refine wpAnyH_ready (rs := [4]) (by kernel_rfl) (by simp) (AllReadyH.cons at_4 (fun K hK => ?_) AllReadyH.nil)
      rw [if_pos (by rfl)]
      refine wp_store_mid _ _ _ rfl (w.heap.size + 1) 0 ((caseL (aftF c)).toArray) rfl rfl (T_drew Z2) Try.info_fc (one_fc _) ?_
      simp only [Act.put, List.setIfInBounds_toArray, List.set_cons_zero, List.set_cons_succ]
      refine hK.out _ _ ⟨World.rangeAt_setCells_apart hHeld.1 _ _ _ (Or.inl (by omega)), World.rangeAt_setCells_apart hHeld.2 _ _ _ (Or.inl (Ne.symm ne72))⟩ (fun hHeld => ?_)
      clear hK K
      (try simp only [Act.put, List.setIfInBounds_toArray, List.set_cons_zero, List.set_cons_succ])
      refine wpAnyH_ready (rs := [5]) (by kernel_rfl) (by simp) (AllReadyH.cons at_5 (fun K hK => ?_) AllReadyH.nil)
      go_simp
      refine hK.out _ _ hHeld (fun hHeld => ?_)
      clear hK K
      (try simp only [Act.put, List.setIfInBounds_toArray, List.set_cons_zero, List.set_cons_succ])
      refine wpAnyH_ready (rs := [6]) (by kernel_rfl) (by simp) (AllReadyH.cons at_6 (fun K hK => ?_) AllReadyH.nil)
      go_simp
      refine hK.out _ _ hHeld (fun hHeld => ?_)
      clear hK K
      (try simp only [Act.put, List.setIfInBounds_toArray, List.set_cons_zero, List.set_cons_succ])
      refine wpAnyH_done (by kernel_rfl) ?_ _
      have V2 : Hid ((Z.drew.setCells (w.heap.size + 1) 0 (caseL (aftF c))).rangeAt (w.heap.size + 1) 0 (caseL (aftF c))) := World.rangeAt_setCells_same _ _ _ _ (T_drew Z2)
      have HV : Hid (Below w.heap.size w (Z.drew.setCells (w.heap.size + 1) 0 (caseL (aftF c)))) := Below.setCells' _ (by omega) _ _ _ (Below.drew HZ.out)
      clear hHeld HZ Z2 Z7 Z1a
      generalize hVV : Z.drew.setCells (w.heap.size + 1) 0 (caseL (aftF c)) = V at V2 HV ⊢
      clear hVV
      go_wp2
      refine bodyPost_ret (results_c3 (cs := caseL (aftF c)) rfl _ _ _ rfl V2.out Try.underlying23 rfl Try.info_fc) rfl ?_
      refine ⟨?_, Ext.of_below HV.out⟩
      show _ = Ending.returned (.tuple #[.agg (caseL (aftF c)).toArray, .bool (doneF c), .int .i64 (chkF c)])
      rw [hD.out, HC.out]; rfl
    · have k7 : Y.cell? ⟨w.heap.size, 7, none⟩ = some (.int .i64 c.en) := H.out.2 7 (by omega)
      have f7 : Y.frozen? ⟨w.heap.size, 7, none⟩ = false := by simpa using (T1'.out 7 (by omega)).2
      have k8 : Y.cell? ⟨w.heap.size, 8, none⟩ = some (.bool (c.wb)) := H.out.2 8 (by omega)
      have f8 : Y.frozen? ⟨w.heap.size, 8, none⟩ = false := by simpa using (T1'.out 8 (by omega)).2
      have k11 : Y.cell? ⟨w.heap.size, 11, none⟩ = some (.bool (c.on)) := H.out.2 11 (by omega)
      have f11 : Y.frozen? ⟨w.heap.size, 11, none⟩ = false := by simpa using (T1'.out 11 (by omega)).2
      have k12 : Y.cell? ⟨w.heap.size, 12, none⟩ = some (.bool (c.ca)) := H.out.2 12 (by omega)
      have f12 : Y.frozen? ⟨w.heap.size, 12, none⟩ = false := by simpa using (T1'.out 12 (by omega)).2
      go_upto_region 25 with (first | fail)
      refine name_world (fun Z hZ => ?_)
      have Z1 : Z.rangeAt w.heap.size 0 (caseL { c with en := 1, ca := false, wb := bits .and .i64 c.pt 2 != 0 }) := by rw [hZ]; exact (R_set (R_set (R_set (H.out.range (Ext.refl _)) (by simp [caseL])) (by simp [caseL])) (by simp [caseL]))
      have Z7 : Z.rangeAt X.heap.size 0 (caseL c) := by rw [hZ]; exact (R_other (R_other (R_other R7.out ne7) ne7) ne7)
      have Z2 : Z.there (w.heap.size + 1) 0 17 := by rw [hZ]; exact (T_set (T_set (T_set T2'.out)))
      have HZ : Hid (Below w.heap.size w Z) := by
        have hb := HB.out
        have y1' : w.heap.size ≤ Y.heap.size := Nat.le_of_lt y1
        show Below _ _ _
        rw [hZ]
        (repeat' (first | (with_reducible exact Below.refl _ _) | (with_reducible assumption) | (with_reducible refine Below.alloc ?_ ?_ _) | (with_reducible refine Below.wext ?_ ?_ _ _) | (with_reducible refine Below.drew ?_) | (with_reducible refine Below.setCell ?_ ?_ _) | (with_reducible exact Nat.le_refl _) | (with_reducible refine Below.drewN' ?_ _) | (simp; omega) | (simp; done)))
      clear hZ
      have hAc : aftF c = { c with en := 1, ca := false, wb := bits .and .i64 c.pt 2 != 0 } := by rw [hA.out]; simp [stepF, hon]
      have Z1a : Z.rangeAt w.heap.size 0 (caseL (aftF c)) := by rw [hAc]; exact Z1
      clear hAc Z1
      refine wp_region_held_drew (S := fun w' => w'.rangeAt w.heap.size 0 (caseL (aftF c)) ∧ w'.rangeAt X.heap.size 0 (caseL c)) (by kernel_rfl) ⟨R_drew Z1a, R_drew Z7⟩ (fun hHeld => ?_)
      refine wpAnyH_take (i := 0) at_0 (by kernel_rfl) (by kernel_rfl) (by kernel_rfl) (fun _ _ _ h => h) (yieldsIf_load_mid (by rfl) _ _ rfl (w.heap.size) 0 rfl (caseL (aftF c)) _ (fun w hw => hw.1) Try.underlying23 rfl Try.info_fc) (by assumption) ?_
      simp only [Act.put, List.setIfInBounds_toArray, List.set_cons_zero, List.set_cons_succ]
      refine wpAnyH_take (i := 1) at_1 (by kernel_rfl) (by kernel_rfl) (by kernel_rfl) (fun _ _ _ h => h) (yieldsIf_load_mid (by rfl) _ _ rfl (w.heap.size) 0 rfl (caseL (aftF c)) _ (fun w hw => hw.1) Try.underlying23 rfl Try.info_fc) (by assumption) ?_
      simp only [Act.put, List.setIfInBounds_toArray, List.set_cons_zero, List.set_cons_succ]
      refine wpAnyH_take (i := 2) at_2 (by kernel_rfl) (by kernel_rfl) (by kernel_rfl) (fun _ _ _ h => h) (yieldsIf_load_mid (by rfl) _ _ rfl (X.heap.size) 0 rfl (caseL c) _ (fun w hw => hw.2) Try.underlying23 rfl Try.info_fc) (by assumption) ?_
      simp only [Act.put, List.setIfInBounds_toArray, List.set_cons_zero, List.set_cons_succ]
      refine wpAnyH_take (i := 3) at_3 (by kernel_rfl) (by kernel_rfl) (by kernel_rfl) (fun _ _ _ h => h) (yieldsIf_eqfc (aftF c) c (by rfl) rfl rfl rfl) (by assumption) ?_
      simp only [Act.put, List.setIfInBounds_toArray, List.set_cons_zero, List.set_cons_succ]
      refine wpAnyH_ready (rs := [4]) (by kernel_rfl) (by simp) (AllReadyH.cons at_4 (fun K hK => ?_) AllReadyH.nil)
      rw [if_pos (by rfl)]
      refine wp_store_mid _ _ _ rfl (w.heap.size + 1) 0 ((caseL (aftF c)).toArray) rfl rfl (T_drew Z2) Try.info_fc (one_fc _) ?_
      simp only [Act.put, List.setIfInBounds_toArray, List.set_cons_zero, List.set_cons_succ]
      refine hK.out _ _ ⟨World.rangeAt_setCells_apart hHeld.1 _ _ _ (Or.inl (by omega)), World.rangeAt_setCells_apart hHeld.2 _ _ _ (Or.inl (Ne.symm ne72))⟩ (fun hHeld => ?_)
      clear hK K
      (try simp only [Act.put, List.setIfInBounds_toArray, List.set_cons_zero, List.set_cons_succ])
      refine wpAnyH_ready (rs := [5]) (by kernel_rfl) (by simp) (AllReadyH.cons at_5 (fun K hK => ?_) AllReadyH.nil)
      go_simp
      refine hK.out _ _ hHeld (fun hHeld => ?_)
      clear hK K
      (try simp only [Act.put, List.setIfInBounds_toArray, List.set_cons_zero, List.set_cons_succ])
      refine wpAnyH_ready (rs := [6]) (by kernel_rfl) (by simp) (AllReadyH.cons at_6 (fun K hK => ?_) AllReadyH.nil)
      go_simp
      refine hK.out _ _ hHeld (fun hHeld => ?_)
      clear hK K
      (try simp only [Act.put, List.setIfInBounds_toArray, List.set_cons_zero, List.set_cons_succ])
      refine wpAnyH_done (by kernel_rfl) ?_ _
      have V2 : Hid ((Z.drew.setCells (w.heap.size + 1) 0 (caseL (aftF c))).rangeAt (w.heap.size + 1) 0 (caseL (aftF c))) := World.rangeAt_setCells_same _ _ _ _ (T_drew Z2)
      have HV : Hid (Below w.heap.size w (Z.drew.setCells (w.heap.size + 1) 0 (caseL (aftF c)))) := Below.setCells' _ (by omega) _ _ _ (Below.drew HZ.out)
      clear hHeld HZ Z2 Z7 Z1a
      generalize hVV : Z.drew.setCells (w.heap.size + 1) 0 (caseL (aftF c)) = V at V2 HV ⊢
      clear hVV
      go_wp2
      refine bodyPost_ret (results_c3 (cs := caseL (aftF c)) rfl _ _ _ rfl V2.out Try.underlying23 rfl Try.info_fc) rfl ?_
      refine ⟨?_, Ext.of_below HV.out⟩
      show _ = Ending.returned (.tuple #[.agg (caseL (aftF c)).toArray, .bool (doneF c), .int .i64 (chkF c)])
      rw [hD.out, HC.out]; rfl
  · have k12 : Y.cell? ⟨w.heap.size, 12, none⟩ = some (.bool (c.ca)) := H.out.2 12 (by omega)
    have f12 : Y.frozen? ⟨w.heap.size, 12, none⟩ = false := by simpa using (T1'.out 12 (by omega)).2
    go_upto_region 25 with (first | fail)
    refine name_world (fun Z hZ => ?_)
    have Z1 : Z.rangeAt w.heap.size 0 (caseL { c with ca := true }) := by rw [hZ]; exact (R_set (H.out.range (Ext.refl _)) (by simp [caseL]))
    have Z7 : Z.rangeAt X.heap.size 0 (caseL c) := by rw [hZ]; exact (R_other R7.out ne7)
    have Z2 : Z.there (w.heap.size + 1) 0 17 := by rw [hZ]; exact (T_set T2'.out)
    have HZ : Hid (Below w.heap.size w Z) := by
      have hb := HB.out
      have y1' : w.heap.size ≤ Y.heap.size := Nat.le_of_lt y1
      show Below _ _ _
      rw [hZ]
      (repeat' (first | (with_reducible exact Below.refl _ _) | (with_reducible assumption) | (with_reducible refine Below.alloc ?_ ?_ _) | (with_reducible refine Below.wext ?_ ?_ _ _) | (with_reducible refine Below.drew ?_) | (with_reducible refine Below.setCell ?_ ?_ _) | (with_reducible exact Nat.le_refl _) | (with_reducible refine Below.drewN' ?_ _) | (simp; omega) | (simp; done)))
    clear hZ
    have hAc : aftF c = { c with ca := true } := by rw [hA.out]; simp [stepF]
    have Z1a : Z.rangeAt w.heap.size 0 (caseL (aftF c)) := by rw [hAc]; exact Z1
    clear hAc Z1
    refine wp_region_held_drew (S := fun w' => w'.rangeAt w.heap.size 0 (caseL (aftF c)) ∧ w'.rangeAt X.heap.size 0 (caseL c)) (by kernel_rfl) ⟨R_drew Z1a, R_drew Z7⟩ (fun hHeld => ?_)
    refine wpAnyH_take (i := 0) at_0 (by kernel_rfl) (by kernel_rfl) (by kernel_rfl) (fun _ _ _ h => h) (yieldsIf_load_mid (by rfl) _ _ rfl (w.heap.size) 0 rfl (caseL (aftF c)) _ (fun w hw => hw.1) Try.underlying23 rfl Try.info_fc) (by assumption) ?_
    simp only [Act.put, List.setIfInBounds_toArray, List.set_cons_zero, List.set_cons_succ]
    refine wpAnyH_take (i := 1) at_1 (by kernel_rfl) (by kernel_rfl) (by kernel_rfl) (fun _ _ _ h => h) (yieldsIf_load_mid (by rfl) _ _ rfl (w.heap.size) 0 rfl (caseL (aftF c)) _ (fun w hw => hw.1) Try.underlying23 rfl Try.info_fc) (by assumption) ?_
    simp only [Act.put, List.setIfInBounds_toArray, List.set_cons_zero, List.set_cons_succ]
    refine wpAnyH_take (i := 2) at_2 (by kernel_rfl) (by kernel_rfl) (by kernel_rfl) (fun _ _ _ h => h) (yieldsIf_load_mid (by rfl) _ _ rfl (X.heap.size) 0 rfl (caseL c) _ (fun w hw => hw.2) Try.underlying23 rfl Try.info_fc) (by assumption) ?_
    simp only [Act.put, List.setIfInBounds_toArray, List.set_cons_zero, List.set_cons_succ]
    refine wpAnyH_take (i := 3) at_3 (by kernel_rfl) (by kernel_rfl) (by kernel_rfl) (fun _ _ _ h => h) (yieldsIf_eqfc (aftF c) c (by rfl) rfl rfl rfl) (by assumption) ?_
    simp only [Act.put, List.setIfInBounds_toArray, List.set_cons_zero, List.set_cons_succ]
    refine wpAnyH_ready (rs := [4]) (by kernel_rfl) (by simp) (AllReadyH.cons at_4 (fun K hK => ?_) AllReadyH.nil)
    rw [if_pos (by rfl)]
    refine wp_store_mid _ _ _ rfl (w.heap.size + 1) 0 ((caseL (aftF c)).toArray) rfl rfl (T_drew Z2) Try.info_fc (one_fc _) ?_
    simp only [Act.put, List.setIfInBounds_toArray, List.set_cons_zero, List.set_cons_succ]
    refine hK.out _ _ ⟨World.rangeAt_setCells_apart hHeld.1 _ _ _ (Or.inl (by omega)), World.rangeAt_setCells_apart hHeld.2 _ _ _ (Or.inl (Ne.symm ne72))⟩ (fun hHeld => ?_)
    clear hK K
    (try simp only [Act.put, List.setIfInBounds_toArray, List.set_cons_zero, List.set_cons_succ])
    refine wpAnyH_ready (rs := [5]) (by kernel_rfl) (by simp) (AllReadyH.cons at_5 (fun K hK => ?_) AllReadyH.nil)
    go_simp
    refine hK.out _ _ hHeld (fun hHeld => ?_)
    clear hK K
    (try simp only [Act.put, List.setIfInBounds_toArray, List.set_cons_zero, List.set_cons_succ])
    refine wpAnyH_ready (rs := [6]) (by kernel_rfl) (by simp) (AllReadyH.cons at_6 (fun K hK => ?_) AllReadyH.nil)
    go_simp
    refine hK.out _ _ hHeld (fun hHeld => ?_)
    clear hK K
    (try simp only [Act.put, List.setIfInBounds_toArray, List.set_cons_zero, List.set_cons_succ])
    refine wpAnyH_done (by kernel_rfl) ?_ _
    have V2 : Hid ((Z.drew.setCells (w.heap.size + 1) 0 (caseL (aftF c))).rangeAt (w.heap.size + 1) 0 (caseL (aftF c))) := World.rangeAt_setCells_same _ _ _ _ (T_drew Z2)
    have HV : Hid (Below w.heap.size w (Z.drew.setCells (w.heap.size + 1) 0 (caseL (aftF c)))) := Below.setCells' _ (by omega) _ _ _ (Below.drew HZ.out)
    clear hHeld HZ Z2 Z7 Z1a
    generalize hVV : Z.drew.setCells (w.heap.size + 1) 0 (caseL (aftF c)) = V at V2 HV ⊢
    clear hVV
    go_wp2
    refine bodyPost_ret (results_c3 (cs := caseL (aftF c)) rfl _ _ _ rfl V2.out Try.underlying23 rfl Try.info_fc) rfl ?_
    refine ⟨?_, Ext.of_below HV.out⟩
    show _ = Ending.returned (.tuple #[.agg (caseL (aftF c)).toArray, .bool (doneF c), .int .i64 (chkF c)])
    rw [hD.out, HC.out]; rfl
  · have k7 : Y.cell? ⟨w.heap.size, 7, none⟩ = some (.int .i64 c.en) := H.out.2 7 (by omega)
    have f7 : Y.frozen? ⟨w.heap.size, 7, none⟩ = false := by simpa using (T1'.out 7 (by omega)).2
    have k8 : Y.cell? ⟨w.heap.size, 8, none⟩ = some (.bool (c.wb)) := H.out.2 8 (by omega)
    have f8 : Y.frozen? ⟨w.heap.size, 8, none⟩ = false := by simpa using (T1'.out 8 (by omega)).2
    have k10 : Y.cell? ⟨w.heap.size, 10, none⟩ = some (.bool (c.ow)) := H.out.2 10 (by omega)
    have f10 : Y.frozen? ⟨w.heap.size, 10, none⟩ = false := by simpa using (T1'.out 10 (by omega)).2
    have k11 : Y.cell? ⟨w.heap.size, 11, none⟩ = some (.bool (c.on)) := H.out.2 11 (by omega)
    have f11 : Y.frozen? ⟨w.heap.size, 11, none⟩ = false := by simpa using (T1'.out 11 (by omega)).2
    have k16 : Y.cell? ⟨w.heap.size, 16, none⟩ = some (.int .i64 c.mi) := H.out.2 16 (by omega)
    have f16 : Y.frozen? ⟨w.heap.size, 16, none⟩ = false := by simpa using (T1'.out 16 (by omega)).2
    go_upto_region 25 with (first | fail)
    refine name_world (fun Z hZ => ?_)
    have Z1 : Z.rangeAt w.heap.size 0 (caseL { c with en := 1, mi := 0, ow := true, on := true, wb := bits .and .i64 c.pt 2 != 0 }) := by rw [hZ]; exact (R_set (R_set (R_set (R_set (R_set (H.out.range (Ext.refl _)) (by simp [caseL])) (by simp [caseL])) (by simp [caseL])) (by simp [caseL])) (by simp [caseL]))
    have Z7 : Z.rangeAt X.heap.size 0 (caseL c) := by rw [hZ]; exact (R_other (R_other (R_other (R_other (R_other R7.out ne7) ne7) ne7) ne7) ne7)
    have Z2 : Z.there (w.heap.size + 1) 0 17 := by rw [hZ]; exact (T_set (T_set (T_set (T_set (T_set T2'.out)))))
    have HZ : Hid (Below w.heap.size w Z) := by
      have hb := HB.out
      have y1' : w.heap.size ≤ Y.heap.size := Nat.le_of_lt y1
      show Below _ _ _
      rw [hZ]
      (repeat' (first | (with_reducible exact Below.refl _ _) | (with_reducible assumption) | (with_reducible refine Below.alloc ?_ ?_ _) | (with_reducible refine Below.wext ?_ ?_ _ _) | (with_reducible refine Below.drew ?_) | (with_reducible refine Below.setCell ?_ ?_ _) | (with_reducible exact Nat.le_refl _) | (with_reducible refine Below.drewN' ?_ _) | (simp; omega) | (simp; done)))
    clear hZ
    have hAc : aftF c = { c with en := 1, mi := 0, ow := true, on := true, wb := bits .and .i64 c.pt 2 != 0 } := by rw [hA.out]; simp [stepF]
    have Z1a : Z.rangeAt w.heap.size 0 (caseL (aftF c)) := by rw [hAc]; exact Z1
    clear hAc Z1
    refine wp_region_held_drew (S := fun w' => w'.rangeAt w.heap.size 0 (caseL (aftF c)) ∧ w'.rangeAt X.heap.size 0 (caseL c)) (by kernel_rfl) ⟨R_drew Z1a, R_drew Z7⟩ (fun hHeld => ?_)
    refine wpAnyH_take (i := 0) at_0 (by kernel_rfl) (by kernel_rfl) (by kernel_rfl) (fun _ _ _ h => h) (yieldsIf_load_mid (by rfl) _ _ rfl (w.heap.size) 0 rfl (caseL (aftF c)) _ (fun w hw => hw.1) Try.underlying23 rfl Try.info_fc) (by assumption) ?_
    simp only [Act.put, List.setIfInBounds_toArray, List.set_cons_zero, List.set_cons_succ]
    refine wpAnyH_take (i := 1) at_1 (by kernel_rfl) (by kernel_rfl) (by kernel_rfl) (fun _ _ _ h => h) (yieldsIf_load_mid (by rfl) _ _ rfl (w.heap.size) 0 rfl (caseL (aftF c)) _ (fun w hw => hw.1) Try.underlying23 rfl Try.info_fc) (by assumption) ?_
    simp only [Act.put, List.setIfInBounds_toArray, List.set_cons_zero, List.set_cons_succ]
    refine wpAnyH_take (i := 2) at_2 (by kernel_rfl) (by kernel_rfl) (by kernel_rfl) (fun _ _ _ h => h) (yieldsIf_load_mid (by rfl) _ _ rfl (X.heap.size) 0 rfl (caseL c) _ (fun w hw => hw.2) Try.underlying23 rfl Try.info_fc) (by assumption) ?_
    simp only [Act.put, List.setIfInBounds_toArray, List.set_cons_zero, List.set_cons_succ]
    refine wpAnyH_take (i := 3) at_3 (by kernel_rfl) (by kernel_rfl) (by kernel_rfl) (fun _ _ _ h => h) (yieldsIf_eqfc (aftF c) c (by rfl) rfl rfl rfl) (by assumption) ?_
    simp only [Act.put, List.setIfInBounds_toArray, List.set_cons_zero, List.set_cons_succ]
    refine wpAnyH_ready (rs := [4]) (by kernel_rfl) (by simp) (AllReadyH.cons at_4 (fun K hK => ?_) AllReadyH.nil)
    rw [if_pos (by rfl)]
    refine wp_store_mid _ _ _ rfl (w.heap.size + 1) 0 ((caseL (aftF c)).toArray) rfl rfl (T_drew Z2) Try.info_fc (one_fc _) ?_
    simp only [Act.put, List.setIfInBounds_toArray, List.set_cons_zero, List.set_cons_succ]
    refine hK.out _ _ ⟨World.rangeAt_setCells_apart hHeld.1 _ _ _ (Or.inl (by omega)), World.rangeAt_setCells_apart hHeld.2 _ _ _ (Or.inl (Ne.symm ne72))⟩ (fun hHeld => ?_)
    clear hK K
    (try simp only [Act.put, List.setIfInBounds_toArray, List.set_cons_zero, List.set_cons_succ])
    refine wpAnyH_ready (rs := [5]) (by kernel_rfl) (by simp) (AllReadyH.cons at_5 (fun K hK => ?_) AllReadyH.nil)
    go_simp
    refine hK.out _ _ hHeld (fun hHeld => ?_)
    clear hK K
    (try simp only [Act.put, List.setIfInBounds_toArray, List.set_cons_zero, List.set_cons_succ])
    refine wpAnyH_ready (rs := [6]) (by kernel_rfl) (by simp) (AllReadyH.cons at_6 (fun K hK => ?_) AllReadyH.nil)
    go_simp
    refine hK.out _ _ hHeld (fun hHeld => ?_)
    clear hK K
    (try simp only [Act.put, List.setIfInBounds_toArray, List.set_cons_zero, List.set_cons_succ])
    refine wpAnyH_done (by kernel_rfl) ?_ _
    have V2 : Hid ((Z.drew.setCells (w.heap.size + 1) 0 (caseL (aftF c))).rangeAt (w.heap.size + 1) 0 (caseL (aftF c))) := World.rangeAt_setCells_same _ _ _ _ (T_drew Z2)
    have HV : Hid (Below w.heap.size w (Z.drew.setCells (w.heap.size + 1) 0 (caseL (aftF c)))) := Below.setCells' _ (by omega) _ _ _ (Below.drew HZ.out)
    clear hHeld HZ Z2 Z7 Z1a
    generalize hVV : Z.drew.setCells (w.heap.size + 1) 0 (caseL (aftF c)) = V at V2 HV ⊢
    clear hVV
    go_wp2
    refine bodyPost_ret (results_c3 (cs := caseL (aftF c)) rfl _ _ _ rfl V2.out Try.underlying23 rfl Try.info_fc) rfl ?_
    refine ⟨?_, Ext.of_below HV.out⟩
    show _ = Ending.returned (.tuple #[.agg (caseL (aftF c)).toArray, .bool (doneF c), .int .i64 (chkF c)])
    rw [hD.out, HC.out]; rfl
  · have k7 : Y.cell? ⟨w.heap.size, 7, none⟩ = some (.int .i64 c.en) := H.out.2 7 (by omega)
    have f7 : Y.frozen? ⟨w.heap.size, 7, none⟩ = false := by simpa using (T1'.out 7 (by omega)).2
    have k12 : Y.cell? ⟨w.heap.size, 12, none⟩ = some (.bool (c.ca)) := H.out.2 12 (by omega)
    have f12 : Y.frozen? ⟨w.heap.size, 12, none⟩ = false := by simpa using (T1'.out 12 (by omega)).2
    have k16 : Y.cell? ⟨w.heap.size, 16, none⟩ = some (.int .i64 c.mi) := H.out.2 16 (by omega)
    have f16 : Y.frozen? ⟨w.heap.size, 16, none⟩ = false := by simpa using (T1'.out 16 (by omega)).2
    go_upto_region 25 with (first | fail)
    refine name_world (fun Z hZ => ?_)
    have Z1 : Z.rangeAt w.heap.size 0 (caseL { c with en := 1, mi := 0, ca := false }) := by rw [hZ]; exact (R_set (R_set (R_set (H.out.range (Ext.refl _)) (by simp [caseL])) (by simp [caseL])) (by simp [caseL]))
    have Z7 : Z.rangeAt X.heap.size 0 (caseL c) := by rw [hZ]; exact (R_other (R_other (R_other R7.out ne7) ne7) ne7)
    have Z2 : Z.there (w.heap.size + 1) 0 17 := by rw [hZ]; exact (T_set (T_set (T_set T2'.out)))
    have HZ : Hid (Below w.heap.size w Z) := by
      have hb := HB.out
      have y1' : w.heap.size ≤ Y.heap.size := Nat.le_of_lt y1
      show Below _ _ _
      rw [hZ]
      (repeat' (first | (with_reducible exact Below.refl _ _) | (with_reducible assumption) | (with_reducible refine Below.alloc ?_ ?_ _) | (with_reducible refine Below.wext ?_ ?_ _ _) | (with_reducible refine Below.drew ?_) | (with_reducible refine Below.setCell ?_ ?_ _) | (with_reducible exact Nat.le_refl _) | (with_reducible refine Below.drewN' ?_ _) | (simp; omega) | (simp; done)))
    clear hZ
    have hAc : aftF c = { c with en := 1, mi := 0, ca := false } := by rw [hA.out]; simp [stepF]
    have Z1a : Z.rangeAt w.heap.size 0 (caseL (aftF c)) := by rw [hAc]; exact Z1
    clear hAc Z1
    refine wp_region_held_drew (S := fun w' => w'.rangeAt w.heap.size 0 (caseL (aftF c)) ∧ w'.rangeAt X.heap.size 0 (caseL c)) (by kernel_rfl) ⟨R_drew Z1a, R_drew Z7⟩ (fun hHeld => ?_)
    refine wpAnyH_take (i := 0) at_0 (by kernel_rfl) (by kernel_rfl) (by kernel_rfl) (fun _ _ _ h => h) (yieldsIf_load_mid (by rfl) _ _ rfl (w.heap.size) 0 rfl (caseL (aftF c)) _ (fun w hw => hw.1) Try.underlying23 rfl Try.info_fc) (by assumption) ?_
    simp only [Act.put, List.setIfInBounds_toArray, List.set_cons_zero, List.set_cons_succ]
    refine wpAnyH_take (i := 1) at_1 (by kernel_rfl) (by kernel_rfl) (by kernel_rfl) (fun _ _ _ h => h) (yieldsIf_load_mid (by rfl) _ _ rfl (w.heap.size) 0 rfl (caseL (aftF c)) _ (fun w hw => hw.1) Try.underlying23 rfl Try.info_fc) (by assumption) ?_
    simp only [Act.put, List.setIfInBounds_toArray, List.set_cons_zero, List.set_cons_succ]
    refine wpAnyH_take (i := 2) at_2 (by kernel_rfl) (by kernel_rfl) (by kernel_rfl) (fun _ _ _ h => h) (yieldsIf_load_mid (by rfl) _ _ rfl (X.heap.size) 0 rfl (caseL c) _ (fun w hw => hw.2) Try.underlying23 rfl Try.info_fc) (by assumption) ?_
    simp only [Act.put, List.setIfInBounds_toArray, List.set_cons_zero, List.set_cons_succ]
    refine wpAnyH_take (i := 3) at_3 (by kernel_rfl) (by kernel_rfl) (by kernel_rfl) (fun _ _ _ h => h) (yieldsIf_eqfc (aftF c) c (by rfl) rfl rfl rfl) (by assumption) ?_
    simp only [Act.put, List.setIfInBounds_toArray, List.set_cons_zero, List.set_cons_succ]
    refine wpAnyH_ready (rs := [4]) (by kernel_rfl) (by simp) (AllReadyH.cons at_4 (fun K hK => ?_) AllReadyH.nil)
    rw [if_pos (by rfl)]
    refine wp_store_mid _ _ _ rfl (w.heap.size + 1) 0 ((caseL (aftF c)).toArray) rfl rfl (T_drew Z2) Try.info_fc (one_fc _) ?_
    simp only [Act.put, List.setIfInBounds_toArray, List.set_cons_zero, List.set_cons_succ]
    refine hK.out _ _ ⟨World.rangeAt_setCells_apart hHeld.1 _ _ _ (Or.inl (by omega)), World.rangeAt_setCells_apart hHeld.2 _ _ _ (Or.inl (Ne.symm ne72))⟩ (fun hHeld => ?_)
    clear hK K
    (try simp only [Act.put, List.setIfInBounds_toArray, List.set_cons_zero, List.set_cons_succ])
    refine wpAnyH_ready (rs := [5]) (by kernel_rfl) (by simp) (AllReadyH.cons at_5 (fun K hK => ?_) AllReadyH.nil)
    go_simp
    refine hK.out _ _ hHeld (fun hHeld => ?_)
    clear hK K
    (try simp only [Act.put, List.setIfInBounds_toArray, List.set_cons_zero, List.set_cons_succ])
    refine wpAnyH_ready (rs := [6]) (by kernel_rfl) (by simp) (AllReadyH.cons at_6 (fun K hK => ?_) AllReadyH.nil)
    go_simp
    refine hK.out _ _ hHeld (fun hHeld => ?_)
    clear hK K
    (try simp only [Act.put, List.setIfInBounds_toArray, List.set_cons_zero, List.set_cons_succ])
    refine wpAnyH_done (by kernel_rfl) ?_ _
    have V2 : Hid ((Z.drew.setCells (w.heap.size + 1) 0 (caseL (aftF c))).rangeAt (w.heap.size + 1) 0 (caseL (aftF c))) := World.rangeAt_setCells_same _ _ _ _ (T_drew Z2)
    have HV : Hid (Below w.heap.size w (Z.drew.setCells (w.heap.size + 1) 0 (caseL (aftF c)))) := Below.setCells' _ (by omega) _ _ _ (Below.drew HZ.out)
    clear hHeld HZ Z2 Z7 Z1a
    generalize hVV : Z.drew.setCells (w.heap.size + 1) 0 (caseL (aftF c)) = V at V2 HV ⊢
    clear hVV
    go_wp2
    refine bodyPost_ret (results_c3 (cs := caseL (aftF c)) rfl _ _ _ rfl V2.out Try.underlying23 rfl Try.info_fc) rfl ?_
    refine ⟨?_, Ext.of_below HV.out⟩
    show _ = Ending.returned (.tuple #[.agg (caseL (aftF c)).toArray, .bool (doneF c), .int .i64 (chkF c)])
    rw [hD.out, HC.out]; rfl
  · have k12 : Y.cell? ⟨w.heap.size, 12, none⟩ = some (.bool (c.ca)) := H.out.2 12 (by omega)
    have f12 : Y.frozen? ⟨w.heap.size, 12, none⟩ = false := by simpa using (T1'.out 12 (by omega)).2
    go_upto_region 25 with (first | fail)
    refine name_world (fun Z hZ => ?_)
    have Z1 : Z.rangeAt w.heap.size 0 (caseL { c with ca := true }) := by rw [hZ]; exact (R_set (H.out.range (Ext.refl _)) (by simp [caseL]))
    have Z7 : Z.rangeAt X.heap.size 0 (caseL c) := by rw [hZ]; exact (R_other R7.out ne7)
    have Z2 : Z.there (w.heap.size + 1) 0 17 := by rw [hZ]; exact (T_set T2'.out)
    have HZ : Hid (Below w.heap.size w Z) := by
      have hb := HB.out
      have y1' : w.heap.size ≤ Y.heap.size := Nat.le_of_lt y1
      show Below _ _ _
      rw [hZ]
      (repeat' (first | (with_reducible exact Below.refl _ _) | (with_reducible assumption) | (with_reducible refine Below.alloc ?_ ?_ _) | (with_reducible refine Below.wext ?_ ?_ _ _) | (with_reducible refine Below.drew ?_) | (with_reducible refine Below.setCell ?_ ?_ _) | (with_reducible exact Nat.le_refl _) | (with_reducible refine Below.drewN' ?_ _) | (simp; omega) | (simp; done)))
    clear hZ
    have hAc : aftF c = { c with ca := true } := by rw [hA.out]; simp [stepF]
    have Z1a : Z.rangeAt w.heap.size 0 (caseL (aftF c)) := by rw [hAc]; exact Z1
    clear hAc Z1
    refine wp_region_held_drew (S := fun w' => w'.rangeAt w.heap.size 0 (caseL (aftF c)) ∧ w'.rangeAt X.heap.size 0 (caseL c)) (by kernel_rfl) ⟨R_drew Z1a, R_drew Z7⟩ (fun hHeld => ?_)
    refine wpAnyH_take (i := 0) at_0 (by kernel_rfl) (by kernel_rfl) (by kernel_rfl) (fun _ _ _ h => h) (yieldsIf_load_mid (by rfl) _ _ rfl (w.heap.size) 0 rfl (caseL (aftF c)) _ (fun w hw => hw.1) Try.underlying23 rfl Try.info_fc) (by assumption) ?_
    simp only [Act.put, List.setIfInBounds_toArray, List.set_cons_zero, List.set_cons_succ]
    refine wpAnyH_take (i := 1) at_1 (by kernel_rfl) (by kernel_rfl) (by kernel_rfl) (fun _ _ _ h => h) (yieldsIf_load_mid (by rfl) _ _ rfl (w.heap.size) 0 rfl (caseL (aftF c)) _ (fun w hw => hw.1) Try.underlying23 rfl Try.info_fc) (by assumption) ?_
    simp only [Act.put, List.setIfInBounds_toArray, List.set_cons_zero, List.set_cons_succ]
    refine wpAnyH_take (i := 2) at_2 (by kernel_rfl) (by kernel_rfl) (by kernel_rfl) (fun _ _ _ h => h) (yieldsIf_load_mid (by rfl) _ _ rfl (X.heap.size) 0 rfl (caseL c) _ (fun w hw => hw.2) Try.underlying23 rfl Try.info_fc) (by assumption) ?_
    simp only [Act.put, List.setIfInBounds_toArray, List.set_cons_zero, List.set_cons_succ]
    refine wpAnyH_take (i := 3) at_3 (by kernel_rfl) (by kernel_rfl) (by kernel_rfl) (fun _ _ _ h => h) (yieldsIf_eqfc (aftF c) c (by rfl) rfl rfl rfl) (by assumption) ?_
    simp only [Act.put, List.setIfInBounds_toArray, List.set_cons_zero, List.set_cons_succ]
    refine wpAnyH_ready (rs := [4]) (by kernel_rfl) (by simp) (AllReadyH.cons at_4 (fun K hK => ?_) AllReadyH.nil)
    rw [if_pos (by rfl)]
    refine wp_store_mid _ _ _ rfl (w.heap.size + 1) 0 ((caseL (aftF c)).toArray) rfl rfl (T_drew Z2) Try.info_fc (one_fc _) ?_
    simp only [Act.put, List.setIfInBounds_toArray, List.set_cons_zero, List.set_cons_succ]
    refine hK.out _ _ ⟨World.rangeAt_setCells_apart hHeld.1 _ _ _ (Or.inl (by omega)), World.rangeAt_setCells_apart hHeld.2 _ _ _ (Or.inl (Ne.symm ne72))⟩ (fun hHeld => ?_)
    clear hK K
    (try simp only [Act.put, List.setIfInBounds_toArray, List.set_cons_zero, List.set_cons_succ])
    refine wpAnyH_ready (rs := [5]) (by kernel_rfl) (by simp) (AllReadyH.cons at_5 (fun K hK => ?_) AllReadyH.nil)
    go_simp
    refine hK.out _ _ hHeld (fun hHeld => ?_)
    clear hK K
    (try simp only [Act.put, List.setIfInBounds_toArray, List.set_cons_zero, List.set_cons_succ])
    refine wpAnyH_ready (rs := [6]) (by kernel_rfl) (by simp) (AllReadyH.cons at_6 (fun K hK => ?_) AllReadyH.nil)
    go_simp
    refine hK.out _ _ hHeld (fun hHeld => ?_)
    clear hK K
    (try simp only [Act.put, List.setIfInBounds_toArray, List.set_cons_zero, List.set_cons_succ])
    refine wpAnyH_done (by kernel_rfl) ?_ _
    have V2 : Hid ((Z.drew.setCells (w.heap.size + 1) 0 (caseL (aftF c))).rangeAt (w.heap.size + 1) 0 (caseL (aftF c))) := World.rangeAt_setCells_same _ _ _ _ (T_drew Z2)
    have HV : Hid (Below w.heap.size w (Z.drew.setCells (w.heap.size + 1) 0 (caseL (aftF c)))) := Below.setCells' _ (by omega) _ _ _ (Below.drew HZ.out)
    clear hHeld HZ Z2 Z7 Z1a
    generalize hVV : Z.drew.setCells (w.heap.size + 1) 0 (caseL (aftF c)) = V at V2 HV ⊢
    clear hVV
    go_wp2
    refine bodyPost_ret (results_c3 (cs := caseL (aftF c)) rfl _ _ _ rfl V2.out Try.underlying23 rfl Try.info_fc) rfl ?_
    refine ⟨?_, Ext.of_below HV.out⟩
    show _ = Ending.returned (.tuple #[.agg (caseL (aftF c)).toArray, .bool (doneF c), .int .i64 (chkF c)])
    rw [hD.out, HC.out]; rfl
  · have k12 : Y.cell? ⟨w.heap.size, 12, none⟩ = some (.bool (c.ca)) := H.out.2 12 (by omega)
    have f12 : Y.frozen? ⟨w.heap.size, 12, none⟩ = false := by simpa using (T1'.out 12 (by omega)).2
    go_upto_region 25 with (first | fail)
    refine name_world (fun Z hZ => ?_)
    have Z1 : Z.rangeAt w.heap.size 0 (caseL { c with ca := true }) := by rw [hZ]; exact (R_set (H.out.range (Ext.refl _)) (by simp [caseL]))
    have Z7 : Z.rangeAt X.heap.size 0 (caseL c) := by rw [hZ]; exact (R_other R7.out ne7)
    have Z2 : Z.there (w.heap.size + 1) 0 17 := by rw [hZ]; exact (T_set T2'.out)
    have HZ : Hid (Below w.heap.size w Z) := by
      have hb := HB.out
      have y1' : w.heap.size ≤ Y.heap.size := Nat.le_of_lt y1
      show Below _ _ _
      rw [hZ]
      (repeat' (first | (with_reducible exact Below.refl _ _) | (with_reducible assumption) | (with_reducible refine Below.alloc ?_ ?_ _) | (with_reducible refine Below.wext ?_ ?_ _ _) | (with_reducible refine Below.drew ?_) | (with_reducible refine Below.setCell ?_ ?_ _) | (with_reducible exact Nat.le_refl _) | (with_reducible refine Below.drewN' ?_ _) | (simp; omega) | (simp; done)))
    clear hZ
    have hAc : aftF c = { c with ca := true } := by rw [hA.out]; simp [stepF]
    have Z1a : Z.rangeAt w.heap.size 0 (caseL (aftF c)) := by rw [hAc]; exact Z1
    clear hAc Z1
    refine wp_region_held_drew (S := fun w' => w'.rangeAt w.heap.size 0 (caseL (aftF c)) ∧ w'.rangeAt X.heap.size 0 (caseL c)) (by kernel_rfl) ⟨R_drew Z1a, R_drew Z7⟩ (fun hHeld => ?_)
    refine wpAnyH_take (i := 0) at_0 (by kernel_rfl) (by kernel_rfl) (by kernel_rfl) (fun _ _ _ h => h) (yieldsIf_load_mid (by rfl) _ _ rfl (w.heap.size) 0 rfl (caseL (aftF c)) _ (fun w hw => hw.1) Try.underlying23 rfl Try.info_fc) (by assumption) ?_
    simp only [Act.put, List.setIfInBounds_toArray, List.set_cons_zero, List.set_cons_succ]
    refine wpAnyH_take (i := 1) at_1 (by kernel_rfl) (by kernel_rfl) (by kernel_rfl) (fun _ _ _ h => h) (yieldsIf_load_mid (by rfl) _ _ rfl (w.heap.size) 0 rfl (caseL (aftF c)) _ (fun w hw => hw.1) Try.underlying23 rfl Try.info_fc) (by assumption) ?_
    simp only [Act.put, List.setIfInBounds_toArray, List.set_cons_zero, List.set_cons_succ]
    refine wpAnyH_take (i := 2) at_2 (by kernel_rfl) (by kernel_rfl) (by kernel_rfl) (fun _ _ _ h => h) (yieldsIf_load_mid (by rfl) _ _ rfl (X.heap.size) 0 rfl (caseL c) _ (fun w hw => hw.2) Try.underlying23 rfl Try.info_fc) (by assumption) ?_
    simp only [Act.put, List.setIfInBounds_toArray, List.set_cons_zero, List.set_cons_succ]
    refine wpAnyH_take (i := 3) at_3 (by kernel_rfl) (by kernel_rfl) (by kernel_rfl) (fun _ _ _ h => h) (yieldsIf_eqfc (aftF c) c (by rfl) rfl rfl rfl) (by assumption) ?_
    simp only [Act.put, List.setIfInBounds_toArray, List.set_cons_zero, List.set_cons_succ]
    refine wpAnyH_ready (rs := [4]) (by kernel_rfl) (by simp) (AllReadyH.cons at_4 (fun K hK => ?_) AllReadyH.nil)
    rw [if_pos (by rfl)]
    refine wp_store_mid _ _ _ rfl (w.heap.size + 1) 0 ((caseL (aftF c)).toArray) rfl rfl (T_drew Z2) Try.info_fc (one_fc _) ?_
    simp only [Act.put, List.setIfInBounds_toArray, List.set_cons_zero, List.set_cons_succ]
    refine hK.out _ _ ⟨World.rangeAt_setCells_apart hHeld.1 _ _ _ (Or.inl (by omega)), World.rangeAt_setCells_apart hHeld.2 _ _ _ (Or.inl (Ne.symm ne72))⟩ (fun hHeld => ?_)
    clear hK K
    (try simp only [Act.put, List.setIfInBounds_toArray, List.set_cons_zero, List.set_cons_succ])
    refine wpAnyH_ready (rs := [5]) (by kernel_rfl) (by simp) (AllReadyH.cons at_5 (fun K hK => ?_) AllReadyH.nil)
    go_simp
    refine hK.out _ _ hHeld (fun hHeld => ?_)
    clear hK K
    (try simp only [Act.put, List.setIfInBounds_toArray, List.set_cons_zero, List.set_cons_succ])
    refine wpAnyH_ready (rs := [6]) (by kernel_rfl) (by simp) (AllReadyH.cons at_6 (fun K hK => ?_) AllReadyH.nil)
    go_simp
    refine hK.out _ _ hHeld (fun hHeld => ?_)
    clear hK K
    (try simp only [Act.put, List.setIfInBounds_toArray, List.set_cons_zero, List.set_cons_succ])
    refine wpAnyH_done (by kernel_rfl) ?_ _
    have V2 : Hid ((Z.drew.setCells (w.heap.size + 1) 0 (caseL (aftF c))).rangeAt (w.heap.size + 1) 0 (caseL (aftF c))) := World.rangeAt_setCells_same _ _ _ _ (T_drew Z2)
    have HV : Hid (Below w.heap.size w (Z.drew.setCells (w.heap.size + 1) 0 (caseL (aftF c)))) := Below.setCells' _ (by omega) _ _ _ (Below.drew HZ.out)
    clear hHeld HZ Z2 Z7 Z1a
    generalize hVV : Z.drew.setCells (w.heap.size + 1) 0 (caseL (aftF c)) = V at V2 HV ⊢
    clear hVV
    go_wp2
    refine bodyPost_ret (results_c3 (cs := caseL (aftF c)) rfl _ _ _ rfl V2.out Try.underlying23 rfl Try.info_fc) rfl ?_
    refine ⟨?_, Ext.of_below HV.out⟩
    show _ = Ending.returned (.tuple #[.agg (caseL (aftF c)).toArray, .bool (doneF c), .int .i64 (chkF c)])
    rw [hD.out, HC.out]; rfl

end Go.Proofs.Ytcbadcbahmclpaa
