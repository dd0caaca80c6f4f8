/- Layer 26: the examples. -/
import Derived.Test.YtcbadcbahmclpaaFpt
set_option linter.unusedSimpArgs false
set_option linter.unusedVariables false
namespace Go.Proofs.Ytcbadcbahmclpaa
open Go.RowKit

theorem wpList_load_ex {P : Program} {ops : Array Oper} {rest : List Oper} {op : Oper} {a : Act} {w : World} {Q : Exit → Act → World → Prop} (hgd : op.guard = none) (ty : TypeId) (x : Operand) (ho : op.op = .load ty x)
    {b : Nat} (hx : a.eval x = .pointer (some ⟨b, 0, none⟩)) {d : TypeDesc} {m : Nat} (hu : P.underlying ty = some d) (hd : d.isRow = true) (hi : (P.info? ty).map (·.size) = some m)
    (h : ∃ cs, w.rangeAt b 0 cs ∧ cs.length = m ∧ wpList P ops Q rest (a.put op.dst (.agg cs.toArray)) w) : wpList P ops Q (op :: rest) a w := by
  obtain ⟨cs, hc, hl, h⟩ := h
  exact wpList_load_mid hgd ty x ho b 0 hx cs d hc hu hd (by rw [hi, hl]) h

theorem plK1 (hP : PlanOK 13) (w : World) : Calls Try.prog 13 #[.agg #[.bool true, .bool true, .int .i64 3, .bool false, .bool false, .bool false, .bool false, .int .i64 0, .bool false, .bool false, .bool false, .bool false, .bool false, .bool false, .bool false, .bool false, .int .i64 2]] w fun e w' => e = .returned (.tuple #[.agg #[.int .i64 3, .int .i64 0, .int .i64 0, .int .i64 2, .int .i64 1], .int .i64 0]) ∧ Ext w w' :=
  hP ⟨true, true, 3, false, false, false, false, 0, false, false, false, false, false, false, false, false, 2⟩ w
theorem plK2 (hP : PlanOK 13) (w : World) : Calls Try.prog 13 #[.agg #[.bool true, .bool true, .int .i64 3, .bool false, .bool false, .bool false, .bool false, .int .i64 1, .bool true, .bool false, .bool true, .bool true, .bool false, .bool false, .bool false, .bool false, .int .i64 0]] w fun e w' => e = .returned (.tuple #[.agg #[.int .i64 0, .int .i64 0, .int .i64 0, .int .i64 0, .int .i64 0], .int .i64 0]) ∧ Ext w w' :=
  hP ⟨true, true, 3, false, false, false, false, 1, true, false, true, true, false, false, false, false, 0⟩ w
theorem plK3 (hP : PlanOK 13) (w : World) : Calls Try.prog 13 #[.agg #[.bool true, .bool true, .int .i64 3, .bool false, .bool true, .bool false, .bool false, .int .i64 1, .bool false, .bool false, .bool false, .bool false, .bool false, .bool false, .bool false, .bool false, .int .i64 0]] w fun e w' => e = .returned (.tuple #[.agg #[.int .i64 9, .int .i64 0, .int .i64 0, .int .i64 0, .int .i64 1], .int .i64 0]) ∧ Ext w w' :=
  hP ⟨true, true, 3, false, true, false, false, 1, false, false, false, false, false, false, false, false, 0⟩ w
theorem plK4 (hP : PlanOK 13) (w : World) : Calls Try.prog 13 #[.agg #[.bool true, .bool true, .int .i64 3, .bool true, .bool true, .bool false, .bool false, .int .i64 1, .bool false, .bool false, .bool false, .bool false, .bool false, .bool false, .bool false, .bool false, .int .i64 0]] w fun e w' => e = .returned (.tuple #[.agg #[.int .i64 7, .int .i64 0, .int .i64 0, .int .i64 0, .int .i64 0], .int .i64 0]) ∧ Ext w w' :=
  hP ⟨true, true, 3, true, true, false, false, 1, false, false, false, false, false, false, false, false, 0⟩ w
theorem plK5 (hP : PlanOK 13) (w : World) : Calls Try.prog 13 #[.agg #[.bool true, .bool true, .int .i64 3, .bool true, .bool true, .bool false, .bool false, .int .i64 1, .bool false, .bool false, .bool false, .bool false, .bool false, .bool false, .bool false, .bool true, .int .i64 0]] w fun e w' => e = .returned (.tuple #[.agg #[.int .i64 2, .int .i64 0, .int .i64 5, .int .i64 0, .int .i64 0], .int .i64 0]) ∧ Ext w w' :=
  hP ⟨true, true, 3, true, true, false, false, 1, false, false, false, false, false, false, false, true, 0⟩ w
theorem plK6 (hP : PlanOK 13) (w : World) : Calls Try.prog 13 #[.agg #[.bool false, .bool true, .int .i64 1, .bool false, .bool true, .bool true, .bool false, .int .i64 0, .bool false, .bool false, .bool false, .bool false, .bool false, .bool false, .bool false, .bool false, .int .i64 0]] w fun e w' => e = .returned (.tuple #[.agg #[.int .i64 1, .int .i64 14, .int .i64 0, .int .i64 0, .int .i64 0], .int .i64 0]) ∧ Ext w w' :=
  hP ⟨false, true, 1, false, true, true, false, 0, false, false, false, false, false, false, false, false, 0⟩ w
theorem plK7 (hP : PlanOK 13) (w : World) : Calls Try.prog 13 #[.agg #[.bool false, .bool true, .int .i64 1, .bool false, .bool true, .bool true, .bool false, .int .i64 1, .bool false, .bool false, .bool true, .bool false, .bool false, .bool false, .bool false, .bool false, .int .i64 0]] w fun e w' => e = .returned (.tuple #[.agg #[.int .i64 0, .int .i64 0, .int .i64 0, .int .i64 0, .int .i64 0], .int .i64 0]) ∧ Ext w w' :=
  hP ⟨false, true, 1, false, true, true, false, 1, false, false, true, false, false, false, false, false, 0⟩ w
theorem plK8 (hP : PlanOK 13) (w : World) : Calls Try.prog 13 #[.agg #[.bool false, .bool false, .int .i64 0, .bool false, .bool false, .bool false, .bool false, .int .i64 4, .bool false, .bool false, .bool false, .bool false, .bool false, .bool false, .bool false, .bool false, .int .i64 0]] w fun e w' => e = .returned (.tuple #[.agg #[.int .i64 0, .int .i64 0, .int .i64 0, .int .i64 0, .int .i64 0], .int .i64 1]) ∧ Ext w w' :=
  hP ⟨false, false, 0, false, false, false, false, 4, false, false, false, false, false, false, false, false, 0⟩ w
theorem afK1 (hA : AfterOK 15) (w : World) : Calls Try.prog 15 #[.agg #[.bool true, .bool true, .int .i64 3, .bool false, .bool false, .bool false, .bool false, .int .i64 0, .bool false, .bool false, .bool false, .bool false, .bool false, .bool false, .bool false, .bool false, .int .i64 2]] w fun e w' => e = .returned (.tuple #[.agg #[.bool true, .bool true, .int .i64 3, .bool false, .bool false, .bool false, .bool false, .int .i64 1, .bool true, .bool false, .bool true, .bool true, .bool false, .bool false, .bool false, .bool false, .int .i64 0], .bool false, .int .i64 0]) ∧ Ext w w' :=
  hA ⟨true, true, 3, false, false, false, false, 0, false, false, false, false, false, false, false, false, 2⟩ w

set_option maxRecDepth 100000 in
set_option maxHeartbeats 40000000 in
theorem awake_any (hP : PlanOK 13) (hA : AfterOK 15) (w : World) :
    Calls Try.prog 12 #[] w fun e w' => e = .returned (.bool true) ∧ Ext w w' := by
  have HB0 : Hid (Below w.heap.size w w) := Below.refl _ _
  have wz0 : w.heap.size ≤ w.heap.size := Nat.le_refl _
  go_enter Try.func12, Try.ntmps12
  go_upto_region 2 with (first | fail)
  refine name_world (fun W1 hW1 => ?_)
  have RA' : Hid (W1.rangeAt (w.heap.size) 0 (caseL ⟨true, true, 3, false, false, false, false, 0, false, false, false, false, false, false, false, false, 2⟩)) := by show World.rangeAt _ _ _ _; rw [hW1]; rng
  have TA' : Hid (W1.there (w.heap.size) 0 17) := by show World.there _ _ _ _; rw [hW1]; thr
  have bA' : w.heap.size ≤ w.heap.size := by have := wz0; omega
  have zA' : LtD (w.heap.size) W1.heap.size := World.block_lt_of_cell? _ _ (RA'.out 0 _ rfl)
  have wz1 : w.heap.size ≤ W1.heap.size := by rw [hW1]; simp; try omega
  have HB1 : Hid (Below w.heap.size w W1) := by
    have hb := HB0.out
    show Below _ _ _
    rw [hW1]
    gro
  clear hW1 HB0 wz0
  have zA := zA'
  clear zA'
  have RA := RA'
  clear RA'
  have TA := TA'
  clear TA'
  have bA := bA'
  clear bA'
  as_aux_lemma =>
   go_upto_region 3 with (first | (refine wpList_load_mid rfl 23 _ rfl (w.heap.size) 0 rfl (caseL ⟨true, true, 3, false, false, false, false, 0, false, false, false, false, false, false, false, false, 2⟩) _ (by have hr := RA.out; rng) Try.underlying23 rfl Try.info_fc ?_; simp only [Act.put, List.setIfInBounds_toArray, List.set_cons_zero, List.set_cons_succ])| (go_at_call 13; refine (plK1 hP _).mono ?_; rintro e w1 ⟨rfl, os2, n2, rfl⟩))
   refine name_world (fun W2 hW2 => ?_)
   have RA' : Hid (W2.rangeAt (w.heap.size) 0 (caseL ⟨true, true, 3, false, false, false, false, 0, false, false, false, false, false, false, false, false, 2⟩)) := by
     show World.rangeAt _ _ _ (caseL ⟨true, true, 3, false, false, false, false, 0, false, false, false, false, false, false, false, false, 2⟩)
     rw [hW2]
     (have hr := RA.out; rng)
   have TA' : Hid (W2.there (w.heap.size) 0 17) := by
     have hr := TA.out
     show World.there _ _ _ _
     rw [hW2]
     thr
   have bA' := bA
   have zA' : LtD (w.heap.size) W2.heap.size := World.block_lt_of_cell? _ _ (RA'.out 0 _ rfl)
   have RP2' : Hid (W2.rangeAt (W1.heap.size + os2.size) 0 ([.int .i64 3, .int .i64 0, .int .i64 0, .int .i64 2, .int .i64 1])) := by show World.rangeAt _ _ _ _; rw [hW2]; rng
   have TP2' : Hid (W2.there (W1.heap.size + os2.size) 0 5) := by show World.there _ _ _ _; rw [hW2]; thr
   have bP2' : w.heap.size ≤ W1.heap.size + os2.size := by have := wz1; omega
   have zP2' : LtD (W1.heap.size + os2.size) W2.heap.size := World.block_lt_of_cell? _ _ (RP2'.out 0 _ rfl)
   have wz2 : w.heap.size ≤ W2.heap.size := by rw [hW2]; simp; try omega
   have HB2 : Hid (Below w.heap.size w W2) := by
     have hb := HB1.out
     show Below _ _ _
     rw [hW2]
     gro
   have ne_A_P2' : w.heap.size ≠ W1.heap.size + os2.size := by have h_ := zA; simp only [LtD] at h_; omega
   have ne_P2_A' : W1.heap.size + os2.size ≠ w.heap.size := by have h_ := zA; simp only [LtD] at h_; omega
   clear hW2 zA RA TA bA HB1 wz1
   have zA := zA'
   clear zA'
   have RA := RA'
   clear RA'
   have TA := TA'
   clear TA'
   have bA := bA'
   clear bA'
   have zP2 := zP2'
   clear zP2'
   have RP2 := RP2'
   clear RP2'
   have TP2 := TP2'
   clear TP2'
   have bP2 := bP2'
   clear bP2'
   have ne_A_P2 := ne_A_P2'
   clear ne_A_P2'
   have ne_P2_A := ne_P2_A'
   clear ne_P2_A'
   as_aux_lemma =>
    go_upto_region 4 with (first | (refine wpList_load_mid rfl 23 _ rfl (w.heap.size) 0 rfl (caseL ⟨true, true, 3, false, false, false, false, 0, false, false, false, false, false, false, false, false, 2⟩) _ (by have hr := RA.out; rng) Try.underlying23 rfl Try.info_fc ?_; simp only [Act.put, List.setIfInBounds_toArray, List.set_cons_zero, List.set_cons_succ])| (go_at_call 15; refine (afK1 hA _).mono ?_; rintro e w1 ⟨rfl, os3, n3, rfl⟩))
    refine name_world (fun W3 hW3 => ?_)
    have RP2' : Hid (W3.rangeAt (W1.heap.size + os2.size) 0 ([.int .i64 3, .int .i64 0, .int .i64 0, .int .i64 2, .int .i64 1])) := by
      show World.rangeAt _ _ _ ([.int .i64 3, .int .i64 0, .int .i64 0, .int .i64 2, .int .i64 1])
      rw [hW3]
      (have hr := RP2.out; rng)
    have TP2' : Hid (W3.there (W1.heap.size + os2.size) 0 5) := by
      have hr := TP2.out
      show World.there _ _ _ _
      rw [hW3]
      thr
    have bP2' := bP2
    have zP2' : LtD (W1.heap.size + os2.size) W3.heap.size := World.block_lt_of_cell? _ _ (RP2'.out 0 _ rfl)
    have RD' : Hid (W3.rangeAt (W2.heap.size + os3.size) 0 (caseL ⟨true, true, 3, false, false, false, false, 1, true, false, true, true, false, false, false, false, 0⟩)) := by show World.rangeAt _ _ _ _; rw [hW3]; rng
    have TD' : Hid (W3.there (W2.heap.size + os3.size) 0 17) := by show World.there _ _ _ _; rw [hW3]; thr
    have bD' : w.heap.size ≤ W2.heap.size + os3.size := by have := wz2; omega
    have zD' : LtD (W2.heap.size + os3.size) W3.heap.size := World.block_lt_of_cell? _ _ (RD'.out 0 _ rfl)
    have wz3 : w.heap.size ≤ W3.heap.size := by rw [hW3]; simp; try omega
    have HB3 : Hid (Below w.heap.size w W3) := by
      have hb := HB2.out
      show Below _ _ _
      rw [hW3]
      gro
    have ne_P2_D' : W1.heap.size + os2.size ≠ W2.heap.size + os3.size := by have h_ := zP2; simp only [LtD] at h_; omega
    have ne_D_P2' : W2.heap.size + os3.size ≠ W1.heap.size + os2.size := by have h_ := zP2; simp only [LtD] at h_; omega
    clear hW3 zA RA TA bA zP2 RP2 TP2 bP2 ne_A_P2 ne_P2_A HB2 wz2
    have zP2 := zP2'
    clear zP2'
    have RP2 := RP2'
    clear RP2'
    have TP2 := TP2'
    clear TP2'
    have bP2 := bP2'
    clear bP2'
    have zD := zD'
    clear zD'
    have RD := RD'
    clear RD'
    have TD := TD'
    clear TD'
    have bD := bD'
    clear bD'
    have ne_P2_D := ne_P2_D'
    clear ne_P2_D'
    have ne_D_P2 := ne_D_P2'
    clear ne_D_P2'
    as_aux_lemma =>
     go_upto_region 5 with (first | (refine wpList_load_mid rfl 23 _ rfl (W2.heap.size + os3.size) 0 rfl (caseL ⟨true, true, 3, false, false, false, false, 1, true, false, true, true, false, false, false, false, 0⟩) _ (by have hr := RD.out; rng) Try.underlying23 rfl Try.info_fc ?_; simp only [Act.put, List.setIfInBounds_toArray, List.set_cons_zero, List.set_cons_succ])| (go_at_call 13; refine (plK2 hP _).mono ?_; rintro e w1 ⟨rfl, os4, n4, rfl⟩))
     refine name_world (fun W4 hW4 => ?_)
     have RP2' : Hid (W4.rangeAt (W1.heap.size + os2.size) 0 ([.int .i64 3, .int .i64 0, .int .i64 0, .int .i64 2, .int .i64 1])) := by
       show World.rangeAt _ _ _ ([.int .i64 3, .int .i64 0, .int .i64 0, .int .i64 2, .int .i64 1])
       rw [hW4]
       (have hr := RP2.out; rng)
     have TP2' : Hid (W4.there (W1.heap.size + os2.size) 0 5) := by
       have hr := TP2.out
       show World.there _ _ _ _
       rw [hW4]
       thr
     have bP2' := bP2
     have zP2' : LtD (W1.heap.size + os2.size) W4.heap.size := World.block_lt_of_cell? _ _ (RP2'.out 0 _ rfl)
     have RP7' : Hid (W4.rangeAt (W3.heap.size + os4.size) 0 ([.int .i64 0, .int .i64 0, .int .i64 0, .int .i64 0, .int .i64 0])) := by show World.rangeAt _ _ _ _; rw [hW4]; rng
     have TP7' : Hid (W4.there (W3.heap.size + os4.size) 0 5) := by show World.there _ _ _ _; rw [hW4]; thr
     have bP7' : w.heap.size ≤ W3.heap.size + os4.size := by have := wz3; omega
     have zP7' : LtD (W3.heap.size + os4.size) W4.heap.size := World.block_lt_of_cell? _ _ (RP7'.out 0 _ rfl)
     have wz4 : w.heap.size ≤ W4.heap.size := by rw [hW4]; simp; try omega
     have HB4 : Hid (Below w.heap.size w W4) := by
       have hb := HB3.out
       show Below _ _ _
       rw [hW4]
       gro
     have ne_P2_P7' : W1.heap.size + os2.size ≠ W3.heap.size + os4.size := by have h_ := zP2; simp only [LtD] at h_; omega
     have ne_P7_P2' : W3.heap.size + os4.size ≠ W1.heap.size + os2.size := by have h_ := zP2; simp only [LtD] at h_; omega
     clear hW4 zP2 RP2 TP2 bP2 zD RD TD bD ne_P2_D ne_D_P2 HB3 wz3
     have zP2 := zP2'
     clear zP2'
     have RP2 := RP2'
     clear RP2'
     have TP2 := TP2'
     clear TP2'
     have bP2 := bP2'
     clear bP2'
     have zP7 := zP7'
     clear zP7'
     have RP7 := RP7'
     clear RP7'
     have TP7 := TP7'
     clear TP7'
     have bP7 := bP7'
     clear bP7'
     have ne_P2_P7 := ne_P2_P7'
     clear ne_P2_P7'
     have ne_P7_P2 := ne_P7_P2'
     clear ne_P7_P2'
     have kP2_0 : W4.cell? ⟨W1.heap.size + os2.size, 0, none⟩ = some (.int .i64 3) := World.rangeAt.rcell RP2.out 0 rfl
     have kP2_1 : W4.cell? ⟨W1.heap.size + os2.size, 1, none⟩ = some (.int .i64 0) := World.rangeAt.rcell RP2.out 1 rfl
     have kP2_2 : W4.cell? ⟨W1.heap.size + os2.size, 2, none⟩ = some (.int .i64 0) := World.rangeAt.rcell RP2.out 2 rfl
     have kP2_3 : W4.cell? ⟨W1.heap.size + os2.size, 3, none⟩ = some (.int .i64 2) := World.rangeAt.rcell RP2.out 3 rfl
     have kP2_4 : W4.cell? ⟨W1.heap.size + os2.size, 4, none⟩ = some (.int .i64 1) := World.rangeAt.rcell RP2.out 4 rfl
     have kP7_0 : W4.cell? ⟨W3.heap.size + os4.size, 0, none⟩ = some (.int .i64 0) := World.rangeAt.rcell RP7.out 0 rfl
     have kP7_1 : W4.cell? ⟨W3.heap.size + os4.size, 1, none⟩ = some (.int .i64 0) := World.rangeAt.rcell RP7.out 1 rfl
     have kP7_2 : W4.cell? ⟨W3.heap.size + os4.size, 2, none⟩ = some (.int .i64 0) := World.rangeAt.rcell RP7.out 2 rfl
     have kP7_3 : W4.cell? ⟨W3.heap.size + os4.size, 3, none⟩ = some (.int .i64 0) := World.rangeAt.rcell RP7.out 3 rfl
     have kP7_4 : W4.cell? ⟨W3.heap.size + os4.size, 4, none⟩ = some (.int .i64 0) := World.rangeAt.rcell RP7.out 4 rfl
     as_aux_lemma =>
      go_upto_region 8 with (first | fail)
      refine name_world (fun W5 hW5 => ?_)
      clear kP2_0 kP2_1 kP2_2 kP2_3 kP2_4 kP7_0 kP7_1 kP7_2 kP7_3 kP7_4
      have RP2' : Hid (W5.rangeAt (W1.heap.size + os2.size) 0 ([.int .i64 3, .int .i64 0, .int .i64 0, .int .i64 2, .int .i64 1])) := by
        show World.rangeAt _ _ _ ([.int .i64 3, .int .i64 0, .int .i64 0, .int .i64 2, .int .i64 1])
        rw [hW5]
        (have hr := RP2.out; rng)
      have TP2' : Hid (W5.there (W1.heap.size + os2.size) 0 5) := by
        have hr := TP2.out
        show World.there _ _ _ _
        rw [hW5]
        thr
      have bP2' := bP2
      have zP2' : LtD (W1.heap.size + os2.size) W5.heap.size := World.block_lt_of_cell? _ _ (RP2'.out 0 _ rfl)
      have RP7' : Hid (W5.rangeAt (W3.heap.size + os4.size) 0 ([.int .i64 0, .int .i64 0, .int .i64 0, .int .i64 0, .int .i64 0])) := by
        show World.rangeAt _ _ _ ([.int .i64 0, .int .i64 0, .int .i64 0, .int .i64 0, .int .i64 0])
        rw [hW5]
        (have hr := RP7.out; rng)
      have TP7' : Hid (W5.there (W3.heap.size + os4.size) 0 5) := by
        have hr := TP7.out
        show World.there _ _ _ _
        rw [hW5]
        thr
      have bP7' := bP7
      have zP7' : LtD (W3.heap.size + os4.size) W5.heap.size := World.block_lt_of_cell? _ _ (RP7'.out 0 _ rfl)
      have RN' : Hid (W5.rangeAt (W4.heap.size) 0 (caseL ⟨true, true, 3, false, true, false, false, 1, false, false, false, false, false, false, false, false, 0⟩)) := by show World.rangeAt _ _ _ _; rw [hW5]; rng
      have TN' : Hid (W5.there (W4.heap.size) 0 17) := by show World.there _ _ _ _; rw [hW5]; thr
      have bN' : w.heap.size ≤ W4.heap.size := by have := wz4; omega
      have zN' : LtD (W4.heap.size) W5.heap.size := World.block_lt_of_cell? _ _ (RN'.out 0 _ rfl)
      have wz5 : w.heap.size ≤ W5.heap.size := by rw [hW5]; simp; try omega
      have HB5 : Hid (Below w.heap.size w W5) := by
        have hb := HB4.out
        show Below _ _ _
        rw [hW5]
        gro
      have ne_P2_P7' := ne_P2_P7
      have ne_P2_N' : W1.heap.size + os2.size ≠ W4.heap.size := by have h_ := zP2; simp only [LtD] at h_; omega
      have ne_P7_P2' := ne_P7_P2
      have ne_P7_N' : W3.heap.size + os4.size ≠ W4.heap.size := by have h_ := zP7; simp only [LtD] at h_; omega
      have ne_N_P2' : W4.heap.size ≠ W1.heap.size + os2.size := by have h_ := zP2; simp only [LtD] at h_; omega
      have ne_N_P7' : W4.heap.size ≠ W3.heap.size + os4.size := by have h_ := zP7; simp only [LtD] at h_; omega
      clear hW5 zP2 RP2 TP2 bP2 zP7 RP7 TP7 bP7 ne_P2_P7 ne_P7_P2 HB4 wz4
      have zP2 := zP2'
      clear zP2'
      have RP2 := RP2'
      clear RP2'
      have TP2 := TP2'
      clear TP2'
      have bP2 := bP2'
      clear bP2'
      have zP7 := zP7'
      clear zP7'
      have RP7 := RP7'
      clear RP7'
      have TP7 := TP7'
      clear TP7'
      have bP7 := bP7'
      clear bP7'
      have zN := zN'
      clear zN'
      have RN := RN'
      clear RN'
      have TN := TN'
      clear TN'
      have bN := bN'
      clear bN'
      have ne_P2_P7 := ne_P2_P7'
      clear ne_P2_P7'
      have ne_P2_N := ne_P2_N'
      clear ne_P2_N'
      have ne_P7_P2 := ne_P7_P2'
      clear ne_P7_P2'
      have ne_P7_N := ne_P7_N'
      clear ne_P7_N'
      have ne_N_P2 := ne_N_P2'
      clear ne_N_P2'
      have ne_N_P7 := ne_N_P7'
      clear ne_N_P7'
      have kP2_0 : W5.cell? ⟨W1.heap.size + os2.size, 0, none⟩ = some (.int .i64 3) := World.rangeAt.rcell RP2.out 0 rfl
      have kP2_1 : W5.cell? ⟨W1.heap.size + os2.size, 1, none⟩ = some (.int .i64 0) := World.rangeAt.rcell RP2.out 1 rfl
      have kP2_2 : W5.cell? ⟨W1.heap.size + os2.size, 2, none⟩ = some (.int .i64 0) := World.rangeAt.rcell RP2.out 2 rfl
      have kP2_3 : W5.cell? ⟨W1.heap.size + os2.size, 3, none⟩ = some (.int .i64 2) := World.rangeAt.rcell RP2.out 3 rfl
      have kP2_4 : W5.cell? ⟨W1.heap.size + os2.size, 4, none⟩ = some (.int .i64 1) := World.rangeAt.rcell RP2.out 4 rfl
      have fP2_0 : W5.frozen? ⟨W1.heap.size + os2.size, 0, none⟩ = false := World.there.tfroz TP2.out 0 (by omega)
      have fP2_1 : W5.frozen? ⟨W1.heap.size + os2.size, 1, none⟩ = false := World.there.tfroz TP2.out 1 (by omega)
      have fP2_2 : W5.frozen? ⟨W1.heap.size + os2.size, 2, none⟩ = false := World.there.tfroz TP2.out 2 (by omega)
      have fP2_3 : W5.frozen? ⟨W1.heap.size + os2.size, 3, none⟩ = false := World.there.tfroz TP2.out 3 (by omega)
      have fP2_4 : W5.frozen? ⟨W1.heap.size + os2.size, 4, none⟩ = false := World.there.tfroz TP2.out 4 (by omega)
      as_aux_lemma =>
       go_upto_region 9 with (first | (refine wpList_load_mid rfl 23 _ rfl (W4.heap.size) 0 rfl (caseL ⟨true, true, 3, false, true, false, false, 1, false, false, false, false, false, false, false, false, 0⟩) _ (by have hr := RN.out; rng) Try.underlying23 rfl Try.info_fc ?_; simp only [Act.put, List.setIfInBounds_toArray, List.set_cons_zero, List.set_cons_succ])| (go_at_call 13; refine (plK3 hP _).mono ?_; rintro e w1 ⟨rfl, os6, n6, rfl⟩))
       refine name_world (fun W6 hW6 => ?_)
       clear kP2_0 kP2_1 kP2_2 kP2_3 kP2_4 fP2_0 fP2_1 fP2_2 fP2_3 fP2_4
       have RP2' : Hid (W6.rangeAt (W1.heap.size + os2.size) 0 ([.int .i64 9, .int .i64 0, .int .i64 0, .int .i64 0, .int .i64 1])) := by
         show World.rangeAt _ _ _ ([.int .i64 9, .int .i64 0, .int .i64 0, .int .i64 0, .int .i64 1])
         rw [hW6]
         (have hr := RP2.out; rng)
       have TP2' : Hid (W6.there (W1.heap.size + os2.size) 0 5) := by
         have hr := TP2.out
         show World.there _ _ _ _
         rw [hW6]
         thr
       have bP2' := bP2
       have zP2' : LtD (W1.heap.size + os2.size) W6.heap.size := World.block_lt_of_cell? _ _ (RP2'.out 0 _ rfl)
       have RP7' : Hid (W6.rangeAt (W3.heap.size + os4.size) 0 ([.int .i64 0, .int .i64 0, .int .i64 0, .int .i64 0, .int .i64 0])) := by
         show World.rangeAt _ _ _ ([.int .i64 0, .int .i64 0, .int .i64 0, .int .i64 0, .int .i64 0])
         rw [hW6]
         (have hr := RP7.out; rng)
       have TP7' : Hid (W6.there (W3.heap.size + os4.size) 0 5) := by
         have hr := TP7.out
         show World.there _ _ _ _
         rw [hW6]
         thr
       have bP7' := bP7
       have zP7' : LtD (W3.heap.size + os4.size) W6.heap.size := World.block_lt_of_cell? _ _ (RP7'.out 0 _ rfl)
       have RN' : Hid (W6.rangeAt (W4.heap.size) 0 (caseL ⟨true, true, 3, false, true, false, false, 1, false, false, false, false, false, false, false, false, 0⟩)) := by
         show World.rangeAt _ _ _ (caseL ⟨true, true, 3, false, true, false, false, 1, false, false, false, false, false, false, false, false, 0⟩)
         rw [hW6]
         (have hr := RN.out; rng)
       have TN' : Hid (W6.there (W4.heap.size) 0 17) := by
         have hr := TN.out
         show World.there _ _ _ _
         rw [hW6]
         thr
       have bN' := bN
       have zN' : LtD (W4.heap.size) W6.heap.size := World.block_lt_of_cell? _ _ (RN'.out 0 _ rfl)
       have wz6 : w.heap.size ≤ W6.heap.size := by rw [hW6]; simp; try omega
       have HB6 : Hid (Below w.heap.size w W6) := by
         have hb := HB5.out
         show Below _ _ _
         rw [hW6]
         gro
       have ne_P2_P7' := ne_P2_P7
       have ne_P2_N' := ne_P2_N
       have ne_P7_P2' := ne_P7_P2
       have ne_P7_N' := ne_P7_N
       have ne_N_P2' := ne_N_P2
       have ne_N_P7' := ne_N_P7
       clear hW6 zP2 RP2 TP2 bP2 zP7 RP7 TP7 bP7 zN RN TN bN ne_P2_P7 ne_P2_N ne_P7_P2 ne_P7_N ne_N_P2 ne_N_P7 HB5 wz5
       have zP2 := zP2'
       clear zP2'
       have RP2 := RP2'
       clear RP2'
       have TP2 := TP2'
       clear TP2'
       have bP2 := bP2'
       clear bP2'
       have zP7 := zP7'
       clear zP7'
       have RP7 := RP7'
       clear RP7'
       have TP7 := TP7'
       clear TP7'
       have bP7 := bP7'
       clear bP7'
       have zN := zN'
       clear zN'
       have RN := RN'
       clear RN'
       have TN := TN'
       clear TN'
       have bN := bN'
       clear bN'
       have ne_P2_P7 := ne_P2_P7'
       clear ne_P2_P7'
       have ne_P2_N := ne_P2_N'
       clear ne_P2_N'
       have ne_P7_P2 := ne_P7_P2'
       clear ne_P7_P2'
       have ne_P7_N := ne_P7_N'
       clear ne_P7_N'
       have ne_N_P2 := ne_N_P2'
       clear ne_N_P2'
       have ne_N_P7 := ne_N_P7'
       clear ne_N_P7'
       have gN_3 : W6.cell? ⟨W4.heap.size, 3, none⟩ = some (.bool false) := World.rangeAt.rcell RN.out 3 rfl
       have hN_3 : W6.frozen? ⟨W4.heap.size, 3, none⟩ = false := World.there.tfroz TN.out 3 (by omega)
       as_aux_lemma =>
        go_upto_region 10 with (first | fail)
        refine name_world (fun W7 hW7 => ?_)
        have RP2' : Hid (W7.rangeAt (W1.heap.size + os2.size) 0 ([.int .i64 9, .int .i64 0, .int .i64 0, .int .i64 0, .int .i64 1])) := by
          show World.rangeAt _ _ _ ([.int .i64 9, .int .i64 0, .int .i64 0, .int .i64 0, .int .i64 1])
          rw [hW7]
          (have hr := RP2.out; rng)
        have TP2' : Hid (W7.there (W1.heap.size + os2.size) 0 5) := by
          have hr := TP2.out
          show World.there _ _ _ _
          rw [hW7]
          thr
        have bP2' := bP2
        have zP2' : LtD (W1.heap.size + os2.size) W7.heap.size := World.block_lt_of_cell? _ _ (RP2'.out 0 _ rfl)
        have RP7' : Hid (W7.rangeAt (W3.heap.size + os4.size) 0 ([.int .i64 0, .int .i64 0, .int .i64 0, .int .i64 0, .int .i64 0])) := by
          show World.rangeAt _ _ _ ([.int .i64 0, .int .i64 0, .int .i64 0, .int .i64 0, .int .i64 0])
          rw [hW7]
          (have hr := RP7.out; rng)
        have TP7' : Hid (W7.there (W3.heap.size + os4.size) 0 5) := by
          have hr := TP7.out
          show World.there _ _ _ _
          rw [hW7]
          thr
        have bP7' := bP7
        have zP7' : LtD (W3.heap.size + os4.size) W7.heap.size := World.block_lt_of_cell? _ _ (RP7'.out 0 _ rfl)
        have RN' : Hid (W7.rangeAt (W4.heap.size) 0 (caseL ⟨true, true, 3, true, true, false, false, 1, false, false, false, false, false, false, false, false, 0⟩)) := by
          show World.rangeAt _ _ _ (caseL ⟨true, true, 3, true, true, false, false, 1, false, false, false, false, false, false, false, false, 0⟩)
          rw [hW7]
          (have hr := RN.out; exact (R_set hr (by simp [caseL])))
        have TN' : Hid (W7.there (W4.heap.size) 0 17) := by
          have hr := TN.out
          show World.there _ _ _ _
          rw [hW7]
          thr
        have bN' := bN
        have zN' : LtD (W4.heap.size) W7.heap.size := World.block_lt_of_cell? _ _ (RN'.out 0 _ rfl)
        have wz7 : w.heap.size ≤ W7.heap.size := by rw [hW7]; simp; try omega
        have HB7 : Hid (Below w.heap.size w W7) := by
          have hb := HB6.out
          show Below _ _ _
          rw [hW7]
          gro
        have ne_P2_P7' := ne_P2_P7
        have ne_P2_N' := ne_P2_N
        have ne_P7_P2' := ne_P7_P2
        have ne_P7_N' := ne_P7_N
        have ne_N_P2' := ne_N_P2
        have ne_N_P7' := ne_N_P7
        clear hW7 gN_3 hN_3 zP2 RP2 TP2 bP2 zP7 RP7 TP7 bP7 zN RN TN bN ne_P2_P7 ne_P2_N ne_P7_P2 ne_P7_N ne_N_P2 ne_N_P7 HB6 wz6
        have zP2 := zP2'
        clear zP2'
        have RP2 := RP2'
        clear RP2'
        have TP2 := TP2'
        clear TP2'
        have bP2 := bP2'
        clear bP2'
        have zP7 := zP7'
        clear zP7'
        have RP7 := RP7'
        clear RP7'
        have TP7 := TP7'
        clear TP7'
        have bP7 := bP7'
        clear bP7'
        have zN := zN'
        clear zN'
        have RN := RN'
        clear RN'
        have TN := TN'
        clear TN'
        have bN := bN'
        clear bN'
        have ne_P2_P7 := ne_P2_P7'
        clear ne_P2_P7'
        have ne_P2_N := ne_P2_N'
        clear ne_P2_N'
        have ne_P7_P2 := ne_P7_P2'
        clear ne_P7_P2'
        have ne_P7_N := ne_P7_N'
        clear ne_P7_N'
        have ne_N_P2 := ne_N_P2'
        clear ne_N_P2'
        have ne_N_P7 := ne_N_P7'
        clear ne_N_P7'
        have kP7_0 : W7.cell? ⟨W3.heap.size + os4.size, 0, none⟩ = some (.int .i64 0) := World.rangeAt.rcell RP7.out 0 rfl
        have kP7_1 : W7.cell? ⟨W3.heap.size + os4.size, 1, none⟩ = some (.int .i64 0) := World.rangeAt.rcell RP7.out 1 rfl
        have kP7_2 : W7.cell? ⟨W3.heap.size + os4.size, 2, none⟩ = some (.int .i64 0) := World.rangeAt.rcell RP7.out 2 rfl
        have kP7_3 : W7.cell? ⟨W3.heap.size + os4.size, 3, none⟩ = some (.int .i64 0) := World.rangeAt.rcell RP7.out 3 rfl
        have kP7_4 : W7.cell? ⟨W3.heap.size + os4.size, 4, none⟩ = some (.int .i64 0) := World.rangeAt.rcell RP7.out 4 rfl
        have fP7_0 : W7.frozen? ⟨W3.heap.size + os4.size, 0, none⟩ = false := World.there.tfroz TP7.out 0 (by omega)
        have fP7_1 : W7.frozen? ⟨W3.heap.size + os4.size, 1, none⟩ = false := World.there.tfroz TP7.out 1 (by omega)
        have fP7_2 : W7.frozen? ⟨W3.heap.size + os4.size, 2, none⟩ = false := World.there.tfroz TP7.out 2 (by omega)
        have fP7_3 : W7.frozen? ⟨W3.heap.size + os4.size, 3, none⟩ = false := World.there.tfroz TP7.out 3 (by omega)
        have fP7_4 : W7.frozen? ⟨W3.heap.size + os4.size, 4, none⟩ = false := World.there.tfroz TP7.out 4 (by omega)
        as_aux_lemma =>
         go_upto_region 11 with (first | (refine wpList_load_mid rfl 23 _ rfl (W4.heap.size) 0 rfl (caseL ⟨true, true, 3, true, true, false, false, 1, false, false, false, false, false, false, false, false, 0⟩) _ (by have hr := RN.out; rng) Try.underlying23 rfl Try.info_fc ?_; simp only [Act.put, List.setIfInBounds_toArray, List.set_cons_zero, List.set_cons_succ])| (go_at_call 13; refine (plK4 hP _).mono ?_; rintro e w1 ⟨rfl, os8, n8, rfl⟩))
         refine name_world (fun W8 hW8 => ?_)
         clear kP7_0 kP7_1 kP7_2 kP7_3 kP7_4 fP7_0 fP7_1 fP7_2 fP7_3 fP7_4
         have RP2' : Hid (W8.rangeAt (W1.heap.size + os2.size) 0 ([.int .i64 9, .int .i64 0, .int .i64 0, .int .i64 0, .int .i64 1])) := by
           show World.rangeAt _ _ _ ([.int .i64 9, .int .i64 0, .int .i64 0, .int .i64 0, .int .i64 1])
           rw [hW8]
           (have hr := RP2.out; rng)
         have TP2' : Hid (W8.there (W1.heap.size + os2.size) 0 5) := by
           have hr := TP2.out
           show World.there _ _ _ _
           rw [hW8]
           thr
         have bP2' := bP2
         have zP2' : LtD (W1.heap.size + os2.size) W8.heap.size := World.block_lt_of_cell? _ _ (RP2'.out 0 _ rfl)
         have RP7' : Hid (W8.rangeAt (W3.heap.size + os4.size) 0 ([.int .i64 7, .int .i64 0, .int .i64 0, .int .i64 0, .int .i64 0])) := by
           show World.rangeAt _ _ _ ([.int .i64 7, .int .i64 0, .int .i64 0, .int .i64 0, .int .i64 0])
           rw [hW8]
           (have hr := RP7.out; rng)
         have TP7' : Hid (W8.there (W3.heap.size + os4.size) 0 5) := by
           have hr := TP7.out
           show World.there _ _ _ _
           rw [hW8]
           thr
         have bP7' := bP7
         have zP7' : LtD (W3.heap.size + os4.size) W8.heap.size := World.block_lt_of_cell? _ _ (RP7'.out 0 _ rfl)
         have RN' : Hid (W8.rangeAt (W4.heap.size) 0 (caseL ⟨true, true, 3, true, true, false, false, 1, false, false, false, false, false, false, false, false, 0⟩)) := by
           show World.rangeAt _ _ _ (caseL ⟨true, true, 3, true, true, false, false, 1, false, false, false, false, false, false, false, false, 0⟩)
           rw [hW8]
           (have hr := RN.out; rng)
         have TN' : Hid (W8.there (W4.heap.size) 0 17) := by
           have hr := TN.out
           show World.there _ _ _ _
           rw [hW8]
           thr
         have bN' := bN
         have zN' : LtD (W4.heap.size) W8.heap.size := World.block_lt_of_cell? _ _ (RN'.out 0 _ rfl)
         have wz8 : w.heap.size ≤ W8.heap.size := by rw [hW8]; simp; try omega
         have HB8 : Hid (Below w.heap.size w W8) := by
           have hb := HB7.out
           show Below _ _ _
           rw [hW8]
           gro
         have ne_P2_P7' := ne_P2_P7
         have ne_P2_N' := ne_P2_N
         have ne_P7_P2' := ne_P7_P2
         have ne_P7_N' := ne_P7_N
         have ne_N_P2' := ne_N_P2
         have ne_N_P7' := ne_N_P7
         clear hW8 zP2 RP2 TP2 bP2 zP7 RP7 TP7 bP7 zN RN TN bN ne_P2_P7 ne_P2_N ne_P7_P2 ne_P7_N ne_N_P2 ne_N_P7 HB7 wz7
         have zP2 := zP2'
         clear zP2'
         have RP2 := RP2'
         clear RP2'
         have TP2 := TP2'
         clear TP2'
         have bP2 := bP2'
         clear bP2'
         have zP7 := zP7'
         clear zP7'
         have RP7 := RP7'
         clear RP7'
         have TP7 := TP7'
         clear TP7'
         have bP7 := bP7'
         clear bP7'
         have zN := zN'
         clear zN'
         have RN := RN'
         clear RN'
         have TN := TN'
         clear TN'
         have bN := bN'
         clear bN'
         have ne_P2_P7 := ne_P2_P7'
         clear ne_P2_P7'
         have ne_P2_N := ne_P2_N'
         clear ne_P2_N'
         have ne_P7_P2 := ne_P7_P2'
         clear ne_P7_P2'
         have ne_P7_N := ne_P7_N'
         clear ne_P7_N'
         have ne_N_P2 := ne_N_P2'
         clear ne_N_P2'
         have ne_N_P7 := ne_N_P7'
         clear ne_N_P7'
         have gN_15 : W8.cell? ⟨W4.heap.size, 15, none⟩ = some (.bool false) := World.rangeAt.rcell RN.out 15 rfl
         have hN_15 : W8.frozen? ⟨W4.heap.size, 15, none⟩ = false := World.there.tfroz TN.out 15 (by omega)
         as_aux_lemma =>
          go_upto_region 12 with (first | fail)
          refine name_world (fun W9 hW9 => ?_)
          have RP2' : Hid (W9.rangeAt (W1.heap.size + os2.size) 0 ([.int .i64 9, .int .i64 0, .int .i64 0, .int .i64 0, .int .i64 1])) := by
            show World.rangeAt _ _ _ ([.int .i64 9, .int .i64 0, .int .i64 0, .int .i64 0, .int .i64 1])
            rw [hW9]
            (have hr := RP2.out; rng)
          have TP2' : Hid (W9.there (W1.heap.size + os2.size) 0 5) := by
            have hr := TP2.out
            show World.there _ _ _ _
            rw [hW9]
            thr
          have bP2' := bP2
          have zP2' : LtD (W1.heap.size + os2.size) W9.heap.size := World.block_lt_of_cell? _ _ (RP2'.out 0 _ rfl)
          have RP7' : Hid (W9.rangeAt (W3.heap.size + os4.size) 0 ([.int .i64 7, .int .i64 0, .int .i64 0, .int .i64 0, .int .i64 0])) := by
            show World.rangeAt _ _ _ ([.int .i64 7, .int .i64 0, .int .i64 0, .int .i64 0, .int .i64 0])
            rw [hW9]
            (have hr := RP7.out; rng)
          have TP7' : Hid (W9.there (W3.heap.size + os4.size) 0 5) := by
            have hr := TP7.out
            show World.there _ _ _ _
            rw [hW9]
            thr
          have bP7' := bP7
          have zP7' : LtD (W3.heap.size + os4.size) W9.heap.size := World.block_lt_of_cell? _ _ (RP7'.out 0 _ rfl)
          have RN' : Hid (W9.rangeAt (W4.heap.size) 0 (caseL ⟨true, true, 3, true, true, false, false, 1, false, false, false, false, false, false, false, true, 0⟩)) := by
            show World.rangeAt _ _ _ (caseL ⟨true, true, 3, true, true, false, false, 1, false, false, false, false, false, false, false, true, 0⟩)
            rw [hW9]
            (have hr := RN.out; exact (R_set hr (by simp [caseL])))
          have TN' : Hid (W9.there (W4.heap.size) 0 17) := by
            have hr := TN.out
            show World.there _ _ _ _
            rw [hW9]
            thr
          have bN' := bN
          have zN' : LtD (W4.heap.size) W9.heap.size := World.block_lt_of_cell? _ _ (RN'.out 0 _ rfl)
          have wz9 : w.heap.size ≤ W9.heap.size := by rw [hW9]; simp; try omega
          have HB9 : Hid (Below w.heap.size w W9) := by
            have hb := HB8.out
            show Below _ _ _
            rw [hW9]
            gro
          have ne_P2_P7' := ne_P2_P7
          have ne_P2_N' := ne_P2_N
          have ne_P7_P2' := ne_P7_P2
          have ne_P7_N' := ne_P7_N
          have ne_N_P2' := ne_N_P2
          have ne_N_P7' := ne_N_P7
          clear hW9 gN_15 hN_15 zP2 RP2 TP2 bP2 zP7 RP7 TP7 bP7 zN RN TN bN ne_P2_P7 ne_P2_N ne_P7_P2 ne_P7_N ne_N_P2 ne_N_P7 HB8 wz8
          have zP2 := zP2'
          clear zP2'
          have RP2 := RP2'
          clear RP2'
          have TP2 := TP2'
          clear TP2'
          have bP2 := bP2'
          clear bP2'
          have zP7 := zP7'
          clear zP7'
          have RP7 := RP7'
          clear RP7'
          have TP7 := TP7'
          clear TP7'
          have bP7 := bP7'
          clear bP7'
          have zN := zN'
          clear zN'
          have RN := RN'
          clear RN'
          have TN := TN'
          clear TN'
          have bN := bN'
          clear bN'
          have ne_P2_P7 := ne_P2_P7'
          clear ne_P2_P7'
          have ne_P2_N := ne_P2_N'
          clear ne_P2_N'
          have ne_P7_P2 := ne_P7_P2'
          clear ne_P7_P2'
          have ne_P7_N := ne_P7_N'
          clear ne_P7_N'
          have ne_N_P2 := ne_N_P2'
          clear ne_N_P2'
          have ne_N_P7 := ne_N_P7'
          clear ne_N_P7'
          as_aux_lemma =>
           go_upto_region 13 with (first | (refine wpList_load_mid rfl 23 _ rfl (W4.heap.size) 0 rfl (caseL ⟨true, true, 3, true, true, false, false, 1, false, false, false, false, false, false, false, true, 0⟩) _ (by have hr := RN.out; rng) Try.underlying23 rfl Try.info_fc ?_; simp only [Act.put, List.setIfInBounds_toArray, List.set_cons_zero, List.set_cons_succ])| (go_at_call 13; refine (plK5 hP _).mono ?_; rintro e w1 ⟨rfl, os10, n10, rfl⟩))
           refine name_world (fun W10 hW10 => ?_)
           have RP2' : Hid (W10.rangeAt (W1.heap.size + os2.size) 0 ([.int .i64 9, .int .i64 0, .int .i64 0, .int .i64 0, .int .i64 1])) := by
             show World.rangeAt _ _ _ ([.int .i64 9, .int .i64 0, .int .i64 0, .int .i64 0, .int .i64 1])
             rw [hW10]
             (have hr := RP2.out; rng)
           have TP2' : Hid (W10.there (W1.heap.size + os2.size) 0 5) := by
             have hr := TP2.out
             show World.there _ _ _ _
             rw [hW10]
             thr
           have bP2' := bP2
           have zP2' : LtD (W1.heap.size + os2.size) W10.heap.size := World.block_lt_of_cell? _ _ (RP2'.out 0 _ rfl)
           have RP7' : Hid (W10.rangeAt (W3.heap.size + os4.size) 0 ([.int .i64 7, .int .i64 0, .int .i64 0, .int .i64 0, .int .i64 0])) := by
             show World.rangeAt _ _ _ ([.int .i64 7, .int .i64 0, .int .i64 0, .int .i64 0, .int .i64 0])
             rw [hW10]
             (have hr := RP7.out; rng)
           have TP7' : Hid (W10.there (W3.heap.size + os4.size) 0 5) := by
             have hr := TP7.out
             show World.there _ _ _ _
             rw [hW10]
             thr
           have bP7' := bP7
           have zP7' : LtD (W3.heap.size + os4.size) W10.heap.size := World.block_lt_of_cell? _ _ (RP7'.out 0 _ rfl)
           have RPT' : Hid (W10.rangeAt (W9.heap.size + os10.size) 0 ([.int .i64 2, .int .i64 0, .int .i64 5, .int .i64 0, .int .i64 0])) := by show World.rangeAt _ _ _ _; rw [hW10]; rng
           have TPT' : Hid (W10.there (W9.heap.size + os10.size) 0 5) := by show World.there _ _ _ _; rw [hW10]; thr
           have bPT' : w.heap.size ≤ W9.heap.size + os10.size := by have := wz9; omega
           have zPT' : LtD (W9.heap.size + os10.size) W10.heap.size := World.block_lt_of_cell? _ _ (RPT'.out 0 _ rfl)
           have wz10 : w.heap.size ≤ W10.heap.size := by rw [hW10]; simp; try omega
           have HB10 : Hid (Below w.heap.size w W10) := by
             have hb := HB9.out
             show Below _ _ _
             rw [hW10]
             gro
           have ne_P2_P7' := ne_P2_P7
           have ne_P2_PT' : W1.heap.size + os2.size ≠ W9.heap.size + os10.size := by have h_ := zP2; simp only [LtD] at h_; omega
           have ne_P7_P2' := ne_P7_P2
           have ne_P7_PT' : W3.heap.size + os4.size ≠ W9.heap.size + os10.size := by have h_ := zP7; simp only [LtD] at h_; omega
           have ne_PT_P2' : W9.heap.size + os10.size ≠ W1.heap.size + os2.size := by have h_ := zP2; simp only [LtD] at h_; omega
           have ne_PT_P7' : W9.heap.size + os10.size ≠ W3.heap.size + os4.size := by have h_ := zP7; simp only [LtD] at h_; omega
           clear hW10 zP2 RP2 TP2 bP2 zP7 RP7 TP7 bP7 zN RN TN bN ne_P2_P7 ne_P2_N ne_P7_P2 ne_P7_N ne_N_P2 ne_N_P7 HB9 wz9
           have zP2 := zP2'
           clear zP2'
           have RP2 := RP2'
           clear RP2'
           have TP2 := TP2'
           clear TP2'
           have bP2 := bP2'
           clear bP2'
           have zP7 := zP7'
           clear zP7'
           have RP7 := RP7'
           clear RP7'
           have TP7 := TP7'
           clear TP7'
           have bP7 := bP7'
           clear bP7'
           have zPT := zPT'
           clear zPT'
           have RPT := RPT'
           clear RPT'
           have TPT := TPT'
           clear TPT'
           have bPT := bPT'
           clear bPT'
           have ne_P2_P7 := ne_P2_P7'
           clear ne_P2_P7'
           have ne_P2_PT := ne_P2_PT'
           clear ne_P2_PT'
           have ne_P7_P2 := ne_P7_P2'
           clear ne_P7_P2'
           have ne_P7_PT := ne_P7_PT'
           clear ne_P7_PT'
           have ne_PT_P2 := ne_PT_P2'
           clear ne_PT_P2'
           have ne_PT_P7 := ne_PT_P7'
           clear ne_PT_P7'
           have kP2_0 : W10.cell? ⟨W1.heap.size + os2.size, 0, none⟩ = some (.int .i64 9) := World.rangeAt.rcell RP2.out 0 rfl
           have kP2_1 : W10.cell? ⟨W1.heap.size + os2.size, 1, none⟩ = some (.int .i64 0) := World.rangeAt.rcell RP2.out 1 rfl
           have kP2_2 : W10.cell? ⟨W1.heap.size + os2.size, 2, none⟩ = some (.int .i64 0) := World.rangeAt.rcell RP2.out 2 rfl
           have kP2_3 : W10.cell? ⟨W1.heap.size + os2.size, 3, none⟩ = some (.int .i64 0) := World.rangeAt.rcell RP2.out 3 rfl
           have kP2_4 : W10.cell? ⟨W1.heap.size + os2.size, 4, none⟩ = some (.int .i64 1) := World.rangeAt.rcell RP2.out 4 rfl
           have kPT_0 : W10.cell? ⟨W9.heap.size + os10.size, 0, none⟩ = some (.int .i64 2) := World.rangeAt.rcell RPT.out 0 rfl
           have kPT_1 : W10.cell? ⟨W9.heap.size + os10.size, 1, none⟩ = some (.int .i64 0) := World.rangeAt.rcell RPT.out 1 rfl
           have kPT_2 : W10.cell? ⟨W9.heap.size + os10.size, 2, none⟩ = some (.int .i64 5) := World.rangeAt.rcell RPT.out 2 rfl
           have kPT_3 : W10.cell? ⟨W9.heap.size + os10.size, 3, none⟩ = some (.int .i64 0) := World.rangeAt.rcell RPT.out 3 rfl
           have kPT_4 : W10.cell? ⟨W9.heap.size + os10.size, 4, none⟩ = some (.int .i64 0) := World.rangeAt.rcell RPT.out 4 rfl
           have kP7_0 : W10.cell? ⟨W3.heap.size + os4.size, 0, none⟩ = some (.int .i64 7) := World.rangeAt.rcell RP7.out 0 rfl
           have kP7_1 : W10.cell? ⟨W3.heap.size + os4.size, 1, none⟩ = some (.int .i64 0) := World.rangeAt.rcell RP7.out 1 rfl
           have kP7_2 : W10.cell? ⟨W3.heap.size + os4.size, 2, none⟩ = some (.int .i64 0) := World.rangeAt.rcell RP7.out 2 rfl
           have kP7_3 : W10.cell? ⟨W3.heap.size + os4.size, 3, none⟩ = some (.int .i64 0) := World.rangeAt.rcell RP7.out 3 rfl
           have kP7_4 : W10.cell? ⟨W3.heap.size + os4.size, 4, none⟩ = some (.int .i64 0) := World.rangeAt.rcell RP7.out 4 rfl
           as_aux_lemma =>
            go_upto_region 16 with (first | fail)
            refine name_world (fun W11 hW11 => ?_)
            clear kP2_0 kP2_1 kP2_2 kP2_3 kP2_4 kPT_0 kPT_1 kPT_2 kPT_3 kPT_4 kP7_0 kP7_1 kP7_2 kP7_3 kP7_4
            have RP2' : Hid (W11.rangeAt (W1.heap.size + os2.size) 0 ([.int .i64 9, .int .i64 0, .int .i64 0, .int .i64 0, .int .i64 1])) := by
              show World.rangeAt _ _ _ ([.int .i64 9, .int .i64 0, .int .i64 0, .int .i64 0, .int .i64 1])
              rw [hW11]
              (have hr := RP2.out; rng)
            have TP2' : Hid (W11.there (W1.heap.size + os2.size) 0 5) := by
              have hr := TP2.out
              show World.there _ _ _ _
              rw [hW11]
              thr
            have bP2' := bP2
            have zP2' : LtD (W1.heap.size + os2.size) W11.heap.size := World.block_lt_of_cell? _ _ (RP2'.out 0 _ rfl)
            have RP7' : Hid (W11.rangeAt (W3.heap.size + os4.size) 0 ([.int .i64 7, .int .i64 0, .int .i64 0, .int .i64 0, .int .i64 0])) := by
              show World.rangeAt _ _ _ ([.int .i64 7, .int .i64 0, .int .i64 0, .int .i64 0, .int .i64 0])
              rw [hW11]
              (have hr := RP7.out; rng)
            have TP7' : Hid (W11.there (W3.heap.size + os4.size) 0 5) := by
              have hr := TP7.out
              show World.there _ _ _ _
              rw [hW11]
              thr
            have bP7' := bP7
            have zP7' : LtD (W3.heap.size + os4.size) W11.heap.size := World.block_lt_of_cell? _ _ (RP7'.out 0 _ rfl)
            have RM' : Hid (W11.rangeAt (W10.heap.size) 0 (caseL ⟨false, true, 1, false, true, true, false, 0, false, false, false, false, false, false, false, false, 0⟩)) := by show World.rangeAt _ _ _ _; rw [hW11]; rng
            have TM' : Hid (W11.there (W10.heap.size) 0 17) := by show World.there _ _ _ _; rw [hW11]; thr
            have bM' : w.heap.size ≤ W10.heap.size := by have := wz10; omega
            have zM' : LtD (W10.heap.size) W11.heap.size := World.block_lt_of_cell? _ _ (RM'.out 0 _ rfl)
            have wz11 : w.heap.size ≤ W11.heap.size := by rw [hW11]; simp; try omega
            have HB11 : Hid (Below w.heap.size w W11) := by
              have hb := HB10.out
              show Below _ _ _
              rw [hW11]
              gro
            have ne_P2_P7' := ne_P2_P7
            have ne_P2_M' : W1.heap.size + os2.size ≠ W10.heap.size := by have h_ := zP2; simp only [LtD] at h_; omega
            have ne_P7_P2' := ne_P7_P2
            have ne_P7_M' : W3.heap.size + os4.size ≠ W10.heap.size := by have h_ := zP7; simp only [LtD] at h_; omega
            have ne_M_P2' : W10.heap.size ≠ W1.heap.size + os2.size := by have h_ := zP2; simp only [LtD] at h_; omega
            have ne_M_P7' : W10.heap.size ≠ W3.heap.size + os4.size := by have h_ := zP7; simp only [LtD] at h_; omega
            clear hW11 zP2 RP2 TP2 bP2 zP7 RP7 TP7 bP7 zPT RPT TPT bPT ne_P2_P7 ne_P2_PT ne_P7_P2 ne_P7_PT ne_PT_P2 ne_PT_P7 HB10 wz10
            have zP2 := zP2'
            clear zP2'
            have RP2 := RP2'
            clear RP2'
            have TP2 := TP2'
            clear TP2'
            have bP2 := bP2'
            clear bP2'
            have zP7 := zP7'
            clear zP7'
            have RP7 := RP7'
            clear RP7'
            have TP7 := TP7'
            clear TP7'
            have bP7 := bP7'
            clear bP7'
            have zM := zM'
            clear zM'
            have RM := RM'
            clear RM'
            have TM := TM'
            clear TM'
            have bM := bM'
            clear bM'
            have ne_P2_P7 := ne_P2_P7'
            clear ne_P2_P7'
            have ne_P2_M := ne_P2_M'
            clear ne_P2_M'
            have ne_P7_P2 := ne_P7_P2'
            clear ne_P7_P2'
            have ne_P7_M := ne_P7_M'
            clear ne_P7_M'
            have ne_M_P2 := ne_M_P2'
            clear ne_M_P2'
            have ne_M_P7 := ne_M_P7'
            clear ne_M_P7'
            have kP2_0 : W11.cell? ⟨W1.heap.size + os2.size, 0, none⟩ = some (.int .i64 9) := World.rangeAt.rcell RP2.out 0 rfl
            have kP2_1 : W11.cell? ⟨W1.heap.size + os2.size, 1, none⟩ = some (.int .i64 0) := World.rangeAt.rcell RP2.out 1 rfl
            have kP2_2 : W11.cell? ⟨W1.heap.size + os2.size, 2, none⟩ = some (.int .i64 0) := World.rangeAt.rcell RP2.out 2 rfl
            have kP2_3 : W11.cell? ⟨W1.heap.size + os2.size, 3, none⟩ = some (.int .i64 0) := World.rangeAt.rcell RP2.out 3 rfl
            have kP2_4 : W11.cell? ⟨W1.heap.size + os2.size, 4, none⟩ = some (.int .i64 1) := World.rangeAt.rcell RP2.out 4 rfl
            have fP2_0 : W11.frozen? ⟨W1.heap.size + os2.size, 0, none⟩ = false := World.there.tfroz TP2.out 0 (by omega)
            have fP2_1 : W11.frozen? ⟨W1.heap.size + os2.size, 1, none⟩ = false := World.there.tfroz TP2.out 1 (by omega)
            have fP2_2 : W11.frozen? ⟨W1.heap.size + os2.size, 2, none⟩ = false := World.there.tfroz TP2.out 2 (by omega)
            have fP2_3 : W11.frozen? ⟨W1.heap.size + os2.size, 3, none⟩ = false := World.there.tfroz TP2.out 3 (by omega)
            have fP2_4 : W11.frozen? ⟨W1.heap.size + os2.size, 4, none⟩ = false := World.there.tfroz TP2.out 4 (by omega)
            as_aux_lemma =>
             go_upto_region 17 with (first | (refine wpList_load_mid rfl 23 _ rfl (W10.heap.size) 0 rfl (caseL ⟨false, true, 1, false, true, true, false, 0, false, false, false, false, false, false, false, false, 0⟩) _ (by have hr := RM.out; rng) Try.underlying23 rfl Try.info_fc ?_; simp only [Act.put, List.setIfInBounds_toArray, List.set_cons_zero, List.set_cons_succ])| (go_at_call 13; refine (plK6 hP _).mono ?_; rintro e w1 ⟨rfl, os12, n12, rfl⟩))
             refine name_world (fun W12 hW12 => ?_)
             clear kP2_0 kP2_1 kP2_2 kP2_3 kP2_4 fP2_0 fP2_1 fP2_2 fP2_3 fP2_4
             have RP2' : Hid (W12.rangeAt (W1.heap.size + os2.size) 0 ([.int .i64 1, .int .i64 14, .int .i64 0, .int .i64 0, .int .i64 0])) := by
               show World.rangeAt _ _ _ ([.int .i64 1, .int .i64 14, .int .i64 0, .int .i64 0, .int .i64 0])
               rw [hW12]
               (have hr := RP2.out; rng)
             have TP2' : Hid (W12.there (W1.heap.size + os2.size) 0 5) := by
               have hr := TP2.out
               show World.there _ _ _ _
               rw [hW12]
               thr
             have bP2' := bP2
             have zP2' : LtD (W1.heap.size + os2.size) W12.heap.size := World.block_lt_of_cell? _ _ (RP2'.out 0 _ rfl)
             have RP7' : Hid (W12.rangeAt (W3.heap.size + os4.size) 0 ([.int .i64 7, .int .i64 0, .int .i64 0, .int .i64 0, .int .i64 0])) := by
               show World.rangeAt _ _ _ ([.int .i64 7, .int .i64 0, .int .i64 0, .int .i64 0, .int .i64 0])
               rw [hW12]
               (have hr := RP7.out; rng)
             have TP7' : Hid (W12.there (W3.heap.size + os4.size) 0 5) := by
               have hr := TP7.out
               show World.there _ _ _ _
               rw [hW12]
               thr
             have bP7' := bP7
             have zP7' : LtD (W3.heap.size + os4.size) W12.heap.size := World.block_lt_of_cell? _ _ (RP7'.out 0 _ rfl)
             have RM' : Hid (W12.rangeAt (W10.heap.size) 0 (caseL ⟨false, true, 1, false, true, true, false, 0, false, false, false, false, false, false, false, false, 0⟩)) := by
               show World.rangeAt _ _ _ (caseL ⟨false, true, 1, false, true, true, false, 0, false, false, false, false, false, false, false, false, 0⟩)
               rw [hW12]
               (have hr := RM.out; rng)
             have TM' : Hid (W12.there (W10.heap.size) 0 17) := by
               have hr := TM.out
               show World.there _ _ _ _
               rw [hW12]
               thr
             have bM' := bM
             have zM' : LtD (W10.heap.size) W12.heap.size := World.block_lt_of_cell? _ _ (RM'.out 0 _ rfl)
             have wz12 : w.heap.size ≤ W12.heap.size := by rw [hW12]; simp; try omega
             have HB12 : Hid (Below w.heap.size w W12) := by
               have hb := HB11.out
               show Below _ _ _
               rw [hW12]
               gro
             have ne_P2_P7' := ne_P2_P7
             have ne_P2_M' := ne_P2_M
             have ne_P7_P2' := ne_P7_P2
             have ne_P7_M' := ne_P7_M
             have ne_M_P2' := ne_M_P2
             have ne_M_P7' := ne_M_P7
             clear hW12 zP2 RP2 TP2 bP2 zP7 RP7 TP7 bP7 zM RM TM bM ne_P2_P7 ne_P2_M ne_P7_P2 ne_P7_M ne_M_P2 ne_M_P7 HB11 wz11
             have zP2 := zP2'
             clear zP2'
             have RP2 := RP2'
             clear RP2'
             have TP2 := TP2'
             clear TP2'
             have bP2 := bP2'
             clear bP2'
             have zP7 := zP7'
             clear zP7'
             have RP7 := RP7'
             clear RP7'
             have TP7 := TP7'
             clear TP7'
             have bP7 := bP7'
             clear bP7'
             have zM := zM'
             clear zM'
             have RM := RM'
             clear RM'
             have TM := TM'
             clear TM'
             have bM := bM'
             clear bM'
             have ne_P2_P7 := ne_P2_P7'
             clear ne_P2_P7'
             have ne_P2_M := ne_P2_M'
             clear ne_P2_M'
             have ne_P7_P2 := ne_P7_P2'
             clear ne_P7_P2'
             have ne_P7_M := ne_P7_M'
             clear ne_P7_M'
             have ne_M_P2 := ne_M_P2'
             clear ne_M_P2'
             have ne_M_P7 := ne_M_P7'
             clear ne_M_P7'
             have gM_7 : W12.cell? ⟨W10.heap.size, 7, none⟩ = some (.int .i64 0) := World.rangeAt.rcell RM.out 7 rfl
             have hM_7 : W12.frozen? ⟨W10.heap.size, 7, none⟩ = false := World.there.tfroz TM.out 7 (by omega)
             have gM_10 : W12.cell? ⟨W10.heap.size, 10, none⟩ = some (.bool false) := World.rangeAt.rcell RM.out 10 rfl
             have hM_10 : W12.frozen? ⟨W10.heap.size, 10, none⟩ = false := World.there.tfroz TM.out 10 (by omega)
             as_aux_lemma =>
              go_upto_region 18 with (first | fail)
              refine name_world (fun W13 hW13 => ?_)
              have RP2' : Hid (W13.rangeAt (W1.heap.size + os2.size) 0 ([.int .i64 1, .int .i64 14, .int .i64 0, .int .i64 0, .int .i64 0])) := by
                show World.rangeAt _ _ _ ([.int .i64 1, .int .i64 14, .int .i64 0, .int .i64 0, .int .i64 0])
                rw [hW13]
                (have hr := RP2.out; rng)
              have TP2' : Hid (W13.there (W1.heap.size + os2.size) 0 5) := by
                have hr := TP2.out
                show World.there _ _ _ _
                rw [hW13]
                thr
              have bP2' := bP2
              have zP2' : LtD (W1.heap.size + os2.size) W13.heap.size := World.block_lt_of_cell? _ _ (RP2'.out 0 _ rfl)
              have RP7' : Hid (W13.rangeAt (W3.heap.size + os4.size) 0 ([.int .i64 7, .int .i64 0, .int .i64 0, .int .i64 0, .int .i64 0])) := by
                show World.rangeAt _ _ _ ([.int .i64 7, .int .i64 0, .int .i64 0, .int .i64 0, .int .i64 0])
                rw [hW13]
                (have hr := RP7.out; rng)
              have TP7' : Hid (W13.there (W3.heap.size + os4.size) 0 5) := by
                have hr := TP7.out
                show World.there _ _ _ _
                rw [hW13]
                thr
              have bP7' := bP7
              have zP7' : LtD (W3.heap.size + os4.size) W13.heap.size := World.block_lt_of_cell? _ _ (RP7'.out 0 _ rfl)
              have RM' : Hid (W13.rangeAt (W10.heap.size) 0 (caseL ⟨false, true, 1, false, true, true, false, 1, false, false, true, false, false, false, false, false, 0⟩)) := by
                show World.rangeAt _ _ _ (caseL ⟨false, true, 1, false, true, true, false, 1, false, false, true, false, false, false, false, false, 0⟩)
                rw [hW13]
                (have hr := RM.out; exact (R_set (R_set hr (by simp [caseL])) (by simp [caseL])))
              have TM' : Hid (W13.there (W10.heap.size) 0 17) := by
                have hr := TM.out
                show World.there _ _ _ _
                rw [hW13]
                thr
              have bM' := bM
              have zM' : LtD (W10.heap.size) W13.heap.size := World.block_lt_of_cell? _ _ (RM'.out 0 _ rfl)
              have wz13 : w.heap.size ≤ W13.heap.size := by rw [hW13]; simp; try omega
              have HB13 : Hid (Below w.heap.size w W13) := by
                have hb := HB12.out
                show Below _ _ _
                rw [hW13]
                gro
              have ne_P2_P7' := ne_P2_P7
              have ne_P2_M' := ne_P2_M
              have ne_P7_P2' := ne_P7_P2
              have ne_P7_M' := ne_P7_M
              have ne_M_P2' := ne_M_P2
              have ne_M_P7' := ne_M_P7
              clear hW13 gM_7 gM_10 hM_7 hM_10 zP2 RP2 TP2 bP2 zP7 RP7 TP7 bP7 zM RM TM bM ne_P2_P7 ne_P2_M ne_P7_P2 ne_P7_M ne_M_P2 ne_M_P7 HB12 wz12
              have zP2 := zP2'
              clear zP2'
              have RP2 := RP2'
              clear RP2'
              have TP2 := TP2'
              clear TP2'
              have bP2 := bP2'
              clear bP2'
              have zP7 := zP7'
              clear zP7'
              have RP7 := RP7'
              clear RP7'
              have TP7 := TP7'
              clear TP7'
              have bP7 := bP7'
              clear bP7'
              have zM := zM'
              clear zM'
              have RM := RM'
              clear RM'
              have TM := TM'
              clear TM'
              have bM := bM'
              clear bM'
              have ne_P2_P7 := ne_P2_P7'
              clear ne_P2_P7'
              have ne_P2_M := ne_P2_M'
              clear ne_P2_M'
              have ne_P7_P2 := ne_P7_P2'
              clear ne_P7_P2'
              have ne_P7_M := ne_P7_M'
              clear ne_P7_M'
              have ne_M_P2 := ne_M_P2'
              clear ne_M_P2'
              have ne_M_P7 := ne_M_P7'
              clear ne_M_P7'
              have kP7_0 : W13.cell? ⟨W3.heap.size + os4.size, 0, none⟩ = some (.int .i64 7) := World.rangeAt.rcell RP7.out 0 rfl
              have kP7_1 : W13.cell? ⟨W3.heap.size + os4.size, 1, none⟩ = some (.int .i64 0) := World.rangeAt.rcell RP7.out 1 rfl
              have kP7_2 : W13.cell? ⟨W3.heap.size + os4.size, 2, none⟩ = some (.int .i64 0) := World.rangeAt.rcell RP7.out 2 rfl
              have kP7_3 : W13.cell? ⟨W3.heap.size + os4.size, 3, none⟩ = some (.int .i64 0) := World.rangeAt.rcell RP7.out 3 rfl
              have kP7_4 : W13.cell? ⟨W3.heap.size + os4.size, 4, none⟩ = some (.int .i64 0) := World.rangeAt.rcell RP7.out 4 rfl
              have fP7_0 : W13.frozen? ⟨W3.heap.size + os4.size, 0, none⟩ = false := World.there.tfroz TP7.out 0 (by omega)
              have fP7_1 : W13.frozen? ⟨W3.heap.size + os4.size, 1, none⟩ = false := World.there.tfroz TP7.out 1 (by omega)
              have fP7_2 : W13.frozen? ⟨W3.heap.size + os4.size, 2, none⟩ = false := World.there.tfroz TP7.out 2 (by omega)
              have fP7_3 : W13.frozen? ⟨W3.heap.size + os4.size, 3, none⟩ = false := World.there.tfroz TP7.out 3 (by omega)
              have fP7_4 : W13.frozen? ⟨W3.heap.size + os4.size, 4, none⟩ = false := World.there.tfroz TP7.out 4 (by omega)
              as_aux_lemma =>
               go_upto_region 19 with (first | (refine wpList_load_mid rfl 23 _ rfl (W10.heap.size) 0 rfl (caseL ⟨false, true, 1, false, true, true, false, 1, false, false, true, false, false, false, false, false, 0⟩) _ (by have hr := RM.out; rng) Try.underlying23 rfl Try.info_fc ?_; simp only [Act.put, List.setIfInBounds_toArray, List.set_cons_zero, List.set_cons_succ])| (go_at_call 13; refine (plK7 hP _).mono ?_; rintro e w1 ⟨rfl, os14, n14, rfl⟩))
               refine name_world (fun W14 hW14 => ?_)
               clear kP7_0 kP7_1 kP7_2 kP7_3 kP7_4 fP7_0 fP7_1 fP7_2 fP7_3 fP7_4
               have RP2' : Hid (W14.rangeAt (W1.heap.size + os2.size) 0 ([.int .i64 1, .int .i64 14, .int .i64 0, .int .i64 0, .int .i64 0])) := by
                 show World.rangeAt _ _ _ ([.int .i64 1, .int .i64 14, .int .i64 0, .int .i64 0, .int .i64 0])
                 rw [hW14]
                 (have hr := RP2.out; rng)
               have TP2' : Hid (W14.there (W1.heap.size + os2.size) 0 5) := by
                 have hr := TP2.out
                 show World.there _ _ _ _
                 rw [hW14]
                 thr
               have bP2' := bP2
               have zP2' : LtD (W1.heap.size + os2.size) W14.heap.size := World.block_lt_of_cell? _ _ (RP2'.out 0 _ rfl)
               have RP7' : Hid (W14.rangeAt (W3.heap.size + os4.size) 0 ([.int .i64 0, .int .i64 0, .int .i64 0, .int .i64 0, .int .i64 0])) := by
                 show World.rangeAt _ _ _ ([.int .i64 0, .int .i64 0, .int .i64 0, .int .i64 0, .int .i64 0])
                 rw [hW14]
                 (have hr := RP7.out; rng)
               have TP7' : Hid (W14.there (W3.heap.size + os4.size) 0 5) := by
                 have hr := TP7.out
                 show World.there _ _ _ _
                 rw [hW14]
                 thr
               have bP7' := bP7
               have zP7' : LtD (W3.heap.size + os4.size) W14.heap.size := World.block_lt_of_cell? _ _ (RP7'.out 0 _ rfl)
               have wz14 : w.heap.size ≤ W14.heap.size := by rw [hW14]; simp; try omega
               have HB14 : Hid (Below w.heap.size w W14) := by
                 have hb := HB13.out
                 show Below _ _ _
                 rw [hW14]
                 gro
               have ne_P2_P7' := ne_P2_P7
               have ne_P7_P2' := ne_P7_P2
               clear hW14 zP2 RP2 TP2 bP2 zP7 RP7 TP7 bP7 zM RM TM bM ne_P2_P7 ne_P2_M ne_P7_P2 ne_P7_M ne_M_P2 ne_M_P7 HB13 wz13
               have zP2 := zP2'
               clear zP2'
               have RP2 := RP2'
               clear RP2'
               have TP2 := TP2'
               clear TP2'
               have bP2 := bP2'
               clear bP2'
               have zP7 := zP7'
               clear zP7'
               have RP7 := RP7'
               clear RP7'
               have TP7 := TP7'
               clear TP7'
               have bP7 := bP7'
               clear bP7'
               have ne_P2_P7 := ne_P2_P7'
               clear ne_P2_P7'
               have ne_P7_P2 := ne_P7_P2'
               clear ne_P7_P2'
               as_aux_lemma =>
                go_upto_region 20 with (first | (go_at_call 13; refine (plK8 hP _).mono ?_; rintro e w1 ⟨rfl, os15, n15, rfl⟩))
                refine name_world (fun W15 hW15 => ?_)
                have RP2' : Hid (W15.rangeAt (W1.heap.size + os2.size) 0 ([.int .i64 1, .int .i64 14, .int .i64 0, .int .i64 0, .int .i64 0])) := by
                  show World.rangeAt _ _ _ ([.int .i64 1, .int .i64 14, .int .i64 0, .int .i64 0, .int .i64 0])
                  rw [hW15]
                  (have hr := RP2.out; rng)
                have TP2' : Hid (W15.there (W1.heap.size + os2.size) 0 5) := by
                  have hr := TP2.out
                  show World.there _ _ _ _
                  rw [hW15]
                  thr
                have bP2' := bP2
                have zP2' : LtD (W1.heap.size + os2.size) W15.heap.size := World.block_lt_of_cell? _ _ (RP2'.out 0 _ rfl)
                have RP7' : Hid (W15.rangeAt (W3.heap.size + os4.size) 0 ([.int .i64 0, .int .i64 0, .int .i64 0, .int .i64 0, .int .i64 0])) := by
                  show World.rangeAt _ _ _ ([.int .i64 0, .int .i64 0, .int .i64 0, .int .i64 0, .int .i64 0])
                  rw [hW15]
                  (have hr := RP7.out; rng)
                have TP7' : Hid (W15.there (W3.heap.size + os4.size) 0 5) := by
                  have hr := TP7.out
                  show World.there _ _ _ _
                  rw [hW15]
                  thr
                have bP7' := bP7
                have zP7' : LtD (W3.heap.size + os4.size) W15.heap.size := World.block_lt_of_cell? _ _ (RP7'.out 0 _ rfl)
                have wz15 : w.heap.size ≤ W15.heap.size := by rw [hW15]; simp; try omega
                have HB15 : Hid (Below w.heap.size w W15) := by
                  have hb := HB14.out
                  show Below _ _ _
                  rw [hW15]
                  gro
                have ne_P2_P7' := ne_P2_P7
                have ne_P7_P2' := ne_P7_P2
                clear hW15 zP2 RP2 TP2 bP2 zP7 RP7 TP7 bP7 ne_P2_P7 ne_P7_P2 HB14 wz14
                have zP2 := zP2'
                clear zP2'
                have RP2 := RP2'
                clear RP2'
                have TP2 := TP2'
                clear TP2'
                have bP2 := bP2'
                clear bP2'
                have zP7 := zP7'
                clear zP7'
                have RP7 := RP7'
                clear RP7'
                have TP7 := TP7'
                clear TP7'
                have bP7 := bP7'
                clear bP7'
                have ne_P2_P7 := ne_P2_P7'
                clear ne_P2_P7'
                have ne_P7_P2 := ne_P7_P2'
                clear ne_P7_P2'
                have kP2_0 : W15.cell? ⟨W1.heap.size + os2.size, 0, none⟩ = some (.int .i64 1) := World.rangeAt.rcell RP2.out 0 rfl
                have kP2_1 : W15.cell? ⟨W1.heap.size + os2.size, 1, none⟩ = some (.int .i64 14) := World.rangeAt.rcell RP2.out 1 rfl
                have kP2_2 : W15.cell? ⟨W1.heap.size + os2.size, 2, none⟩ = some (.int .i64 0) := World.rangeAt.rcell RP2.out 2 rfl
                have kP2_3 : W15.cell? ⟨W1.heap.size + os2.size, 3, none⟩ = some (.int .i64 0) := World.rangeAt.rcell RP2.out 3 rfl
                have kP2_4 : W15.cell? ⟨W1.heap.size + os2.size, 4, none⟩ = some (.int .i64 0) := World.rangeAt.rcell RP2.out 4 rfl
                have kP7_0 : W15.cell? ⟨W3.heap.size + os4.size, 0, none⟩ = some (.int .i64 0) := World.rangeAt.rcell RP7.out 0 rfl
                have kP7_1 : W15.cell? ⟨W3.heap.size + os4.size, 1, none⟩ = some (.int .i64 0) := World.rangeAt.rcell RP7.out 1 rfl
                have kP7_2 : W15.cell? ⟨W3.heap.size + os4.size, 2, none⟩ = some (.int .i64 0) := World.rangeAt.rcell RP7.out 2 rfl
                have kP7_3 : W15.cell? ⟨W3.heap.size + os4.size, 3, none⟩ = some (.int .i64 0) := World.rangeAt.rcell RP7.out 3 rfl
                have kP7_4 : W15.cell? ⟨W3.heap.size + os4.size, 4, none⟩ = some (.int .i64 0) := World.rangeAt.rcell RP7.out 4 rfl
                as_aux_lemma =>
                 go_wp2
                 all_goals go_ret
                 all_goals refine ⟨rfl, Ext.of_below ?_⟩
                 all_goals (have hb := HB15.out; gro)

end Go.Proofs.Ytcbadcbahmclpaa
