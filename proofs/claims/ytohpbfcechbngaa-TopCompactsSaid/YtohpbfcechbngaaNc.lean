/- slices.Insert at a row of regions: there is no room. -/
import Derived.Test.YtohpbfcechbngaaNb
set_option linter.unusedSimpArgs false
set_option linter.unusedVariables false
namespace Go.Proofs.Ytohpbfcechbngaa
open Go.RowKit Go.Lib

theorem alloc_atI (w : World) (o : Obj) : (w.alloc o).heap[w.heap.size]? = some o := by
  show (w.heap.push o)[w.heap.size]? = some o
  simp
theorem zeroCells_lenI (z : List Value) (n : Nat) : (Builtin.zeroCells z.toArray n).size = n * z.length := by
  unfold Builtin.zeroCells
  simp [Nat.mul_comm]
set_option maxHeartbeats 4000000 in
set_option maxRecDepth 100000 in
theorem ins_growI (w : World) (b n c i vb vc : Nat) (cs sp vs vsp : List Value) (T' : TypeId) (hi : i < n) (hnc : n ≤ c) (hroom : c < n + 1) (hn : n ≤ 90000) (hcl : cs.length = n * 1) (hvl : vs.length = 1)
    (hg : w.heap[b]? = some (.cells (cs ++ sp).toArray 3 (0, 0))) (hv : w.heap[vb]? = some (.cells (vs ++ vsp).toArray T' (0, 0))) (h1c : ∀ v ∈ cs, v.oneCell' = true) (h1v : ∀ v ∈ vs, v.oneCell' = true) :
    Calls Try.prog 18 #[.slice (some ⟨b, 0, none⟩) n c, .int .i64 i, .slice (some ⟨vb, 0, none⟩) 1 vc] w fun e w' =>
      ∃ G rest, e = .returned (.slice (some ⟨w.heap.size, 0, none⟩) (n + 1) G) ∧ n + 1 ≤ G ∧ G ≤ maxLen ∧ w'.heap[w.heap.size]? = some (.cells (cs.take (i * 1) ++ (vs ++ (cs.drop (i * 1) ++ rest))).toArray 3 (0, 0)) ∧ rest.length = (G - (n + 1)) * 1 ∧ w.grownBy w' none := by
  obtain ⟨i0, z, hi0, hz0, hzs, hzb, hzl⟩ : ∃ (i0 : TypeInfo) (z : Value), Try.prog.info? 3 = some i0 ∧ i0.zero = some z ∧ i0.size = 1 ∧ i0.bytes = 8 ∧ z.cells.size = 1 := ⟨_, _, rfl, rfl, rfl, rfl, rfl⟩
  have hz2 : ¬ ((i : Int) = (n : Int)) := by omega
  have hb1 : (0 : Int) ≤ (i : Int) + 1 := by omega
  have hin : i ≤ n := by omega
  have hin2 : (i : Int) ≤ (n : Int) := by omega
  have htn : ((i : Int) + 1).toNat = i + 1 := by omega
  have hci : ¬ (c = i) := by omega
  have hb5 : (c : Int) < (n : Int) + 1 := by omega
  have hkk : (n : Int) + 1 - (i : Int) = ((n + 1 - i : Nat) : Int) := by omega
  have hik : i + (n + 1 - i) = n + 1 := by omega
  have hold : (Builtin.firstCells i0.size i (.slice (some ⟨b, 0, none⟩) i c)).run Try.prog w.drew = .ok (cs.take (i * 1)).toArray w.drew := by
    rw [hzs]
    exact run_firstCells_some w.drew 1 i ⟨b, 0, none⟩ i c (cs.take (i * 1)) (by rw [List.length_take, hcl]; exact Nat.min_eq_left (Nat.mul_le_mul_right _ hin)) (fun j v hj => by
      rw [Addr.add_lit, Nat.zero_add, show w.drew.cell? ⟨b, j, none⟩ = w.cell? ⟨b, j, none⟩ from rfl, cell_rowI hg]
      have hj2 : cs[j]? = some v := by
        rw [List.getElem?_take] at hj
        split at hj
        · exact hj
        · cases hj
      rw [List.getElem?_append_left (List.getElem?_eq_some_iff.1 hj2).1, hj2])
  obtain ⟨G, hG⟩ : ∃ G, Hid (G = grownCap w (n + 1) c 3) := ⟨_, rfl⟩
  obtain ⟨ROW, hROW⟩ : ∃ ROW : Array Value, Hid (ROW = (cs.take (i * 1)).toArray ++ Builtin.zeroCells z.cells (n + 1 - i) ++ Builtin.zeroCells z.cells (G - (n + 1))) := ⟨_, rfl⟩
  have hrz : ∀ ty, (Builtin.append_ #[24, 3] ty #[.slice (some ⟨b, 0, none⟩) i c, .int .i64 ((n : Int) + 1 - (i : Int))]).run Try.prog w =
      .ok (.slice (some ⟨w.heap.size, 0, none⟩) (n + 1) G) (w.drew.alloc (.cells ROW 3)) := fun ty => by
    have h := Lib.run_append_grow_zeros w 24 3 ty 3 i0 z .i64 .i64 Try.underlying24 Try.underlying3 hi0 hz0 (some ⟨b, 0, none⟩) i c (cs.take (i * 1)) hold (n + 1 - i) (by omega) (by omega) (by omega) (by omega) (by rw [hzb]; omega) (by rw [hzb, hik]; exact growslice_fits (by omega) (by omega))
    rw [hik] at h
    rw [hkk, hROW.out, hG.out]
    exact h
  have hGn : n + 1 ≤ G := by rw [hG.out]; exact grownCap_ge w _ _ _
  have hGm : G ≤ maxLen := by rw [hG.out]; exact grownCap_le_maxLen w (n + 1) c _ (by unfold maxLen; omega)
  have hRl : ROW.size = G * 1 := by
    have e2 : (cs.take (i * 1)).length = i * 1 := by rw [List.length_take, hcl]; exact Nat.min_eq_left (Nat.mul_le_mul_right _ hin)
    have e1 : ∀ k, (Builtin.zeroCells z.cells k).size = k * 1 := fun k => by
      have := zeroCells_lenI z.cells.toList k
      simpa [hzl] using this
    rw [hROW.out, Array.size_append, Array.size_append, e1, e1, List.size_toArray, e2, Nat.sub_mul, Nat.sub_mul]
    have := Nat.mul_le_mul_right 1 hGn
    have := Nat.mul_le_mul_right 1 hin
    omega
  have hRt : ROW.toList.take (i * 1) = cs.take (i * 1) := by
    have e2 : (cs.take (i * 1)).length = i * 1 := by rw [List.length_take, hcl]; exact Nat.min_eq_left (Nat.mul_le_mul_right _ hin)
    rw [hROW.out, Array.toList_append, Array.toList_append, List.append_assoc, List.toList_toArray, List.take_append_of_le_length (by rw [e2]; omega), List.take_of_length_le (by rw [e2]; omega)]
  have hbw : b < w.heap.size := (Array.getElem?_eq_some_iff.1 hg).1
  have hvw : vb < w.heap.size := (Array.getElem?_eq_some_iff.1 hv).1
  have hA6 : (ROW.toList.take (i * 1)).length = i * 1 := by rw [hRt, List.length_take, hcl]; exact Nat.min_eq_left (Nat.mul_le_mul_right _ hin)
  obtain ⟨RA, hRA⟩ : ∃ RA, Hid (RA = ROW.toList.take (i * 1) ++ vs ++ ROW.toList.drop (i * 1 + vs.length)) := ⟨_, rfl⟩
  have hRAl : RA.length = G * 1 := by
    have := Nat.mul_le_mul_right 1 hGn
    have := Nat.mul_le_mul_right 1 hin
    rw [hRA.out, List.length_append, List.length_append, hA6, hvl, List.length_drop, Array.length_toList, hRl]
    omega
  have hdl : (cs.drop (i * 1)).length = (n - i) * 1 := by rw [List.length_drop, hcl, Nat.sub_mul]
  obtain ⟨RB, hRB⟩ : ∃ RB, Hid (RB = RA.take ((i + 1) * 1) ++ cs.drop (i * 1) ++ RA.drop ((i + 1) * 1 + (cs.drop (i * 1)).length)) := ⟨_, rfl⟩
  have hRBe : RB = cs.take (i * 1) ++ (vs ++ (cs.drop (i * 1) ++ RA.drop ((n + 1) * 1))) := by
    have e1 : RA.take ((i + 1) * 1) = cs.take (i * 1) ++ vs := by
      rw [hRA.out, List.take_append_of_le_length (by rw [List.length_append, hA6, hvl]; omega), List.take_of_length_le (by rw [List.length_append, hA6, hvl]; omega), hRt]
    rw [hRB.out, e1, hdl, show (i + 1) * 1 + (n - i) * 1 = (n + 1) * 1 by rw [← Nat.add_mul]; congr 1; omega, List.append_assoc, List.append_assoc]
  obtain ⟨W1, hW1⟩ : ∃ W1, Hid (W1 = w.drew.alloc (.cells ROW 3)) := ⟨_, rfl⟩
  have hN1 : W1.heap[w.heap.size]? = some (.cells ROW 3 (0, 0)) := by rw [hW1.out]; exact alloc_atI w.drew _
  have hO1 : ∀ k, k < w.heap.size → W1.heap[k]? = w.heap[k]? := fun k hk => by
    rw [hW1.out]
    show (w.heap.push _)[k]? = w.heap[k]?
    rw [Array.getElem?_push_lt hk, Array.getElem?_eq_getElem hk]
  have hN2 : (W1.setRow w.heap.size RA.toArray).heap[w.heap.size]? = some (.cells RA.toArray 3 (0, 0)) := setRow_heap W1 w.heap.size _ _ _ (0, 0) hN1
  have hcpA : ∀ ty dl dc, Nat.min 1 dl = 1 → (Builtin.copy_ #[24, 24] ty #[.slice (some ⟨w.heap.size, i * 1, none⟩) dl dc, .slice (some ⟨vb, 0, none⟩) 1 vc]).run Try.prog W1 = .ok (goInt (1 : Nat)) (W1.setRow w.heap.size RA.toArray) := fun ty dl dc hm => by
    have h := run_copy_rowKI (P := Try.prog) W1 24 24 ty 3 1 w.heap.size (i * 1) dl dc ⟨vb, 0, none⟩ 1 vc ROW 3 vs Try.underlying24 (by rfl) hN1 (by rw [hm, hvl]) (fun j v hj => by
      rw [Addr.add_lit, Nat.zero_add]
      have : W1.heap[vb]? = some (.cells (vs ++ vsp).toArray T' (0, 0)) := by rw [hO1 vb hvw]; exact hv
      rw [cell_rowI this, List.getElem?_append_left (List.getElem?_eq_some_iff.1 hj).1, hj]) (by rw [hRl, hvl]; omega) h1v
    rw [hm] at h
    rw [hRA.out]
    exact h
  have hcpB : ∀ ty dl dc sl sc, Nat.min sl dl = n - i → (Builtin.copy_ #[24, 24] ty #[.slice (some ⟨w.heap.size, (i + 1) * 1, none⟩) dl dc, .slice (some ⟨b, i * 1, none⟩) sl sc]).run Try.prog (W1.setRow w.heap.size RA.toArray).drew = .ok (goInt (n - i : Nat)) ((W1.setRow w.heap.size RA.toArray).drew.setRow w.heap.size RB.toArray) := fun ty dl dc sl sc hm => by
    have hle : (i + 1) * 1 + (n - i) * 1 ≤ G * 1 := by rw [← Nat.add_mul]; exact Nat.mul_le_mul_right _ (by omega)
    have h := run_copy_rowKI (P := Try.prog) (W1.setRow w.heap.size RA.toArray).drew 24 24 ty 3 1 w.heap.size ((i + 1) * 1) dl dc ⟨b, i * 1, none⟩ sl sc RA.toArray 3 (cs.drop (i * 1)) Try.underlying24 (by rfl) hN2 (by rw [hm, hdl]) (fun j v hj => by
      have : (W1.setRow w.heap.size RA.toArray).drew.heap[b]? = some (.cells (cs ++ sp).toArray 3 (0, 0)) := by
        show (W1.setRow w.heap.size RA.toArray).heap[b]? = _
        rw [setRow_other W1 w.heap.size b _ (by omega), hO1 b hbw]
        exact hg
      rw [Addr.add_lit, cell_rowI this, List.getElem?_append_left (by have := (List.getElem?_eq_some_iff.1 hj).1; rw [List.length_drop] at this; omega), ← List.getElem?_drop, hj]) (by simp only [List.size_toArray, hRAl, hdl]; exact hle) (fun v hv => h1c v (List.mem_of_mem_drop hv))
    rw [hm] at h
    rw [hRB.out]
    simpa using h
  have hend : (W1.setRow w.heap.size RA.toArray).drew.setRow w.heap.size RB.toArray = (W1.setRow w.heap.size RB.toArray).drew := by
    rw [show (W1.setRow w.heap.size RA.toArray).drew = W1.drew.setRow w.heap.size RA.toArray from rfl, setRow_setRow]
    rfl
  rw [← hW1.out] at hrz
  have hfin : ∃ G' rest, Ending.returned (.slice (some ⟨w.heap.size, 0, none⟩) (n + 1) G) = .returned (.slice (some ⟨w.heap.size, 0, none⟩) (n + 1) G') ∧ n + 1 ≤ G' ∧ G' ≤ maxLen ∧ ((W1.setRow w.heap.size RA.toArray).drew.setRow w.heap.size RB.toArray).heap[w.heap.size]? = some (.cells (cs.take (i * 1) ++ (vs ++ (cs.drop (i * 1) ++ rest))).toArray 3 (0, 0)) ∧ rest.length = (G' - (n + 1)) * 1 ∧ w.grownBy ((W1.setRow w.heap.size RA.toArray).drew.setRow w.heap.size RB.toArray) none := by
    refine ⟨G, RA.drop ((n + 1) * 1), rfl, hGn, hGm, ?_, ?_, ?_⟩
    · rw [hend, ← hRBe]
      exact setRow_heap W1 w.heap.size _ _ _ (0, 0) hN1
    · rw [List.length_drop, hRAl, Nat.sub_mul]
    · rw [hend]
      refine ⟨?_, ?_, ?_, ?_, fun k hk _ => ?_⟩
      · rw [hW1.out]; rfl
      · rw [hW1.out]; rfl
      · rw [hW1.out]; rfl
      · have h1 : W1.heap.size = w.heap.size + 1 := by
          rw [hW1.out]
          show (w.heap.push _).size = _
          simp
        show w.heap.size ≤ (W1.setRow w.heap.size RB.toArray).heap.size
        simp [World.setRow, h1]
      · show (W1.setRow w.heap.size RB.toArray).heap[k]? = w.heap[k]?
        rw [setRow_other W1 w.heap.size k _ (by omega), hO1 k hk]
  generalize hWF : (W1.setRow w.heap.size RA.toArray).drew.setRow w.heap.size RB.toArray = WF at hcpB hfin
  have hmin : Nat.min (n - i) (n + 1 - (i + 1)) = n - i := by simp only [Nat.min_def]; split <;> omega
  have hmin2 : Nat.min 1 (n + 1 - i) = 1 := by simp only [Nat.min_def]; split <;> omega
  have mixed : Try.prog.follows Departure.mixedOrders = true := by rfl
  have hw1 : IntKind.i64.wrap ((i : Int) + 1) = (i : Int) + 1 := by rw [IntKind.wrap_i64]; omega
  have hb3 : (i : Int) ≤ (n : Int) + 1 := by omega
  have hGi : ¬ (G = i) := by omega
  have hGi1 : ¬ (G = i + 1) := by omega
  clear hkk hold hROW hRt hA6 hRA hRB hRBe hN1 hO1 hN2 hend hWF hi0 hz0
  simp only [Nat.mul_one] at *
  go_enter Try.func18, Try.ntmps18
  go_upto_region 11 with (first
    | (at_builtin; refine Lib.wpList_append_run _ rfl _ _ _ _ rfl _ _ rfl rfl _ _ (hrz _) ?_)
    | (at_builtin; refine wpList_copy_runI _ rfl _ _ 24 24 rfl _ _ rfl rfl (hcpA _ (n + 1 - i) (G - i) hmin2) ?_))
  go_region_law_o (refine step_copy_runI rfl _ _ 24 24 rfl (.slice (some ⟨w.heap.size, i + 1, none⟩) (n + 1 - (i + 1)) (G - (i + 1))) (.slice (some ⟨b, i, none⟩) (n - i) (c - i)) (by simp [Act.eval, Act.put]) (by simp [Act.eval, Act.put]) (hcpB _ _ _ _ _ hmin) ?_)
  go_upto_region 9999 with (first | fail)
  all_goals go_ret
  all_goals exact hfin

end Go.Proofs.Ytohpbfcechbngaa
