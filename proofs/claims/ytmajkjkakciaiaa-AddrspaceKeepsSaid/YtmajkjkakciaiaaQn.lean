/- slices.Insert at a row of regions: there is room. -/
/- slices.Insert at a row of regions: there is no room. -/
/- slices.Insert at a row of regions: at the end; as a contract. -/
/- slices.Insert at a row of regions: the contract. -/
/- slices.Insert at rows of one's own. -/
import Derived.Test.YtmajkjkakciaiaaQm
import Derived.Shelf.Spec.SlicesInsert
import Derived.Lib.AppendZerosOnto
import Derived.Laws.NewBlocks
import Derived.Laws.CopyRow
set_option linter.unusedSimpArgs false
set_option linter.unusedVariables false
namespace Go.Proofs.Ytmajkjkakciaiaa
open Go.RowKit Go.Lib

theorem run_copy_rowK {P : Program} (w : World) (dT sT ty elem : TypeId) (k g o dLen dCap : Nat) (a : Addr) (sLen sCap : Nat) (cur : Array Value) (t : TypeId) (cs : List Value)
    (hu : P.underlying dT = some (.slice elem)) (hs : (P.info? elem).map (·.size) = some k)
    (hg : w.heap[g]? = some (.cells cur t (0, 0))) (hn : cs.length = Nat.min sLen dLen * k)
    (hsrc : ∀ j v, cs[j]? = some v → w.cell? (a.add j) = some v) (hfit : o + cs.length ≤ cur.size) (h1 : ∀ v ∈ cs, v.oneCell' = true) :
    (Builtin.copy_ #[dT, sT] ty #[.slice (some ⟨g, o, none⟩) dLen dCap, .slice (some a) sLen sCap]).run P w =
      .ok (goInt (Nat.min sLen dLen)) (w.setRow g (cur.toList.take o ++ cs ++ cur.toList.drop (o + cs.length)).toArray) := by
  have hl := run_loadCells_list (P := P) w a cs hsrc
  have hst := run_storeCells_at P g o t cs 0 cur w hg (by simpa using hfit) h1
  cases hq : P.info? elem with
  | none => simp [hq] at hs
  | some i =>
    have hi : i.size = k := by simpa [hq] using hs
    simp [Builtin.copy_, run_underlying hu, Builtin.lenOf, Builtin.firstCells, sizeOf, typeInfo, hq, hi, ← hn, hl, hst]
theorem cell_row {w : World} {b : Nat} {L : List Value} {t : TypeId} (h : w.heap[b]? = some (.cells L.toArray t (0, 0))) (j : Nat) : w.cell? ⟨b, j, none⟩ = L[j]? := by
  simp [World.cell?, h]

set_option maxHeartbeats 4000000 in
set_option maxRecDepth 100000 in
theorem ins_shift (w : World) (b n c i vb vc : Nat) (cs sp vs vsp : List Value) (T T' : TypeId) (hi : i < n) (hroom : n + 1 ≤ c) (hn : n ≤ 90000) (hcl : cs.length = n * 6) (hvl : vs.length = 6) (hbl : (cs ++ sp).length = c * 6)
    (hg : w.heap[b]? = some (.cells (cs ++ sp).toArray T (0, 0))) (hv : w.heap[vb]? = some (.cells (vs ++ vsp).toArray T' (0, 0))) (hvb : vb ≠ b) (h1c : ∀ v ∈ cs, v.oneCell' = true) (h1v : ∀ v ∈ vs, v.oneCell' = true) :
    Calls Try.prog 32 #[.slice (some ⟨b, 0, none⟩) n c, .int .i64 i, .slice (some ⟨vb, 0, none⟩) 1 vc] w fun e w' =>
      e = .returned (.slice (some ⟨b, 0, none⟩) (n + 1) c) ∧ w' = w.drew.setRow b (cs.take (i * 6) ++ (vs ++ (cs.drop (i * 6) ++ sp.drop 6))).toArray := by
  have hz2 : ¬ ((i : Int) = (n : Int)) := by omega
  have hb1 : (0 : Int) ≤ (i : Int) + 1 := by omega
  have hin : i ≤ n := by omega
  have htn : ((i : Int) + 1).toNat = i + 1 := by omega
  have hb2 : ¬ (c = i + 1) := by omega
  have hb3 : (i : Int) ≤ (n : Int) + 1 := by omega
  have hb4 : ¬ (c = i) := by omega
  have hb5 : ¬ ((c : Int) < (n : Int) + 1) := by omega
  have hov : ∀ lb cb, (callFunc 61 #[.slice (some ⟨vb, 0, none⟩) 1 vc, .slice (some ⟨b, (i + 1) * 6, none⟩) lb cb]).run Try.prog w = .ok (.value (.bool false)) w := fun lb cb => by
    rw [run_callFunc_extern Try.func61 (by kernel_rfl) (by kernel_rfl) (by kernel_rfl) (e := Extern.SlicesOverlaps.overlaps #[31, 31] #[4]) (by kernel_rfl),
      Lib.run_overlaps_apart w 31 4 23 Try.underlying31 6 (by intro w; rfl) ⟨vb, 0, none⟩ ⟨b, (i + 1) * 6, none⟩ 1 vc lb cb hvb T' T (vs ++ vsp).length (cs ++ sp).length (by simp [World.shape?, hv]) (by simp [World.shape?, hg]) (by omega) (by simp [World.frozen?, hv]) (by simp [World.frozen?, hv])]
    rfl
  obtain ⟨L1, hL1⟩ : ∃ L1, Hid (L1 = (cs ++ sp).take ((i + 1) * 6) ++ cs.drop (i * 6) ++ (cs ++ sp).drop ((i + 1) * 6 + (cs.drop (i * 6)).length)) := ⟨_, rfl⟩
  have hdl : (cs.drop (i * 6)).length = (n - i) * 6 := by rw [List.length_drop, hcl, Nat.sub_mul]
  have hcp1 : ∀ ty dl dc sl sc, Nat.min sl dl = n - i → (Builtin.copy_ #[31, 31] ty #[.slice (some ⟨b, (i + 1) * 6, none⟩) dl dc, .slice (some ⟨b, i * 6, none⟩) sl sc]).run Try.prog w.drew = .ok (goInt (n - i : Nat)) (w.drew.setRow b L1.toArray) := fun ty dl dc sl sc hm => by
    have h := run_copy_rowK (P := Try.prog) w.drew 31 31 ty 23 6 b ((i + 1) * 6) dl dc ⟨b, i * 6, none⟩ sl sc (cs ++ sp).toArray T (cs.drop (i * 6)) Try.underlying31 (by rfl) (by exact hg) (by rw [hm, hdl]) (fun j v hj => by
      rw [Addr.add_lit, show w.drew.cell? ⟨b, i * 6 + j, none⟩ = w.cell? ⟨b, i * 6 + j, none⟩ from rfl, cell_row hg, List.getElem?_append_left (by have := (List.getElem?_eq_some_iff.1 hj).1; rw [List.length_drop] at this; omega), ← List.getElem?_drop, hj]) (by simp only [List.size_toArray, hbl, hdl, ← Nat.add_mul]; exact Nat.mul_le_mul_right _ (by omega)) (fun v hv => h1c v (List.mem_of_mem_drop hv))
    rw [hm] at h
    rw [hL1.out]
    exact h
  have hxl : ((cs ++ sp).take ((i + 1) * 6)).length = (i + 1) * 6 := by rw [List.length_take, hbl]; exact Nat.min_eq_left (Nat.mul_le_mul_right _ (by omega))
  have hY : (cs ++ sp).drop ((i + 1) * 6 + (cs.drop (i * 6)).length) = sp.drop 6 := by
    rw [hdl, show (i + 1) * 6 + (n - i) * 6 = cs.length + 6 by rw [hcl, ← Nat.add_mul]; omega, ← List.drop_drop, List.drop_left]
  have hL1l : L1.length = c * 6 := by
    have e1 : n * 6 + sp.length = c * 6 := by rw [← hbl, List.length_append, hcl]
    rw [hL1.out, hY, List.length_append, List.length_append, hxl, hdl, List.length_drop, Nat.sub_mul]
    omega
  have hL2 : L1.take (i * 6) ++ vs ++ L1.drop (i * 6 + vs.length) = cs.take (i * 6) ++ (vs ++ (cs.drop (i * 6) ++ sp.drop 6)) := by
    have e1 : L1.take (i * 6) = cs.take (i * 6) := by
      rw [hL1.out, List.append_assoc, List.take_append_of_le_length (by rw [hxl]; omega), List.take_take, Nat.min_eq_left (by omega), List.take_append_of_le_length (by rw [hcl]; omega)]
    have e2 : L1.drop (i * 6 + vs.length) = cs.drop (i * 6) ++ sp.drop 6 := by
      rw [hL1.out, hvl, hY, List.append_assoc, List.drop_append_of_le_length (by rw [hxl]; omega), List.drop_eq_nil_of_le (by rw [hxl]; omega), List.nil_append]
    rw [e1, e2, List.append_assoc]
  have hg1 : (w.drew.setRow b L1.toArray).heap[b]? = some (.cells L1.toArray T (0, 0)) := setRow_heap w.drew b _ _ T (0, 0) hg
  have hcp2 : ∀ ty dl dc, Nat.min 1 dl = 1 → (Builtin.copy_ #[31, 31] ty #[.slice (some ⟨b, i * 6, none⟩) dl dc, .slice (some ⟨vb, 0, none⟩) 1 vc]).run Try.prog (w.drew.setRow b L1.toArray) = .ok (goInt (1 : Nat)) (w.drew.setRow b (cs.take (i * 6) ++ (vs ++ (cs.drop (i * 6) ++ sp.drop 6))).toArray) := fun ty dl dc hm => by
    have h := run_copy_rowK (P := Try.prog) (w.drew.setRow b L1.toArray) 31 31 ty 23 6 b (i * 6) dl dc ⟨vb, 0, none⟩ 1 vc L1.toArray T vs Try.underlying31 (by rfl) hg1 (by rw [hm, hvl]) (fun j v hj => by
      rw [Addr.add_lit, Nat.zero_add]
      have : (w.drew.setRow b L1.toArray).heap[vb]? = some (.cells (vs ++ vsp).toArray T' (0, 0)) := by rw [setRow_other w.drew b vb _ hvb]; exact hv
      rw [cell_row this, List.getElem?_append_left (List.getElem?_eq_some_iff.1 hj).1, hj]) (by simp only [List.size_toArray, hL1l, hvl]; omega) h1v
    rw [hm] at h
    rw [h, setRow_setRow]
    simp only [List.toList_toArray, hL2]
  have hmin2 : Nat.min 1 (n + 1 - i) = 1 := by simp only [Nat.min_def]; split <;> omega
  have hmin : Nat.min (n + 1 - i) (n + 1 - (i + 1)) = n - i := by simp only [Nat.min_def]; split <;> omega
  have mixed : Try.prog.follows Departure.mixedOrders = true := by rfl
  have hw1 : IntKind.i64.wrap ((i : Int) + 1) = (i : Int) + 1 := by rw [IntKind.wrap_i64]; omega
  have hin2 : (i : Int) ≤ (n : Int) := by omega
  go_enter Try.func32, Try.ntmps32
  go_upto_region 15 with (first | (simp only [hov]))
  go_region_law_o (refine step_copy_runI rfl _ _ 31 31 rfl (.slice (some ⟨b, (i + 1) * 6, none⟩) (n + 1 - (i + 1)) (c - (i + 1))) (.slice (some ⟨b, i * 6, none⟩) (n + 1 - i) (c - i)) (by simp [Act.eval, Act.put]) (by simp [Act.eval, Act.put]) (hcp1 _ _ _ _ _ hmin) ?_)
  clear hL2 hY hxl hL1
  go_upto_region 9999 with (first | (at_builtin; refine wpList_copy_runI _ rfl _ _ 31 31 rfl _ _ rfl rfl (hcp2 _ (n + 1 - i) (c - i) hmin2) ?_))
  all_goals trace_state
  all_goals go_ret
  all_goals exact ⟨rfl, rfl⟩

end Go.Proofs.Ytmajkjkakciaiaa

set_option linter.unusedSimpArgs false
set_option linter.unusedVariables false
namespace Go.Proofs.Ytmajkjkakciaiaa
open Go.RowKit Go.Lib

theorem alloc_at (w : World) (o : Obj) : (w.alloc o).heap[w.heap.size]? = some o := by
  show (w.heap.push o)[w.heap.size]? = some o
  simp
theorem zeroCells_len (z : List Value) (n : Nat) : (Builtin.zeroCells z.toArray n).size = n * z.length := by
  unfold Builtin.zeroCells
  simp [Nat.mul_comm]
set_option maxHeartbeats 4000000 in
set_option maxRecDepth 100000 in
theorem ins_grow (w : World) (b n c i vb vc : Nat) (cs sp vs vsp : List Value) (T' : TypeId) (hi : i < n) (hnc : n ≤ c) (hroom : c < n + 1) (hn : n ≤ 90000) (hcl : cs.length = n * 6) (hvl : vs.length = 6)
    (hg : w.heap[b]? = some (.cells (cs ++ sp).toArray 23 (0, 0))) (hv : w.heap[vb]? = some (.cells (vs ++ vsp).toArray T' (0, 0))) (h1c : ∀ v ∈ cs, v.oneCell' = true) (h1v : ∀ v ∈ vs, v.oneCell' = true) :
    Calls Try.prog 32 #[.slice (some ⟨b, 0, none⟩) n c, .int .i64 i, .slice (some ⟨vb, 0, none⟩) 1 vc] w fun e w' =>
      ∃ G rest, e = .returned (.slice (some ⟨w.heap.size, 0, none⟩) (n + 1) G) ∧ n + 1 ≤ G ∧ G ≤ maxLen ∧ w'.heap[w.heap.size]? = some (.cells (cs.take (i * 6) ++ (vs ++ (cs.drop (i * 6) ++ rest))).toArray 23 (0, 0)) ∧ rest.length = (G - (n + 1)) * 6 ∧ w.grownBy w' none := by
  obtain ⟨i0, z, hi0, hz0, hzs, hzb, hzl⟩ : ∃ (i0 : TypeInfo) (z : Value), Try.prog.info? 23 = some i0 ∧ i0.zero = some z ∧ i0.size = 6 ∧ i0.bytes = 48 ∧ z.cells.size = 6 := ⟨_, _, rfl, rfl, rfl, rfl, rfl⟩
  have hz2 : ¬ ((i : Int) = (n : Int)) := by omega
  have hb1 : (0 : Int) ≤ (i : Int) + 1 := by omega
  have hin : i ≤ n := by omega
  have hin2 : (i : Int) ≤ (n : Int) := by omega
  have htn : ((i : Int) + 1).toNat = i + 1 := by omega
  have hci : ¬ (c = i) := by omega
  have hb5 : (c : Int) < (n : Int) + 1 := by omega
  have hkk : (n : Int) + 1 - (i : Int) = ((n + 1 - i : Nat) : Int) := by omega
  have hik : i + (n + 1 - i) = n + 1 := by omega
  have hold : (Builtin.firstCells i0.size i (.slice (some ⟨b, 0, none⟩) i c)).run Try.prog w.drew = .ok (cs.take (i * 6)).toArray w.drew := by
    rw [hzs]
    exact run_firstCells_some w.drew 6 i ⟨b, 0, none⟩ i c (cs.take (i * 6)) (by rw [List.length_take, hcl]; exact Nat.min_eq_left (Nat.mul_le_mul_right _ hin)) (fun j v hj => by
      rw [Addr.add_lit, Nat.zero_add, show w.drew.cell? ⟨b, j, none⟩ = w.cell? ⟨b, j, none⟩ from rfl, cell_row hg]
      have hj2 : cs[j]? = some v := by
        rw [List.getElem?_take] at hj
        split at hj
        · exact hj
        · cases hj
      rw [List.getElem?_append_left (List.getElem?_eq_some_iff.1 hj2).1, hj2])
  obtain ⟨G, hG⟩ : ∃ G, Hid (G = grownCap w (n + 1) c 23) := ⟨_, rfl⟩
  obtain ⟨ROW, hROW⟩ : ∃ ROW : Array Value, Hid (ROW = (cs.take (i * 6)).toArray ++ Builtin.zeroCells z.cells (n + 1 - i) ++ Builtin.zeroCells z.cells (G - (n + 1))) := ⟨_, rfl⟩
  have hrz : ∀ ty, (Builtin.append_ #[31, 3] ty #[.slice (some ⟨b, 0, none⟩) i c, .int .i64 ((n : Int) + 1 - (i : Int))]).run Try.prog w =
      .ok (.slice (some ⟨w.heap.size, 0, none⟩) (n + 1) G) (w.drew.alloc (.cells ROW 23)) := fun ty => by
    have h := Lib.run_append_grow_zeros w 31 3 ty 23 i0 z .i64 .i64 Try.underlying31 Try.underlying3 hi0 hz0 (some ⟨b, 0, none⟩) i c (cs.take (i * 6)) hold (n + 1 - i) (by omega) (by omega) (by omega) (by omega) (by rw [hzb]; omega) (by rw [hzb, hik]; exact growslice_fits (by omega) (by omega))
    rw [hik] at h
    rw [hkk, hROW.out, hG.out]
    exact h
  have hGn : n + 1 ≤ G := by rw [hG.out]; exact grownCap_ge w _ _ _
  have hGm : G ≤ maxLen := by rw [hG.out]; exact grownCap_le_maxLen w (n + 1) c _ (by unfold maxLen; omega)
  have hRl : ROW.size = G * 6 := by
    have e2 : (cs.take (i * 6)).length = i * 6 := by rw [List.length_take, hcl]; exact Nat.min_eq_left (Nat.mul_le_mul_right _ hin)
    have e1 : ∀ k, (Builtin.zeroCells z.cells k).size = k * 6 := fun k => by
      have := zeroCells_len z.cells.toList k
      simpa [hzl] using this
    rw [hROW.out, Array.size_append, Array.size_append, e1, e1, List.size_toArray, e2, Nat.sub_mul, Nat.sub_mul]
    have := Nat.mul_le_mul_right 6 hGn
    have := Nat.mul_le_mul_right 6 hin
    omega
  have hRt : ROW.toList.take (i * 6) = cs.take (i * 6) := by
    have e2 : (cs.take (i * 6)).length = i * 6 := by rw [List.length_take, hcl]; exact Nat.min_eq_left (Nat.mul_le_mul_right _ hin)
    rw [hROW.out, Array.toList_append, Array.toList_append, List.append_assoc, List.toList_toArray, List.take_append_of_le_length (by rw [e2]; omega), List.take_of_length_le (by rw [e2]; omega)]
  have hbw : b < w.heap.size := (Array.getElem?_eq_some_iff.1 hg).1
  have hvw : vb < w.heap.size := (Array.getElem?_eq_some_iff.1 hv).1
  have hA6 : (ROW.toList.take (i * 6)).length = i * 6 := by rw [hRt, List.length_take, hcl]; exact Nat.min_eq_left (Nat.mul_le_mul_right _ hin)
  obtain ⟨RA, hRA⟩ : ∃ RA, Hid (RA = ROW.toList.take (i * 6) ++ vs ++ ROW.toList.drop (i * 6 + vs.length)) := ⟨_, rfl⟩
  have hRAl : RA.length = G * 6 := by
    have := Nat.mul_le_mul_right 6 hGn
    have := Nat.mul_le_mul_right 6 hin
    rw [hRA.out, List.length_append, List.length_append, hA6, hvl, List.length_drop, Array.length_toList, hRl]
    omega
  have hdl : (cs.drop (i * 6)).length = (n - i) * 6 := by rw [List.length_drop, hcl, Nat.sub_mul]
  obtain ⟨RB, hRB⟩ : ∃ RB, Hid (RB = RA.take ((i + 1) * 6) ++ cs.drop (i * 6) ++ RA.drop ((i + 1) * 6 + (cs.drop (i * 6)).length)) := ⟨_, rfl⟩
  have hRBe : RB = cs.take (i * 6) ++ (vs ++ (cs.drop (i * 6) ++ RA.drop ((n + 1) * 6))) := by
    have e1 : RA.take ((i + 1) * 6) = cs.take (i * 6) ++ vs := by
      rw [hRA.out, List.take_append_of_le_length (by rw [List.length_append, hA6, hvl]; omega), List.take_of_length_le (by rw [List.length_append, hA6, hvl]; omega), hRt]
    rw [hRB.out, e1, hdl, show (i + 1) * 6 + (n - i) * 6 = (n + 1) * 6 by rw [← Nat.add_mul]; congr 1; omega, List.append_assoc, List.append_assoc]
  obtain ⟨W1, hW1⟩ : ∃ W1, Hid (W1 = w.drew.alloc (.cells ROW 23)) := ⟨_, rfl⟩
  have hN1 : W1.heap[w.heap.size]? = some (.cells ROW 23 (0, 0)) := by rw [hW1.out]; exact alloc_at w.drew _
  have hO1 : ∀ k, k < w.heap.size → W1.heap[k]? = w.heap[k]? := fun k hk => by
    rw [hW1.out]
    show (w.heap.push _)[k]? = w.heap[k]?
    rw [Array.getElem?_push_lt hk, Array.getElem?_eq_getElem hk]
  have hN2 : (W1.setRow w.heap.size RA.toArray).heap[w.heap.size]? = some (.cells RA.toArray 23 (0, 0)) := setRow_heap W1 w.heap.size _ _ _ (0, 0) hN1
  have hcpA : ∀ ty dl dc, Nat.min 1 dl = 1 → (Builtin.copy_ #[31, 31] ty #[.slice (some ⟨w.heap.size, i * 6, none⟩) dl dc, .slice (some ⟨vb, 0, none⟩) 1 vc]).run Try.prog W1 = .ok (goInt (1 : Nat)) (W1.setRow w.heap.size RA.toArray) := fun ty dl dc hm => by
    have h := run_copy_rowK (P := Try.prog) W1 31 31 ty 23 6 w.heap.size (i * 6) dl dc ⟨vb, 0, none⟩ 1 vc ROW 23 vs Try.underlying31 (by rfl) hN1 (by rw [hm, hvl]) (fun j v hj => by
      rw [Addr.add_lit, Nat.zero_add]
      have : W1.heap[vb]? = some (.cells (vs ++ vsp).toArray T' (0, 0)) := by rw [hO1 vb hvw]; exact hv
      rw [cell_row this, List.getElem?_append_left (List.getElem?_eq_some_iff.1 hj).1, hj]) (by rw [hRl, hvl]; omega) h1v
    rw [hm] at h
    rw [hRA.out]
    exact h
  have hcpB : ∀ ty dl dc sl sc, Nat.min sl dl = n - i → (Builtin.copy_ #[31, 31] ty #[.slice (some ⟨w.heap.size, (i + 1) * 6, none⟩) dl dc, .slice (some ⟨b, i * 6, none⟩) sl sc]).run Try.prog (W1.setRow w.heap.size RA.toArray).drew = .ok (goInt (n - i : Nat)) ((W1.setRow w.heap.size RA.toArray).drew.setRow w.heap.size RB.toArray) := fun ty dl dc sl sc hm => by
    have hle : (i + 1) * 6 + (n - i) * 6 ≤ G * 6 := by rw [← Nat.add_mul]; exact Nat.mul_le_mul_right _ (by omega)
    have h := run_copy_rowK (P := Try.prog) (W1.setRow w.heap.size RA.toArray).drew 31 31 ty 23 6 w.heap.size ((i + 1) * 6) dl dc ⟨b, i * 6, none⟩ sl sc RA.toArray 23 (cs.drop (i * 6)) Try.underlying31 (by rfl) hN2 (by rw [hm, hdl]) (fun j v hj => by
      have : (W1.setRow w.heap.size RA.toArray).drew.heap[b]? = some (.cells (cs ++ sp).toArray 23 (0, 0)) := by
        show (W1.setRow w.heap.size RA.toArray).heap[b]? = _
        rw [setRow_other W1 w.heap.size b _ (by omega), hO1 b hbw]
        exact hg
      rw [Addr.add_lit, cell_row this, List.getElem?_append_left (by have := (List.getElem?_eq_some_iff.1 hj).1; rw [List.length_drop] at this; omega), ← List.getElem?_drop, hj]) (by simp only [List.size_toArray, hRAl, hdl]; exact hle) (fun v hv => h1c v (List.mem_of_mem_drop hv))
    rw [hm] at h
    rw [hRB.out]
    simpa using h
  have hend : (W1.setRow w.heap.size RA.toArray).drew.setRow w.heap.size RB.toArray = (W1.setRow w.heap.size RB.toArray).drew := by
    rw [show (W1.setRow w.heap.size RA.toArray).drew = W1.drew.setRow w.heap.size RA.toArray from rfl, setRow_setRow]
    rfl
  rw [← hW1.out] at hrz
  have hfin : ∃ G' rest, Ending.returned (.slice (some ⟨w.heap.size, 0, none⟩) (n + 1) G) = .returned (.slice (some ⟨w.heap.size, 0, none⟩) (n + 1) G') ∧ n + 1 ≤ G' ∧ G' ≤ maxLen ∧ ((W1.setRow w.heap.size RA.toArray).drew.setRow w.heap.size RB.toArray).heap[w.heap.size]? = some (.cells (cs.take (i * 6) ++ (vs ++ (cs.drop (i * 6) ++ rest))).toArray 23 (0, 0)) ∧ rest.length = (G' - (n + 1)) * 6 ∧ w.grownBy ((W1.setRow w.heap.size RA.toArray).drew.setRow w.heap.size RB.toArray) none := by
    refine ⟨G, RA.drop ((n + 1) * 6), rfl, hGn, hGm, ?_, ?_, ?_⟩
    · rw [hend, ← hRBe]
      exact setRow_heap W1 w.heap.size _ _ _ (0, 0) hN1
    · rw [List.length_drop, hRAl, Nat.sub_mul]
    · rw [hend]
      refine ⟨?_, ?_, ?_, ?_, fun k hk _ => ?_⟩
      · rw [hW1.out]; rfl
      · rw [hW1.out]; rfl
      · rw [hW1.out]; rfl
      · have h1 : W1.heap.size = w.heap.size + 1 := by
          rw [hW1.out]
          show (w.heap.push _).size = _
          simp
        show w.heap.size ≤ (W1.setRow w.heap.size RB.toArray).heap.size
        simp [World.setRow, h1]
      · show (W1.setRow w.heap.size RB.toArray).heap[k]? = w.heap[k]?
        rw [setRow_other W1 w.heap.size k _ (by omega), hO1 k hk]
  generalize hWF : (W1.setRow w.heap.size RA.toArray).drew.setRow w.heap.size RB.toArray = WF at hcpB hfin
  have hmin : Nat.min (n - i) (n + 1 - (i + 1)) = n - i := by simp only [Nat.min_def]; split <;> omega
  have hmin2 : Nat.min 1 (n + 1 - i) = 1 := by simp only [Nat.min_def]; split <;> omega
  have mixed : Try.prog.follows Departure.mixedOrders = true := by rfl
  have hw1 : IntKind.i64.wrap ((i : Int) + 1) = (i : Int) + 1 := by rw [IntKind.wrap_i64]; omega
  have hb3 : (i : Int) ≤ (n : Int) + 1 := by omega
  have hGi : ¬ (G = i) := by omega
  have hGi1 : ¬ (G = i + 1) := by omega
  clear hkk hold hROW hRt hA6 hRA hRB hRBe hN1 hO1 hN2 hend hWF hi0 hz0
  go_enter Try.func32, Try.ntmps32
  go_upto_region 11 with (first
    | (at_builtin; refine Lib.wpList_append_run _ rfl _ _ _ _ rfl _ _ rfl rfl _ _ (hrz _) ?_)
    | (at_builtin; refine wpList_copy_runI _ rfl _ _ 31 31 rfl _ _ rfl rfl (hcpA _ (n + 1 - i) (G - i) hmin2) ?_))
  go_region_law_o (refine step_copy_runI rfl _ _ 31 31 rfl (.slice (some ⟨w.heap.size, (i + 1) * 6, none⟩) (n + 1 - (i + 1)) (G - (i + 1))) (.slice (some ⟨b, i * 6, none⟩) (n - i) (c - i)) (by simp [Act.eval, Act.put]) (by simp [Act.eval, Act.put]) (hcpB _ _ _ _ _ hmin) ?_)
  go_upto_region 9999 with (first | fail)
  all_goals go_ret
  all_goals exact hfin

end Go.Proofs.Ytmajkjkakciaiaa

set_option linter.unusedSimpArgs false
set_option linter.unusedVariables false
namespace Go.Proofs.Ytmajkjkakciaiaa
open Go.RowKit Go.Lib

/-- What Insert leaves: a row of one's own, in the old block or a new one. -/
def InsPost (w : World) (v : Value) (n : Nat) (xs : List Value) (e : Ending) (w' : World) : Prop := ∃ v', e = .returned v' ∧ w'.ownsRow 0 23 6 v' (n + 1) xs ∧ w.grownBy w' v.ownBlock ∧ (v'.ownBlock = v.ownBlock ∨ v'.ownBlock = some w.heap.size)
set_option maxHeartbeats 4000000 in
set_option maxRecDepth 100000 in
theorem ins_end (w : World) (p : Option Addr) (n c vb vc : Nat) (cs vs vsp : List Value) (T' : TypeId) (hn : n ≤ 90000) (hnc : n ≤ c) (hown : w.ownsRow 0 23 6 (.slice p n c) n cs) (hvl : vs.length = 6)
    (hv : w.heap[vb]? = some (.cells (vs ++ vsp).toArray T' (0, 0))) (h1v : ∀ v ∈ vs, v.oneCell' = true) :
    Calls Try.prog 32 #[.slice p n c, .int .i64 n, .slice (some ⟨vb, 0, none⟩) 1 vc] w (InsPost w (.slice p n c) n (cs ++ vs)) := by
  obtain ⟨i0, z, hi0, hz0, hzs, hzb, hzl⟩ : ∃ (i0 : TypeInfo) (z : Value), Try.prog.info? 23 = some i0 ∧ i0.zero = some z ∧ i0.size = 6 ∧ i0.bytes = 48 ∧ z.cells.size = 6 := ⟨_, _, rfl, rfl, rfl, rfl, rfl⟩
  have hsh : (p = none ∧ n = 0 ∧ c = 0) ∨ ∃ b, p = some ⟨b, 0, none⟩ := by
    rcases hown.2 with ⟨h1, h2⟩ | ⟨g, cap, cur, h1, _⟩
    · cases h1; exact .inl ⟨rfl, rfl, rfl⟩
    · cases h1; exact .inr ⟨g, rfl⟩
  have hr : ∃ v' W', Hid (∀ ty, (Builtin.append_ #[31, 31] ty #[.slice p n c, .slice (some ⟨vb, 0, none⟩) 1 vc]).run Try.prog w = .ok v' W') ∧ Hid (InsPost w (.slice p n c) n (cs ++ vs) (.returned v') W') := by
    have h : ∀ ty, ∃ v' W', (Builtin.append_ #[31, 31] ty #[.slice p n c, .slice (some ⟨vb, 0, none⟩) 1 vc]).run Try.prog w = .ok v' W' ∧ InsPost w (.slice p n c) n (cs ++ vs) (.returned v') W' := fun ty => by
      obtain ⟨v', W', hrun, g1, g2, g3, g4⟩ := run_append_own_at (P := Try.prog) w 0 31 ty 23 i0 z 6 48 Try.underlying31 hi0 hz0 hzs hzb hzl (by decide) _ n cs hown ⟨vb, 0, none⟩ 1 vc vs (by rw [hvl]) (fun j u hj => by
        rw [Addr.add_lit, Nat.zero_add, cell_row hv, List.getElem?_append_left (List.getElem?_eq_some_iff.1 hj).1, hj]) h1v (by unfold maxLen; omega) (by omega) (Nat.zero_le _)
      exact ⟨v', W', hrun, v', rfl, g1, g2, g4⟩
    obtain ⟨v', W', h1, h2⟩ := h 0
    exact ⟨v', W', fun ty => h1, h2⟩
  obtain ⟨v', W', hrun, hpost⟩ := hr
  clear hown hv h1v hi0 hz0 hzs hzb hzl
  rcases hsh with ⟨rfl, rfl, rfl⟩ | ⟨b, rfl⟩
  · go_enter Try.func32, Try.ntmps32
    go_upto_region 9999 with (first | (at_builtin; refine Lib.wpList_append_run _ rfl _ _ _ _ rfl _ _ rfl rfl _ _ (hrun.out _) ?_))
    all_goals go_ret
    all_goals exact hpost.out
  · have hin : (n : Int) ≤ (n : Int) := Int.le_refl _
    go_enter Try.func32, Try.ntmps32
    go_upto_region 9999 with (first | (at_builtin; refine Lib.wpList_append_run _ rfl _ _ _ _ rfl _ _ rfl rfl _ _ (hrun.out _) ?_))
    all_goals go_ret
    all_goals exact hpost.out

end Go.Proofs.Ytmajkjkakciaiaa

set_option linter.unusedSimpArgs false
set_option linter.unusedVariables false
namespace Go.Proofs.Ytmajkjkakciaiaa
open Go.RowKit Go.Lib

theorem ins_any (w : World) (p : Option Addr) (n c i vb vc : Nat) (cs vs vsp : List Value) (T' : TypeId) (hn : n ≤ 90000) (hi : i ≤ n) (hown : w.ownsRow 0 23 6 (.slice p n c) n cs) (hvl : vs.length = 6)
    (hv : w.heap[vb]? = some (.cells (vs ++ vsp).toArray T' (0, 0))) (hne : (Value.slice p n c).ownBlock ≠ some vb) (h1c : ∀ v ∈ cs, v.oneCell' = true) (h1v : ∀ v ∈ vs, v.oneCell' = true) :
    Calls Try.prog 32 #[.slice p n c, .int .i64 i, .slice (some ⟨vb, 0, none⟩) 1 vc] w (InsPost w (.slice p n c) n (cs.take (i * 6) ++ (vs ++ cs.drop (i * 6)))) := by
  have hcl := hown.1
  by_cases hin : i = n
  · subst hin
    have hnc : i ≤ c := by
      rcases hown.2 with ⟨h1, h2⟩ | ⟨g, cap, cur, h1, _, _, h4, _⟩
      · cases h1; exact Nat.le_refl _
      · cases h1; exact h4
    rw [List.take_of_length_le (by rw [hcl]; omega), List.drop_eq_nil_of_le (by rw [hcl]; omega), List.append_nil]
    exact ins_end w p i c vb vc cs vs vsp T' hn hnc hown hvl hv h1v
  · rcases hown.2 with ⟨h1, h2⟩ | ⟨g, cap, cur, h1, _, h3, h4, h5, h6, h7⟩
    · omega
    · cases h1
      have hg : w.heap[g]? = some (.cells (cs ++ cur.toList.drop (n * 6)).toArray 23 (0, 0)) := by
        rw [← h7, List.take_append_drop]; exact h3
      have hgv : vb ≠ g := fun e => hne (by rw [e]; rfl)
      by_cases hr : n + 1 ≤ c
      · have hll : (cs ++ cur.toList.drop (n * 6)).length = c * 6 := by rw [← h7, List.take_append_drop]; simpa using h6
        refine (ins_shift w g n c i vb vc cs _ vs vsp _ T' (by omega) hr hn hcl hvl hll hg hv hgv h1c h1v).mono ?_
        rintro e w' ⟨rfl, rfl⟩
        have hsl : (cur.toList.drop (n * 6)).length = c * 6 - n * 6 := by rw [List.length_drop]; simp [h6]
        have hxl : (cs.take (i * 6) ++ (vs ++ cs.drop (i * 6))).length = (n + 1) * 6 := by
          have := Nat.mul_le_mul_right 6 hi
          simp only [List.length_append, List.length_take, List.length_drop, hcl, hvl]
          omega
        refine ⟨_, rfl, ⟨hxl, .inr ⟨g, c, _, rfl, Nat.zero_le _, setRow_heap w.drew g _ _ _ (0, 0) hg, hr, h5, ?_, ?_⟩⟩, ⟨rfl, rfl, rfl, ?_, fun k hk hk2 => ?_⟩, .inl rfl⟩
        · have := Nat.mul_le_mul_right 6 hr
          simp only [List.size_toArray]
          rw [← List.append_assoc, ← List.append_assoc, List.length_append, List.append_assoc, hxl, List.length_drop, hsl]
          omega
        · simp only [List.toList_toArray]
          rw [show cs.take (i * 6) ++ (vs ++ (cs.drop (i * 6) ++ (cur.toList.drop (n * 6)).drop 6)) = (cs.take (i * 6) ++ (vs ++ cs.drop (i * 6))) ++ (cur.toList.drop (n * 6)).drop 6 by simp only [List.append_assoc], ← hxl, List.take_left]
        · show w.heap.size ≤ (w.drew.setRow g _).heap.size
          show w.heap.size ≤ (w.heap.modify g _).size
          rw [Array.size_modify]
          exact Nat.le_refl _
        · rw [setRow_other w.drew g k _ (fun e => hk2 (by rw [e]; rfl))]
          rfl
      · refine (ins_grow w g n c i vb vc cs _ vs vsp T' (by omega) h4 (by omega) hn hcl hvl hg hv h1c h1v).mono ?_
        rintro e w' ⟨G, rest, rfl, k1, k2, k3, k4, k5⟩
        have hxl : (cs.take (i * 6) ++ (vs ++ cs.drop (i * 6))).length = (n + 1) * 6 := by
          have := Nat.mul_le_mul_right 6 hi
          simp only [List.length_append, List.length_take, List.length_drop, hcl, hvl]
          omega
        have he : cs.take (i * 6) ++ (vs ++ (cs.drop (i * 6) ++ rest)) = (cs.take (i * 6) ++ (vs ++ cs.drop (i * 6))) ++ rest := by simp only [List.append_assoc]
        rw [he] at k3
        refine ⟨_, rfl, ⟨hxl, .inr ⟨_, G, _, rfl, Nat.zero_le _, k3, k1, k2, ?_, ?_⟩⟩, ⟨k5.os, k5.tape, k5.output, k5.size, fun k hk _ => k5.block k hk (fun e => by cases e)⟩, .inr rfl⟩
        · have := Nat.mul_le_mul_right 6 k1
          simp only [List.size_toArray]
          rw [List.length_append, hxl, k4, Nat.sub_mul]
          omega
        · simp only [List.toList_toArray]
          rw [← hxl, List.take_left]
def insAt (l : List RV) (i : Nat) (x : RV) : List RV := l.take i ++ x :: l.drop i
theorem rws_flat_take (l : List RV) (i : Nat) : (rws l).flatten.take (i * 6) = (rws (l.take i)).flatten := by
  induction l generalizing i with
  | nil => simp [rws]
  | cons x l ih =>
    cases i with
    | zero => simp [rws]
    | succ i =>
      have e : (rws (x :: l)).flatten = x.row ++ (rws l).flatten := rfl
      rw [e, show (i + 1) * 6 = x.row.length + i * 6 by rw [Nat.add_mul]; show i * 6 + 1 * 6 = 6 + i * 6; omega, List.take_length_add_append, ih]
      rfl
theorem rws_flat_drop (l : List RV) (i : Nat) : (rws l).flatten.drop (i * 6) = (rws (l.drop i)).flatten := by
  induction l generalizing i with
  | nil => simp [rws]
  | cons x l ih =>
    cases i with
    | zero => simp [rws]
    | succ i =>
      have e : (rws (x :: l)).flatten = x.row ++ (rws l).flatten := rfl
      rw [e, show (i + 1) * 6 = x.row.length + i * 6 by rw [Nat.add_mul]; show i * 6 + 1 * 6 = 6 + i * 6; omega, List.drop_length_add_append, ih]
      rfl
theorem rws_flat_cell (l : List RV) : (rws l).flatten.all D.cell = true := by
  rw [List.all_eq_true]
  intro d hd
  obtain ⟨r, hr, hd⟩ := List.mem_flatten.1 hd
  obtain ⟨x, _, rfl⟩ := List.mem_map.1 hr
  simp only [RV.row, List.mem_cons, List.not_mem_nil, or_false] at hd
  rcases hd with rfl | rfl | rfl | rfl | rfl | rfl <;> rfl

end Go.Proofs.Ytmajkjkakciaiaa

set_option linter.unusedSimpArgs false
set_option linter.unusedVariables false
namespace Go.Proofs.Ytmajkjkakciaiaa
open Go.RowKit Go.Lib

/-- The rows that Insert is given. -/
def insB2 (l : List RV) (x : RV) : Bs := [(101, some (23, (rws l).flatten.map .d)), (103, some (23, (rws [x]).flatten.map .d))]
theorem ins_F (l : List RV) (i : Nat) (x : RV) (hl : l.length ≤ 90000) (hi : i ≤ l.length) : FnB Try.prog CT 32 [.o 101 (rws l).length, .d (.s (.int .i64 i)), .o 103 1] [(101, some (23, (rws l).flatten.map .d)), (103, some (23, (rws [x]).flatten.map .d))] (.o 101 (rws (insAt l i x)).length) [(101, some (23, (rws (insAt l i x)).flatten.map .d)), (103, none)] := by
  refine ⟨by kernel_rfl, fun X vs _ hk hb ha => ?_⟩
  have hsz : (Try.prog.info? 23).map (·.size) = some 6 := by rfl
  have hln : (rws l).length = l.length := rws_len l
  cases ha with
  | cons a1 a2 =>
  cases a2 with
  | cons a2 a3 =>
  cases a3 with
  | cons a3 a4 =>
  cases a4
  cases a2 with
  | d a2 =>
  cases a2
  cases a1 with
  | @o _ _ c p d1 v1 =>
  cases a3 with
  | @o _ _ vc p' d3 v3 =>
  rw [hln] at v1 ⊢
  have b1 := hb.bk 101 _ _ rfl
  have b3 := hb.bk 103 _ _ rfl
  have hv : ∃ vs1 vsp, p' = some ⟨X.E0.A 103, 0, none⟩ ∧ X.w.heap[X.E0.A 103]? = some (.cells (vs1 ++ vsp).toArray 23 (0, 0)) ∧ vs1.length = 6 ∧ RL (ownS X.E0 X.o (insB2 l x)) X.w vs1 (rws [x]).flatten ∧ X.E0.nl 103 = false := by
    rcases b3 with ⟨_, h, _⟩ | ⟨h0, vs1, sp, m, n', c', h1, h2, h3, h4, _, _, h7, _⟩
    · cases h
    · rw [hsz] at h3
      cases h3
      rw [v3] at h4
      cases h4
      exact ⟨vs1, sp, rfl, h1, by omega, h2.unmap, h0⟩
  obtain ⟨vs1, vsp, rfl, hvb, hvl, hvr, hn3⟩ := hv
  have ho : ∃ cs, X.w.ownsRow 0 23 6 (.slice p l.length c) l.length cs ∧ RL (ownS X.E0 X.o (insB2 l x)) X.w cs (rws l).flatten ∧ (∀ g, (Value.slice p l.length c).ownBlock = some g → X.E0.nl 101 = false ∧ X.E0.A 101 = g) := by
    rcases b1 with ⟨h0, h1, h2⟩ | ⟨h0, vs, sp, m, n', c', h1, h2, h3, h4, h5, h6, h7, h8⟩
    · rw [v1] at h2
      simp only [Value.slice.injEq] at h2
      obtain ⟨rfl, e, rfl⟩ := h2
      have hl0 : l = [] := List.length_eq_zero_iff.1 e
      subst hl0
      exact ⟨[], ⟨rfl, .inl ⟨rfl, rfl⟩⟩, .nil, fun g hg => by cases hg⟩
    · rw [v1] at h4
      simp only [Value.slice.injEq] at h4
      obtain ⟨rfl, rfl, rfl⟩ := h4
      rw [hsz] at h3
      cases h3
      refine ⟨vs, ⟨h7, .inr ⟨X.E0.A 101, c, (vs ++ sp).toArray, rfl, Nat.zero_le _, h1, h5, h6, by simpa using h8, ?_⟩⟩, h2.unmap, fun g hg => ⟨h0, by simpa [Value.ownBlock] using hg⟩⟩
      rw [← h7]
      simp
  obtain ⟨cs, hown, hcr, hblk⟩ := ho
  have hne : (Value.slice p l.length c).ownBlock ≠ some (X.E0.A 103) := fun e => by
    obtain ⟨e1, e2⟩ := hblk _ e
    have := hb.nd 101 103 ⟨⟨_, rfl⟩, e1⟩ ⟨⟨_, rfl⟩, hn3⟩ e2
    cases this
  refine (ins_any X.w p l.length c i (X.E0.A 103) vc cs vs1 vsp _ hl hi hown hvl hvb hne (hcr.one (rws_flat_cell l)) (hvr.one (rws_flat_cell [x]))).mono ?_
  rintro e w' ⟨v', rfl, g1, g2, g3⟩
  have hlen : l.length + 1 = (rws (insAt l i x)).length := by rw [rws_len]; simp [insAt]; omega
  have hcl := hown.1
  have hfl : (rws l).flatten.take (i * 6) ++ ((rws [x]).flatten ++ (rws l).flatten.drop (i * 6)) = (rws (insAt l i x)).flatten := by
    rw [rws_flat_take, rws_flat_drop]
    simp [insAt, rws]
  have hA : ∀ g, v'.ownBlock = some g → X.w.heap.size ≤ g ∨ (X.E0.nl 101 = false ∧ g = X.E0.A 101) := fun g hg => by
    rcases g3 with h | h
    · rw [hg] at h
      obtain ⟨h1, h2⟩ := hblk g h.symm
      exact .inr ⟨h1, h2.symm⟩
    · rw [hg] at h
      cases h
      exact .inl (Nat.le_refl _)
  obtain ⟨p2, c2, rfl⟩ : ∃ p2 c2, v' = .slice p2 (l.length + 1) c2 := by
    rcases g1.2 with ⟨_, h2⟩ | ⟨g, cap, cur, h1, _⟩
    · omega
    · exact ⟨_, _, h1⟩
  let E' : Env := ⟨fun _ => ((Value.slice p2 (l.length + 1) c2).ownBlock).getD 0, fun _ => .slice p2 (l.length + 1) c2, fun _ => ((Value.slice p2 (l.length + 1) c2).ownBlock).isNone⟩
  let bs' : Bs := [(101, some (23, (rws (insAt l i x)).flatten.map .d)), (103, none)]
  have hlv : ∀ b, live E' bs' b → b = 101 ∧ ∃ g, (Value.slice p2 (l.length + 1) c2).ownBlock = some g ∧ E'.A b = g := fun b ⟨⟨en, h1⟩, h2⟩ => by
    have hb1 : b = 101 := by
      simp only [bs', lk_cons] at h1
      split at h1
      · rename_i he; exact he.symm
      · split at h1
        · cases h1
        · simp [lk] at h1
    refine ⟨hb1, ?_⟩
    simp only [E'] at h2 ⊢
    cases hq : (Value.slice p2 (l.length + 1) c2).ownBlock with
    | none => rw [hq] at h2; cases h2
    | some g => exact ⟨g, rfl, rfl⟩
  have hm : ∀ g, (Value.slice p l.length c).ownBlock = some g → g < X.w.heap.size ∧ X.m g := fun g hg => by
    obtain ⟨e1, e2⟩ := hblk g hg
    have hl1 : live X.E0 (insB2 l x) 101 := ⟨⟨_, rfl⟩, e1⟩
    obtain ⟨T, cs', hB⟩ := hb.blkOf hl1
    rw [e2] at hB
    have := hb.lo 101 hl1
    rw [e2] at this
    have hlt := hB.lt
    exact ⟨hlt, this.resolve_left (Nat.not_le.2 hlt)⟩
  have k : Keeps (ownS X.E0 X.o (insB2 l x)) (ownS E' X.o bs') X.w w' := .of (fun r hr hno => g2.block r hr (fun e => hno (.inr ⟨101, ⟨⟨_, rfl⟩, (hblk r e.symm).1⟩, (hblk r e.symm).2⟩))) g2.size (fun r hr ho => by
    rcases ho with ho | ⟨b, hb1, rfl⟩
    · exact .inl ho
    · obtain ⟨rfl, g, e1, e2⟩ := hlv b hb1
      rw [e2] at hr ⊢
      rcases hA g e1 with h | ⟨h, rfl⟩
      · omega
      · exact .inr ⟨101, ⟨⟨_, rfl⟩, h⟩, rfl⟩)
  have hrl : RL (ownS E' X.o bs') w' (cs.take (i * 6) ++ (vs1 ++ cs.drop (i * 6))) (rws (insAt l i x)).flatten := by
    rw [← hfl]
    exact ((hcr.take _).app (hvr.app (hcr.drop _))).keeps k
  rw [← hlen]
  refine ⟨_, E', rfl, ⟨⟨g2.os, g2.tape, g2.output, g2.size, fun r hr hnm => g2.block r hr (fun e => hnm (hm r e.symm).2)⟩, hb.o0, ?_, fun b T cs' hbk => ?_, fun b hb1 => ?_, fun b b' h1 h2 _ => by rw [(hlv b h1).1, (hlv b' h2).1]⟩, ?_⟩
  · rw [hk, kns_eq (l := [101, 103]) (ks := []) rfl (by decide)]
    exact EnK.nil
  · have hb1 : b = 101 ∧ T = 23 ∧ cs' = (rws (insAt l i x)).flatten.map .d := by
      simp only [lk_cons] at hbk
      split at hbk
      · rename_i he
        cases hbk
        exact ⟨he.symm, rfl, rfl⟩
      · split at hbk
        · cases hbk
        · simp [lk] at hbk
    obtain ⟨rfl, rfl, rfl⟩ := hb1
    rcases g1.2 with ⟨_, h2⟩ | ⟨g, cap, cur, h1, h2, h3, h4, h5, h6, h7⟩
    · omega
    · cases h1
      refine .inr ⟨rfl, _, cur.toList.drop ((l.length + 1) * 6), 6, l.length + 1, c2, ?_, RAL.map hrl, hsz, rfl, h4, h5, g1.1, ?_⟩
      · rw [← h7, List.take_append_drop]
        exact h3
      · rw [← h7, List.take_append_drop]
        simpa using h6
  · obtain ⟨rfl, g, e1, e2⟩ := hlv b hb1
    rw [e2]
    rcases hA g e1 with h | ⟨h, rfl⟩
    · exact .inl h
    · exact hb.lo 101 ⟨⟨_, rfl⟩, h⟩
  · exact .o ⟨_, rfl⟩ rfl

end Go.Proofs.Ytmajkjkakciaiaa
