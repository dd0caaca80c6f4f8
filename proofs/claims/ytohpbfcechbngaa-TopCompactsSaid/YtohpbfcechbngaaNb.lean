/- slices.Insert at a row of regions: there is room. -/
import Derived.Test.YtohpbfcechbngaaNa
import Derived.Shelf.Spec.SlicesInsert
import Derived.Lib.AppendZerosOnto
import Derived.Laws.NewBlocks
import Derived.Laws.CopyRow
set_option linter.unusedSimpArgs false
set_option linter.unusedVariables false
namespace Go.Proofs.Ytohpbfcechbngaa
open Go.RowKit Go.Lib

theorem run_copy_rowKI {P : Program} (w : World) (dT sT ty elem : TypeId) (k g o dLen dCap : Nat) (a : Addr) (sLen sCap : Nat) (cur : Array Value) (t : TypeId) (cs : List Value)
    (hu : P.underlying dT = some (.slice elem)) (hs : (P.info? elem).map (·.size) = some k)
    (hg : w.heap[g]? = some (.cells cur t (0, 0))) (hn : cs.length = Nat.min sLen dLen * k)
    (hsrc : ∀ j v, cs[j]? = some v → w.cell? (a.add j) = some v) (hfit : o + cs.length ≤ cur.size) (h1 : ∀ v ∈ cs, v.oneCell' = true) :
    (Builtin.copy_ #[dT, sT] ty #[.slice (some ⟨g, o, none⟩) dLen dCap, .slice (some a) sLen sCap]).run P w =
      .ok (goInt (Nat.min sLen dLen)) (w.setRow g (cur.toList.take o ++ cs ++ cur.toList.drop (o + cs.length)).toArray) := by
  have hl := run_loadCells_list (P := P) w a cs hsrc
  have hst := run_storeCells_at P g o t cs 0 cur w hg (by simpa using hfit) h1
  cases hq : P.info? elem with
  | none => simp [hq] at hs
  | some i =>
    have hi : i.size = k := by simpa [hq] using hs
    simp [Builtin.copy_, run_underlying hu, Builtin.lenOf, Builtin.firstCells, sizeOf, typeInfo, hq, hi, ← hn, hl, hst]
theorem cell_rowI {w : World} {b : Nat} {L : List Value} {t : TypeId} (h : w.heap[b]? = some (.cells L.toArray t (0, 0))) (j : Nat) : w.cell? ⟨b, j, none⟩ = L[j]? := by
  simp [World.cell?, h]

set_option maxHeartbeats 4000000 in
set_option maxRecDepth 100000 in
theorem ins_shiftI (w : World) (b n c i vb vc : Nat) (cs sp vs vsp : List Value) (T T' : TypeId) (hi : i < n) (hroom : n + 1 ≤ c) (hn : n ≤ 90000) (hcl : cs.length = n * 1) (hvl : vs.length = 1) (hbl : (cs ++ sp).length = c * 1)
    (hg : w.heap[b]? = some (.cells (cs ++ sp).toArray T (0, 0))) (hv : w.heap[vb]? = some (.cells (vs ++ vsp).toArray T' (0, 0))) (hvb : vb ≠ b) (h1c : ∀ v ∈ cs, v.oneCell' = true) (h1v : ∀ v ∈ vs, v.oneCell' = true) :
    Calls Try.prog 18 #[.slice (some ⟨b, 0, none⟩) n c, .int .i64 i, .slice (some ⟨vb, 0, none⟩) 1 vc] w fun e w' =>
      e = .returned (.slice (some ⟨b, 0, none⟩) (n + 1) c) ∧ w' = w.drew.setRow b (cs.take (i * 1) ++ (vs ++ (cs.drop (i * 1) ++ sp.drop 1))).toArray := by
  have hz2 : ¬ ((i : Int) = (n : Int)) := by omega
  have hb1 : (0 : Int) ≤ (i : Int) + 1 := by omega
  have hin : i ≤ n := by omega
  have htn : ((i : Int) + 1).toNat = i + 1 := by omega
  have hb2 : ¬ (c = i + 1) := by omega
  have hb3 : (i : Int) ≤ (n : Int) + 1 := by omega
  have hb4 : ¬ (c = i) := by omega
  have hb5 : ¬ ((c : Int) < (n : Int) + 1) := by omega
  have hov : ∀ lb cb, (callFunc 33 #[.slice (some ⟨vb, 0, none⟩) 1 vc, .slice (some ⟨b, (i + 1) * 1, none⟩) lb cb]).run Try.prog w = .ok (.value (.bool false)) w := fun lb cb => by
    rw [run_callFunc_extern Try.func33 (by kernel_rfl) (by kernel_rfl) (by kernel_rfl) (e := Extern.SlicesOverlaps.overlaps #[24, 24] #[4]) (by kernel_rfl),
      Lib.run_overlaps_apart w 24 4 3 Try.underlying24 1 (by intro w; rfl) ⟨vb, 0, none⟩ ⟨b, (i + 1) * 1, none⟩ 1 vc lb cb hvb T' T (vs ++ vsp).length (cs ++ sp).length (by simp [World.shape?, hv]) (by simp [World.shape?, hg]) (by omega) (by simp [World.frozen?, hv]) (by simp [World.frozen?, hv])]
    rfl
  obtain ⟨L1, hL1⟩ : ∃ L1, Hid (L1 = (cs ++ sp).take ((i + 1) * 1) ++ cs.drop (i * 1) ++ (cs ++ sp).drop ((i + 1) * 1 + (cs.drop (i * 1)).length)) := ⟨_, rfl⟩
  have hdl : (cs.drop (i * 1)).length = (n - i) * 1 := by rw [List.length_drop, hcl, Nat.sub_mul]
  have hcp1 : ∀ ty dl dc sl sc, Nat.min sl dl = n - i → (Builtin.copy_ #[24, 24] ty #[.slice (some ⟨b, (i + 1) * 1, none⟩) dl dc, .slice (some ⟨b, i * 1, none⟩) sl sc]).run Try.prog w.drew = .ok (goInt (n - i : Nat)) (w.drew.setRow b L1.toArray) := fun ty dl dc sl sc hm => by
    have h := run_copy_rowKI (P := Try.prog) w.drew 24 24 ty 3 1 b ((i + 1) * 1) dl dc ⟨b, i * 1, none⟩ sl sc (cs ++ sp).toArray T (cs.drop (i * 1)) Try.underlying24 (by rfl) (by exact hg) (by rw [hm, hdl]) (fun j v hj => by
      rw [Addr.add_lit, show w.drew.cell? ⟨b, i * 1 + j, none⟩ = w.cell? ⟨b, i * 1 + j, none⟩ from rfl, cell_rowI hg, List.getElem?_append_left (by have := (List.getElem?_eq_some_iff.1 hj).1; rw [List.length_drop] at this; omega), ← List.getElem?_drop, hj]) (by simp only [List.size_toArray, hbl, hdl, ← Nat.add_mul]; exact Nat.mul_le_mul_right _ (by omega)) (fun v hv => h1c v (List.mem_of_mem_drop hv))
    rw [hm] at h
    rw [hL1.out]
    exact h
  have hxl : ((cs ++ sp).take ((i + 1) * 1)).length = (i + 1) * 1 := by rw [List.length_take, hbl]; exact Nat.min_eq_left (Nat.mul_le_mul_right _ (by omega))
  have hY : (cs ++ sp).drop ((i + 1) * 1 + (cs.drop (i * 1)).length) = sp.drop 1 := by
    rw [hdl, show (i + 1) * 1 + (n - i) * 1 = cs.length + 1 by rw [hcl, ← Nat.add_mul]; omega, ← List.drop_drop, List.drop_left]
  have hL1l : L1.length = c * 1 := by
    have e1 : n * 1 + sp.length = c * 1 := by rw [← hbl, List.length_append, hcl]
    rw [hL1.out, hY, List.length_append, List.length_append, hxl, hdl, List.length_drop, Nat.sub_mul]
    omega
  have hL2 : L1.take (i * 1) ++ vs ++ L1.drop (i * 1 + vs.length) = cs.take (i * 1) ++ (vs ++ (cs.drop (i * 1) ++ sp.drop 1)) := by
    have e1 : L1.take (i * 1) = cs.take (i * 1) := by
      rw [hL1.out, List.append_assoc, List.take_append_of_le_length (by rw [hxl]; omega), List.take_take, Nat.min_eq_left (by omega), List.take_append_of_le_length (by rw [hcl]; omega)]
    have e2 : L1.drop (i * 1 + vs.length) = cs.drop (i * 1) ++ sp.drop 1 := by
      rw [hL1.out, hvl, hY, List.append_assoc, List.drop_append_of_le_length (by rw [hxl]; omega), List.drop_eq_nil_of_le (by rw [hxl]; omega), List.nil_append]
    rw [e1, e2, List.append_assoc]
  have hg1 : (w.drew.setRow b L1.toArray).heap[b]? = some (.cells L1.toArray T (0, 0)) := setRow_heap w.drew b _ _ T (0, 0) hg
  have hcp2 : ∀ ty dl dc, Nat.min 1 dl = 1 → (Builtin.copy_ #[24, 24] ty #[.slice (some ⟨b, i * 1, none⟩) dl dc, .slice (some ⟨vb, 0, none⟩) 1 vc]).run Try.prog (w.drew.setRow b L1.toArray) = .ok (goInt (1 : Nat)) (w.drew.setRow b (cs.take (i * 1) ++ (vs ++ (cs.drop (i * 1) ++ sp.drop 1))).toArray) := fun ty dl dc hm => by
    have h := run_copy_rowKI (P := Try.prog) (w.drew.setRow b L1.toArray) 24 24 ty 3 1 b (i * 1) dl dc ⟨vb, 0, none⟩ 1 vc L1.toArray T vs Try.underlying24 (by rfl) hg1 (by rw [hm, hvl]) (fun j v hj => by
      rw [Addr.add_lit, Nat.zero_add]
      have : (w.drew.setRow b L1.toArray).heap[vb]? = some (.cells (vs ++ vsp).toArray T' (0, 0)) := by rw [setRow_other w.drew b vb _ hvb]; exact hv
      rw [cell_rowI this, List.getElem?_append_left (List.getElem?_eq_some_iff.1 hj).1, hj]) (by simp only [List.size_toArray, hL1l, hvl]; omega) h1v
    rw [hm] at h
    rw [h, setRow_setRow]
    simp only [List.toList_toArray, hL2]
  have hmin2 : Nat.min 1 (n + 1 - i) = 1 := by simp only [Nat.min_def]; split <;> omega
  have hmin : Nat.min (n + 1 - i) (n + 1 - (i + 1)) = n - i := by simp only [Nat.min_def]; split <;> omega
  have mixed : Try.prog.follows Departure.mixedOrders = true := by rfl
  have hw1 : IntKind.i64.wrap ((i : Int) + 1) = (i : Int) + 1 := by rw [IntKind.wrap_i64]; omega
  have hin2 : (i : Int) ≤ (n : Int) := by omega
  simp only [Nat.mul_one] at hov hcp1 hcp2 ⊢
  go_enter Try.func18, Try.ntmps18
  go_upto_region 15 with (first | (simp only [hov]))
  go_region_law_o (refine step_copy_runI rfl _ _ 24 24 rfl (.slice (some ⟨b, i + 1, none⟩) (n + 1 - (i + 1)) (c - (i + 1))) (.slice (some ⟨b, i, none⟩) (n + 1 - i) (c - i)) (by simp [Act.eval, Act.put]) (by simp [Act.eval, Act.put]) (hcp1 _ _ _ _ _ hmin) ?_)
  clear hL2 hY hxl hL1
  go_upto_region 9999 with (first | (at_builtin; refine wpList_copy_runI _ rfl _ _ 24 24 rfl _ _ rfl rfl (hcp2 _ (n + 1 - i) (c - i) hmin2) ?_))
  all_goals trace_state
  all_goals go_ret
  all_goals exact ⟨rfl, rfl⟩

end Go.Proofs.Ytohpbfcechbngaa
