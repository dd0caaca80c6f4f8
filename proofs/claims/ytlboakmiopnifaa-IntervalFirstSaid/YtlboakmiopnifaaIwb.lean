/- Layer 02: the law's iv. -/
import Derived.Test.YtlboakmiopnifaaIwa
set_option linter.unusedSimpArgs false
set_option linter.unusedVariables false
namespace Go.Proofs.Ytlboakmiopnifaa
open Go.RowKit

/-- Intervals from pairs of ints. -/
def pairI : List Int → List (Int × Int)
  | p :: q :: r => (p, q) :: pairI r
  | _ => []
theorem pair_end {l : List Int} (h : l.length ≤ 1) : pairI l = [] := by
  cases l with
  | nil => rfl
  | cons p l => cases l with
    | nil => rfl
    | cons q l => simp at h
theorem pair_drop (l : List Int) (i : Nat) (hi : i + 1 < l.length) : pairI (l.drop i) = (l[i], l[i + 1]) :: pairI (l.drop (i + 2)) := by
  rw [List.drop_eq_getElem_cons (by omega : i < l.length), List.drop_eq_getElem_cons hi]
  rfl

set_option maxRecDepth 100000 in
set_option maxHeartbeats 4000000 in
theorem iv_any (l : List Int) (v : Value) (w : World) (hv : isSl w v 1 l.length (nF l)) (hl : l.length ≤ 1000) :
    Calls Try.prog 36 #[v] w fun e w' => ∃ r, e = .returned r ∧ w'.ownsRow w.heap.size 28 2 r (pairI l).length (ivF (pairI l)) ∧ Below w.heap.size w w' := by
  have HV : Hid (isSl w v 1 l.length (nF l)) := hv
  obtain ⟨pr, cr, rfl⟩ := sl_form hv
  obtain ⟨i0, hi0, hz0, hs0, hy0⟩ := infoIv_parts
  clear hv
  go_enter Try.func36, Try.ntmps36
  go_wp2_with fail
  go_loopw [3, 4] (fun vo vi wr => ∃ acc, ∃ i : Nat, vi = .int .i64 i ∧ i ≤ l.length ∧ wr.ownsRow w.heap.size 28 2 vo acc.length (ivF acc) ∧ Below w.heap.size w wr ∧ pairI l = acc ++ pairI (l.drop i) ∧ acc.length ≤ i) (fun _ vi _ => l.length - (intOf vi).toNat)
  case atStart => exact ⟨[], 0, rfl, by omega, World.ownsRow_nil _ _ _ _, by (repeat' (first | (with_reducible exact Below.refl _ _) | (with_reducible assumption) | (with_reducible refine Below.alloc ?_ ?_ _) | (with_reducible refine Below.wext ?_ ?_ _ _) | (with_reducible refine Below.drew ?_) | (with_reducible refine Below.setCell ?_ ?_ _) | (with_reducible exact Nat.le_refl _) | (with_reducible refine Below.drewN' ?_ _) | (simp; omega) | (simp; done))), rfl, by simp⟩
  case round =>
    obtain ⟨acc, i, rfl, hi, hO, hW, hE, hN⟩ := hrel
    have HO : Hid (wr.ownsRow w.heap.size 28 2 u3 acc.length (ivF acc)) := hO
    have HW : Hid (Below w.heap.size w wr) := hW
    have HE : Hid (pairI l = acc ++ pairI (l.drop i)) := hE
    clear hO hW hE
    have hs : w.heap.size ≤ wr.heap.size := HW.out.size
    have hiI : IntKind.i64.wrap ((i : Int) + 1) = (i : Int) + 1 := IntWalk.i64_in _ (by constructor <;> omega)
    by_cases hlt : i + 1 < l.length
    · obtain ⟨b', o, c', hv', g1, g2, g3, g4⟩ := HV.out.cell (by omega)
      obtain ⟨rfl, rfl⟩ : pr = some ⟨b', o, none⟩ ∧ cr = c' := by cases hv'; exact ⟨rfl, rfl⟩
      have a0 := n_cell g4 i (by omega)
      have a1 := n_cell g4 (i + 1) hlt
      rw [pair_drop l i hlt] at HE
      obtain ⟨p, hp⟩ : ∃ p, l[i]'(by omega) = p := ⟨_, rfl⟩
      obtain ⟨q, hq⟩ : ∃ q, l[i + 1] = q := ⟨_, rfl⟩
      rw [hp] at a0 HE
      rw [hq] at a1 HE
      replace HE : Hid _ := HE
      clear hp hq
      have zb0 : b' < w.heap.size := g3
      have zb : LtD b' wr.heap.size := Nat.lt_of_lt_of_le g3 HW.out.size
      have k0 : wr.cell? ⟨b', o + i, none⟩ = some (.int .i64 p) := (HW.out.cell (p := ⟨b', o + i, none⟩) g3).trans a0
      have k1 : wr.cell? ⟨b', o + (i + 1), none⟩ = some (.int .i64 q) := (HW.out.cell (p := ⟨b', o + (i + 1), none⟩) g3).trans a1
      have hltI : (i : Int) + 1 < (l.length : Int) := by omega
      have hiP : i < l.length := by omega
      have h0I : (0 : Int) ≤ (i : Int) + 1 := by omega
      have htI : ((i : Int) + 1).toNat = i + 1 := by omega
      have c0 : Hid (w.cell? ⟨b', o + i, none⟩ = some (.int .i64 p)) := a0
      have c1 : Hid (w.cell? ⟨b', o + (i + 1), none⟩ = some (.int .i64 q)) := a1
      clear hv' g1 g2 g3 g4 a0 a1
      go_upto_region 5 with fail
      go_region_held3 (fun w' => w'.cell? ⟨b', o + i, none⟩ = some (.int .i64 p) ∧ w'.cell? ⟨b', o + (i + 1), none⟩ = some (.int .i64 q)) (first | go_keep | (exact ⟨(HWA.out.cell (p := ⟨b', o + i, none⟩) zb0).trans c0.out, (HWA.out.cell (p := ⟨b', o + (i + 1), none⟩) zb0).trans c1.out⟩)) ((rw [if_pos (by rfl)]; refine wp_append_own _ _ _ 22 rfl w.heap.size 28 i0 (.agg #[.int .i64 0, .int .i64 0]) 2 16 Try.underlying22 hi0 hz0 hs0 hy0 rfl (by decide) _ _ _ rfl (own_ext HO.out (by (exact Ext.of_below (by (repeat' (first | (with_reducible exact Below.refl _ _) | (with_reducible assumption) | (with_reducible refine Below.alloc ?_ ?_ _) | (with_reducible refine Below.wext ?_ ?_ _ _) | (with_reducible refine Below.drew ?_) | (with_reducible refine Below.setCell ?_ ?_ _) | (with_reducible exact Nat.le_refl _) | (with_reducible refine Below.drewN' ?_ _) | (simp; omega) | (simp; done))))))) ⟨_, 0, none⟩ 1 1 [.int .i64 p, .int .i64 q] rfl rfl (cells_new2 _ _ _ _ (by simp)) (by simp [Value.oneCell']) (by unfold maxLen; omega) (by omega) (by simp; omega) ?_; intro vA wA hownA hgrA _; replace hownA : Hid _ := hownA; have HWA : Hid (Below w.heap.size w wA) := (HW.out.trans (below_le hs (Ext.below (by (exact Ext.of_below (by (repeat' (first | (with_reducible exact Below.refl _ _) | (with_reducible assumption) | (with_reducible refine Below.alloc ?_ ?_ _) | (with_reducible refine Below.wext ?_ ?_ _ _) | (with_reducible refine Below.drew ?_) | (with_reducible refine Below.setCell ?_ ?_ _) | (with_reducible exact Nat.le_refl _) | (with_reducible refine Below.drewN' ?_ _) | (simp; omega) | (simp; done))))))))).trans (below_of_grown hgrA (by simp; omega) (fun k hk => (World.ownsRow.lt HO.out k hk).1)); clear hgrA))
      all_goals go_wp2_with fail
      all_goals go_roundw
      case rel =>
        refine ⟨acc ++ [(p, q)], i + 2, by go_num, by omega, own_ext (app_own hownA.out) (by (exact Ext.of_below (by (repeat' (first | (with_reducible exact Below.refl _ _) | (with_reducible assumption) | (with_reducible refine Below.alloc ?_ ?_ _) | (with_reducible refine Below.wext ?_ ?_ _ _) | (with_reducible refine Below.drew ?_) | (with_reducible refine Below.setCell ?_ ?_ _) | (with_reducible exact Nat.le_refl _) | (with_reducible refine Below.drewN' ?_ _) | (simp; omega) | (simp; done)))))), HWA.out.trans (below_le HWA.out.size (Ext.below (by (exact Ext.of_below (by (repeat' (first | (with_reducible exact Below.refl _ _) | (with_reducible assumption) | (with_reducible refine Below.alloc ?_ ?_ _) | (with_reducible refine Below.wext ?_ ?_ _ _) | (with_reducible refine Below.drew ?_) | (with_reducible refine Below.setCell ?_ ?_ _) | (with_reducible exact Nat.le_refl _) | (with_reducible refine Below.drewN' ?_ _) | (simp; omega) | (simp; done)))))))), ?_, by simp; omega⟩
        rw [HE.out]; simp
      case measure => simp [intOf]; omega
    · have HE2 : Hid (pairI l = acc) := by
        have e := HE.out
        rw [pair_end (l := l.drop i) (by simp; omega), List.append_nil] at e
        exact e
      go_wp2_with fail
      go_ret
      rw [HE2.out]
      exact ⟨_, rfl, own_ext HO.out (by (exact Ext.of_below (by (repeat' (first | (with_reducible exact Below.refl _ _) | (with_reducible assumption) | (with_reducible refine Below.alloc ?_ ?_ _) | (with_reducible refine Below.wext ?_ ?_ _ _) | (with_reducible refine Below.drew ?_) | (with_reducible refine Below.setCell ?_ ?_ _) | (with_reducible exact Nat.le_refl _) | (with_reducible refine Below.drewN' ?_ _) | (simp; omega) | (simp; done)))))), HW.out.trans (below_le hs (Ext.below (by (exact Ext.of_below (by (repeat' (first | (with_reducible exact Below.refl _ _) | (with_reducible assumption) | (with_reducible refine Below.alloc ?_ ?_ _) | (with_reducible refine Below.wext ?_ ?_ _ _) | (with_reducible refine Below.drew ?_) | (with_reducible refine Below.setCell ?_ ?_ _) | (with_reducible exact Nat.le_refl _) | (with_reducible refine Below.drewN' ?_ _) | (simp; omega) | (simp; done))))))))⟩

/-- A new row of ints. -/
theorem isSl_newN (W : World) (b n : Nat) (l : List Int) (T : TypeId) (hb : b = W.heap.size) (hn : n = l.length) (hm : n ≤ maxLen) : isSl (W.alloc (.cells (nF l).toArray T)) (.slice (some ⟨b, 0, none⟩) n n) 1 l.length (nF l) := by
  subst hb hn
  refine ⟨by simp [nF], .inr ⟨_, _, _, rfl, Nat.le_refl _, hm, by simp, fun j hj => ?_⟩⟩
  rw [Nat.zero_add, World.cell?_alloc_new]
  simp

end Go.Proofs.Ytlboakmiopnifaa
