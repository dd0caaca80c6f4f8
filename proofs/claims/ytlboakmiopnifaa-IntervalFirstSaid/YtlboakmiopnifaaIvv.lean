/- Layer 02: the reference's ends. -/
import Derived.Test.YtlboakmiopnifaaIvu
import Derived.Deep.RegionHeld3
set_option linter.unusedSimpArgs false
set_option linter.unusedVariables false
namespace Go.Proofs.Ytlboakmiopnifaa
open Go.RowKit

theorem putEnds_cons (L : List Int) (x : Int × Int) (l : List (Int × Int)) : putEnds L (x :: l) = putEnds (putN x.2 (putN x.1 L)) l := rfl
theorem putEnds_nil (L : List Int) : putEnds L [] = L := rfl
theorem isSl_own {w w' : World} {base : Nat} {e : TypeId} {m n : Nat} {v : Value} {xs : List Value} (h : w.ownsRow base e m v n xs) (hE : Ext w w') : isSl w' v m n xs := isSl_of_own (own_ext h hE)

set_option maxRecDepth 100000 in
set_option maxHeartbeats 4000000 in
theorem ends_any (a b : List (Int × Int)) (v u : Value) (w : World) (hv : isSl w v 2 a.length (ivF a)) (hu : isSl w u 2 b.length (ivF b)) (hla : a.length ≤ 200) (hlb : b.length ≤ 200) :
    Calls Try.prog 48 #[v, u] w fun e w' => ∃ r, e = .returned r ∧ w'.ownsRow w.heap.size 3 1 r (endsI a b).length (nF (endsI a b)) ∧ (endsI a b).length ≤ 800 ∧ Below w.heap.size w w' := by
  have HV : Hid (isSl w v 2 a.length (ivF a)) := hv
  have HU : Hid (isSl w u 2 b.length (ivF b)) := hu
  obtain ⟨pv, cv, rfl⟩ := sl_form hv
  obtain ⟨pu, cu, rfl⟩ := sl_form hu
  clear hv hu
  go_enter Try.func48, Try.ntmps48
  go_wp2_with fail
  go_loopw [5, 6] (fun vo vi wr => ∃ L, ∃ k : Nat, vi = .int .i64 k ∧ k ≤ a.length ∧ wr.ownsRow w.heap.size 3 1 vo L.length (nF L) ∧ Below w.heap.size w wr ∧ putEnds [] a = putEnds L (a.drop k) ∧ L.length ≤ 2 * k) (fun _ vi _ => a.length - (intOf vi).toNat)
  case atStart => exact ⟨[], 0, rfl, by omega, World.ownsRow_nil _ _ _ _, by (repeat' (first | (with_reducible exact Below.refl _ _) | (with_reducible assumption) | (with_reducible refine Below.alloc ?_ ?_ _) | (with_reducible refine Below.wext ?_ ?_ _ _) | (with_reducible refine Below.drew ?_) | (with_reducible refine Below.setCell ?_ ?_ _) | (with_reducible exact Nat.le_refl _) | (with_reducible refine Below.drewN' ?_ _) | (simp; omega) | (simp; done))), rfl, by simp⟩
  case round =>
    obtain ⟨W1, rfl⟩ : ∃ X, X = wr := ⟨_, rfl⟩
    obtain ⟨L, k, rfl, hk, hO, hW, hE, hN⟩ := hrel
    have HO : Hid (W1.ownsRow w.heap.size 3 1 u5 L.length (nF L)) := hO
    have HW : Hid (Below w.heap.size w W1) := hW
    have HE : Hid (putEnds [] a = putEnds L (a.drop k)) := hE
    clear hO hW hE
    have hs : w.heap.size ≤ W1.heap.size := HW.out.size
    by_cases hlt : k < a.length
    · obtain ⟨ba, oa, c', hv', g1, g2, g3, g4⟩ := HV.out.cell (by omega)
      obtain ⟨rfl, rfl⟩ : pv = some ⟨ba, oa, none⟩ ∧ cv = c' := by cases hv'; exact ⟨rfl, rfl⟩
      obtain ⟨a0, a1⟩ := iv_cells g4 k hlt
      obtain ⟨x1, hx1⟩ : ∃ x1, x1 = a[k].1 := ⟨_, rfl⟩
      obtain ⟨x2, hx2⟩ : ∃ x2, x2 = a[k].2 := ⟨_, rfl⟩
      rw [← hx1] at a0
      rw [← hx2] at a1
      have HX : Hid (a[k] = (x1, x2)) := by show a[k] = (x1, x2); rw [hx1, hx2]
      clear hx1 hx2
      have zb0 : ba < w.heap.size := g3
      have zb : LtD ba W1.heap.size := Nat.lt_of_lt_of_le g3 HW.out.size
      have c0 : Hid (w.cell? ⟨ba, oa + k * 2, none⟩ = some (.int .i64 x1)) := a0
      have c1 : Hid (w.cell? ⟨ba, oa + k * 2 + 1, none⟩ = some (.int .i64 x2)) := a1
      have k0 : W1.cell? ⟨ba, oa + k * 2, none⟩ = some (.int .i64 x1) := (HW.out.cell (p := ⟨ba, oa + k * 2, none⟩) g3).trans a0
      have k1 : W1.cell? ⟨ba, oa + k * 2 + 1, none⟩ = some (.int .i64 x2) := (HW.out.cell (p := ⟨ba, oa + k * 2 + 1, none⟩) g3).trans a1
      clear hv' g1 g2 g3 g4 a0 a1
      have hL : L.length ≤ 1000 := by omega
      have hL2 : (putN x1 L).length ≤ 1000 := by have := putN_len x1 L; omega
      go_upto_region 5 with fail
      go_region_held3 (fun w' => w'.cell? ⟨ba, oa + k * 2, none⟩ = some (.int .i64 x1) ∧ w'.cell? ⟨ba, oa + k * 2 + 1, none⟩ = some (.int .i64 x2)) (first | go_keep | (exact ⟨(HW2.out.cell (p := ⟨ba, oa + k * 2, none⟩) zb0).trans c0.out, (HW2.out.cell (p := ⟨ba, oa + k * 2 + 1, none⟩) zb0).trans c1.out⟩) | (exact ⟨(HW1.out.cell (p := ⟨ba, oa + k * 2, none⟩) zb0).trans c0.out, (HW1.out.cell (p := ⟨ba, oa + k * 2 + 1, none⟩) zb0).trans c1.out⟩)) (first | (go_at_call 50; refine (rput_some (putN x1 L) x2 r1 _ (isSl_own hown1 (by (exact Ext.of_below (by (repeat' (first | (with_reducible exact Below.refl _ _) | (with_reducible assumption) | (with_reducible refine Below.alloc ?_ ?_ _) | (with_reducible refine Below.wext ?_ ?_ _ _) | (with_reducible refine Below.drew ?_) | (with_reducible refine Below.setCell ?_ ?_ _) | (with_reducible exact Nat.le_refl _) | (with_reducible refine Below.drewN' ?_ _) | (simp; omega) | (simp; done))))))) hL2).mono ?_; intro e w2 hp; obtain ⟨r2, hr, hown2, hbel2⟩ := hp; subst hr; have HW2 : Hid (Below w.heap.size w w2) := (HW1.out.trans (below_le HW1.out.size (Ext.below (by (exact Ext.of_below (by (repeat' (first | (with_reducible exact Below.refl _ _) | (with_reducible assumption) | (with_reducible refine Below.alloc ?_ ?_ _) | (with_reducible refine Below.wext ?_ ?_ _ _) | (with_reducible refine Below.drew ?_) | (with_reducible refine Below.setCell ?_ ?_ _) | (with_reducible exact Nat.le_refl _) | (with_reducible refine Below.drewN' ?_ _) | (simp; omega) | (simp; done))))))))).trans (below_le (by simpa using HW1.out.size) hbel2); dsimp only) | (go_at_call 50; refine (rput_some L x1 u5 _ (isSl_own HO.out (by (exact Ext.of_below (by (repeat' (first | (with_reducible exact Below.refl _ _) | (with_reducible assumption) | (with_reducible refine Below.alloc ?_ ?_ _) | (with_reducible refine Below.wext ?_ ?_ _ _) | (with_reducible refine Below.drew ?_) | (with_reducible refine Below.setCell ?_ ?_ _) | (with_reducible exact Nat.le_refl _) | (with_reducible refine Below.drewN' ?_ _) | (simp; omega) | (simp; done))))))) hL).mono ?_; intro e w1 hp; obtain ⟨r1, hr, hown1, hbel1⟩ := hp; subst hr; have HW1 : Hid (Below w.heap.size w w1) := (HW.out.trans (below_le hs (Ext.below (by (exact Ext.of_below (by (repeat' (first | (with_reducible exact Below.refl _ _) | (with_reducible assumption) | (with_reducible refine Below.alloc ?_ ?_ _) | (with_reducible refine Below.wext ?_ ?_ _ _) | (with_reducible refine Below.drew ?_) | (with_reducible refine Below.setCell ?_ ?_ _) | (with_reducible exact Nat.le_refl _) | (with_reducible refine Below.drewN' ?_ _) | (simp; omega) | (simp; done))))))))).trans (below_le (by simpa using hs) hbel1); dsimp only))
      go_wp2_with fail
      go_roundw
      case rel =>
        refine ⟨putN x2 (putN x1 L), k + 1, by go_num, by omega, ?_, ?_, ?_, ?_⟩
        · exact own_mono (own_ext hown2 (by (exact Ext.of_below (by (repeat' (first | (with_reducible exact Below.refl _ _) | (with_reducible assumption) | (with_reducible refine Below.alloc ?_ ?_ _) | (with_reducible refine Below.wext ?_ ?_ _ _) | (with_reducible refine Below.drew ?_) | (with_reducible refine Below.setCell ?_ ?_ _) | (with_reducible exact Nat.le_refl _) | (with_reducible refine Below.drewN' ?_ _) | (simp; omega) | (simp; done))))))) (by have := hbel1.size; have := hbel2.size; first | (simp at *; omega) | omega)
        · first | exact HW2.out | exact HW2.out.drew
        · have e := HE.out
          rw [List.drop_eq_getElem_cons hlt, HX.out, putEnds_cons] at e
          exact e
        · have := putN_len x1 L
          have := putN_len x2 (putN x1 L)
          omega
      case measure => simp [intOf]; omega
    · have HE1 : Hid (putEnds [] a = L) := by
        have e := HE.out
        rw [List.drop_eq_nil_of_le (by omega)] at e
        exact e
      have hNa : L.length ≤ 2 * a.length := by omega
      go_upto_region 7 with fail
      clear HE hN hk hlt
      go_loopw [5, 7] (fun vo vi wr => ∃ M, ∃ k : Nat, vi = .int .i64 k ∧ k ≤ b.length ∧ wr.ownsRow w.heap.size 3 1 vo M.length (nF M) ∧ Below w.heap.size w wr ∧ putEnds L b = putEnds M (b.drop k) ∧ M.length ≤ 2 * a.length + 2 * k) (fun _ vi _ => b.length - (intOf vi).toNat)
      case atStart => exact ⟨L, 0, rfl, by omega, own_ext HO.out (by (exact Ext.of_below (by (repeat' (first | (with_reducible exact Below.refl _ _) | (with_reducible assumption) | (with_reducible refine Below.alloc ?_ ?_ _) | (with_reducible refine Below.wext ?_ ?_ _ _) | (with_reducible refine Below.drew ?_) | (with_reducible refine Below.setCell ?_ ?_ _) | (with_reducible exact Nat.le_refl _) | (with_reducible refine Below.drewN' ?_ _) | (simp; omega) | (simp; done)))))), HW.out.trans (below_le hs (Ext.below (by (exact Ext.of_below (by (repeat' (first | (with_reducible exact Below.refl _ _) | (with_reducible assumption) | (with_reducible refine Below.alloc ?_ ?_ _) | (with_reducible refine Below.wext ?_ ?_ _ _) | (with_reducible refine Below.drew ?_) | (with_reducible refine Below.setCell ?_ ?_ _) | (with_reducible exact Nat.le_refl _) | (with_reducible refine Below.drewN' ?_ _) | (simp; omega) | (simp; done)))))))), rfl, by omega⟩
      case round =>
        obtain ⟨W2, rfl⟩ : ∃ X, X = wr := ⟨_, rfl⟩
        clear HO HW hs
        obtain ⟨M, k, rfl, hk, hO, hW, hE, hN⟩ := hrel
        have HO : Hid (W2.ownsRow w.heap.size 3 1 u5 M.length (nF M)) := hO
        have HW : Hid (Below w.heap.size w W2) := hW
        have HE : Hid (putEnds L b = putEnds M (b.drop k)) := hE
        clear hO hW hE
        have hs : w.heap.size ≤ W2.heap.size := HW.out.size
        by_cases hlt : k < b.length
        · obtain ⟨ba, oa, c', hv', g1, g2, g3, g4⟩ := HU.out.cell (by omega)
          obtain ⟨rfl, rfl⟩ : pu = some ⟨ba, oa, none⟩ ∧ cu = c' := by cases hv'; exact ⟨rfl, rfl⟩
          obtain ⟨a0, a1⟩ := iv_cells g4 k hlt
          obtain ⟨x1, hx1⟩ : ∃ x1, x1 = b[k].1 := ⟨_, rfl⟩
          obtain ⟨x2, hx2⟩ : ∃ x2, x2 = b[k].2 := ⟨_, rfl⟩
          rw [← hx1] at a0
          rw [← hx2] at a1
          have HX : Hid (b[k] = (x1, x2)) := by show b[k] = (x1, x2); rw [hx1, hx2]
          clear hx1 hx2
          have zb0 : ba < w.heap.size := g3
          have zb : LtD ba W2.heap.size := Nat.lt_of_lt_of_le g3 HW.out.size
          have c0 : Hid (w.cell? ⟨ba, oa + k * 2, none⟩ = some (.int .i64 x1)) := a0
          have c1 : Hid (w.cell? ⟨ba, oa + k * 2 + 1, none⟩ = some (.int .i64 x2)) := a1
          have k0 : W2.cell? ⟨ba, oa + k * 2, none⟩ = some (.int .i64 x1) := (HW.out.cell (p := ⟨ba, oa + k * 2, none⟩) g3).trans a0
          have k1 : W2.cell? ⟨ba, oa + k * 2 + 1, none⟩ = some (.int .i64 x2) := (HW.out.cell (p := ⟨ba, oa + k * 2 + 1, none⟩) g3).trans a1
          clear hv' g1 g2 g3 g4 a0 a1
          have hL : M.length ≤ 1000 := by omega
          have hL2 : (putN x1 M).length ≤ 1000 := by have := putN_len x1 M; omega
          go_upto_region 9 with fail
          go_region_held3 (fun w' => w'.cell? ⟨ba, oa + k * 2, none⟩ = some (.int .i64 x1) ∧ w'.cell? ⟨ba, oa + k * 2 + 1, none⟩ = some (.int .i64 x2)) (first | go_keep | (exact ⟨(HW2.out.cell (p := ⟨ba, oa + k * 2, none⟩) zb0).trans c0.out, (HW2.out.cell (p := ⟨ba, oa + k * 2 + 1, none⟩) zb0).trans c1.out⟩) | (exact ⟨(HW1.out.cell (p := ⟨ba, oa + k * 2, none⟩) zb0).trans c0.out, (HW1.out.cell (p := ⟨ba, oa + k * 2 + 1, none⟩) zb0).trans c1.out⟩)) (first | (go_at_call 50; refine (rput_some (putN x1 M) x2 r1 _ (isSl_own hown1 (by (exact Ext.of_below (by (repeat' (first | (with_reducible exact Below.refl _ _) | (with_reducible assumption) | (with_reducible refine Below.alloc ?_ ?_ _) | (with_reducible refine Below.wext ?_ ?_ _ _) | (with_reducible refine Below.drew ?_) | (with_reducible refine Below.setCell ?_ ?_ _) | (with_reducible exact Nat.le_refl _) | (with_reducible refine Below.drewN' ?_ _) | (simp; omega) | (simp; done))))))) hL2).mono ?_; intro e w2 hp; obtain ⟨r2, hr, hown2, hbel2⟩ := hp; subst hr; have HW2 : Hid (Below w.heap.size w w2) := (HW1.out.trans (below_le HW1.out.size (Ext.below (by (exact Ext.of_below (by (repeat' (first | (with_reducible exact Below.refl _ _) | (with_reducible assumption) | (with_reducible refine Below.alloc ?_ ?_ _) | (with_reducible refine Below.wext ?_ ?_ _ _) | (with_reducible refine Below.drew ?_) | (with_reducible refine Below.setCell ?_ ?_ _) | (with_reducible exact Nat.le_refl _) | (with_reducible refine Below.drewN' ?_ _) | (simp; omega) | (simp; done))))))))).trans (below_le (by simpa using HW1.out.size) hbel2); dsimp only) | (go_at_call 50; refine (rput_some M x1 u5 _ (isSl_own HO.out (by (exact Ext.of_below (by (repeat' (first | (with_reducible exact Below.refl _ _) | (with_reducible assumption) | (with_reducible refine Below.alloc ?_ ?_ _) | (with_reducible refine Below.wext ?_ ?_ _ _) | (with_reducible refine Below.drew ?_) | (with_reducible refine Below.setCell ?_ ?_ _) | (with_reducible exact Nat.le_refl _) | (with_reducible refine Below.drewN' ?_ _) | (simp; omega) | (simp; done))))))) hL).mono ?_; intro e w1 hp; obtain ⟨r1, hr, hown1, hbel1⟩ := hp; subst hr; have HW1 : Hid (Below w.heap.size w w1) := (HW.out.trans (below_le hs (Ext.below (by (exact Ext.of_below (by (repeat' (first | (with_reducible exact Below.refl _ _) | (with_reducible assumption) | (with_reducible refine Below.alloc ?_ ?_ _) | (with_reducible refine Below.wext ?_ ?_ _ _) | (with_reducible refine Below.drew ?_) | (with_reducible refine Below.setCell ?_ ?_ _) | (with_reducible exact Nat.le_refl _) | (with_reducible refine Below.drewN' ?_ _) | (simp; omega) | (simp; done))))))))).trans (below_le (by simpa using hs) hbel1); dsimp only))
          go_wp2_with fail
          go_roundw
          case rel =>
            refine ⟨putN x2 (putN x1 M), k + 1, by go_num, by omega, ?_, ?_, ?_, ?_⟩
            · exact own_mono (own_ext hown2 (by (exact Ext.of_below (by (repeat' (first | (with_reducible exact Below.refl _ _) | (with_reducible assumption) | (with_reducible refine Below.alloc ?_ ?_ _) | (with_reducible refine Below.wext ?_ ?_ _ _) | (with_reducible refine Below.drew ?_) | (with_reducible refine Below.setCell ?_ ?_ _) | (with_reducible exact Nat.le_refl _) | (with_reducible refine Below.drewN' ?_ _) | (simp; omega) | (simp; done))))))) (by have := hbel1.size; have := hbel2.size; first | (simp at *; omega) | omega)
            · first | exact HW2.out | exact HW2.out.drew
            · have e := HE.out
              rw [List.drop_eq_getElem_cons hlt, HX.out, putEnds_cons] at e
              exact e
            · have := putN_len x1 M
              have := putN_len x2 (putN x1 M)
              omega
          case measure => simp [intOf]; omega
        · have HE2 : Hid (endsI a b = M) := by
            have e := HE.out
            rw [List.drop_eq_nil_of_le (by omega), ← HE1.out] at e
            exact e
          have hM : M.length ≤ 800 := by omega
          go_wp2_with fail
          go_ret
          rw [HE2.out]
          exact ⟨_, rfl, own_ext HO.out (by (exact Ext.of_below (by (repeat' (first | (with_reducible exact Below.refl _ _) | (with_reducible assumption) | (with_reducible refine Below.alloc ?_ ?_ _) | (with_reducible refine Below.wext ?_ ?_ _ _) | (with_reducible refine Below.drew ?_) | (with_reducible refine Below.setCell ?_ ?_ _) | (with_reducible exact Nat.le_refl _) | (with_reducible refine Below.drewN' ?_ _) | (simp; omega) | (simp; done)))))), hM, HW.out.trans (below_le hs (Ext.below (by (exact Ext.of_below (by (repeat' (first | (with_reducible exact Below.refl _ _) | (with_reducible assumption) | (with_reducible refine Below.alloc ?_ ?_ _) | (with_reducible refine Below.wext ?_ ?_ _ _) | (with_reducible refine Below.drew ?_) | (with_reducible refine Below.setCell ?_ ?_ _) | (with_reducible exact Nat.le_refl _) | (with_reducible refine Below.drewN' ?_ _) | (simp; omega) | (simp; done))))))))⟩

end Go.Proofs.Ytlboakmiopnifaa
