/- Layer 02: the reference's put: an int into an ascending list. -/
import Derived.Test.YtlboakmiopnifaaIvt
import Derived.Test.YtlboakmiopnifaaIvq
set_option linter.unusedSimpArgs false
set_option linter.unusedVariables false
namespace Go.Proofs.Ytlboakmiopnifaa
open Go.RowKit

/-- A list of ints in memory. -/
def nF (l : List Int) : List Value := l.map (.int .i64 ·)
theorem nF_len (l : List Int) : (nF l).length = l.length := by simp [nF]
theorem nF_app (l r : List Int) : nF (l ++ r) = nF l ++ nF r := by simp [nF]
theorem nF_get (l : List Int) (k : Nat) (h : k < l.length) : (nF l)[k]? = some (.int .i64 l[k]) := by simp [nF, h]
theorem n_cell {w : World} {b o : Nat} {l : List Int} (h : ∀ j, j < l.length * 1 → w.cell? ⟨b, o + j, none⟩ = (nF l)[j]?) (k : Nat) (hk : k < l.length) : w.cell? ⟨b, o + k, none⟩ = some (.int .i64 l[k]) := by
  rw [h k (by omega), nF_get l k hk]
theorem appN_own {w : World} {base : Nat} {e : TypeId} {v : Value} {acc : List Int} {f : Int} (h : w.ownsRow base e 1 v (acc.length + 1) (nF acc ++ [.int .i64 f])) : w.ownsRow base e 1 v (acc ++ [f]).length (nF (acc ++ [f])) := by
  rw [nF_app, List.length_append]; exact h
theorem appN_own2 {w : World} {base : Nat} {e : TypeId} {v : Value} {acc : List Int} {f g : Int} (h : w.ownsRow base e 1 v (acc.length + 1 + 1) (nF acc ++ [.int .i64 f] ++ [.int .i64 g])) : w.ownsRow base e 1 v (acc ++ [f] ++ [g]).length (nF (acc ++ [f] ++ [g])) := by
  rw [nF_app, nF_app, List.length_append, List.length_append]; exact h
theorem Try.infoInt : (Try.prog.info? 3).map (fun i => (i.zero, i.size, i.bytes)) = some (some (.int .i64 0), 1, 8) := by kernel_rfl
theorem infoInt_parts : ∃ i0, Try.prog.info? 3 = some i0 ∧ i0.zero = some (.int .i64 0) ∧ i0.size = 1 ∧ i0.bytes = 8 := by
  have h := Try.infoInt
  cases hi : Try.prog.info? 3 with
  | none => rw [hi] at h; cases h
  | some i0 =>
    rw [hi] at h
    simp only [Option.map_some, Option.some.injEq, Prod.mk.injEq] at h
    exact ⟨i0, rfl, h.1, h.2.1, h.2.2⟩
def lenB (d : Bool) : Nat := if d then 1 else 0
theorem lenB_t : lenB true = 1 := rfl
theorem lenB_f : lenB false = 0 := rfl
theorem lenB_le (d : Bool) : lenB d ≤ 1 := by cases d <;> simp [lenB]
/-- What is still to come: the rest of the list, if the int stands already; else the rest with it. -/
def restN (n : Int) (d : Bool) (l : List Int) : List Int := if d then l else putN n l
theorem restN_t (n : Int) (l : List Int) : restN n true l = l := rfl
theorem restN_f (n : Int) (l : List Int) : restN n false l = putN n l := rfl
theorem putN_lt {n y : Int} {l : List Int} (h1 : n ≤ y) (h2 : n < y) : putN n (y :: l) = n :: y :: l := by rw [putN, if_pos h1, if_pos h2]
theorem putN_eq {n y : Int} {l : List Int} (h1 : n ≤ y) (h2 : ¬ n < y) : putN n (y :: l) = y :: l := by rw [putN, if_pos h1, if_neg h2]
theorem putN_gt {n y : Int} {l : List Int} (h1 : ¬ n ≤ y) : putN n (y :: l) = y :: putN n l := by rw [putN, if_neg h1]
theorem putN_len (n : Int) : ∀ l : List Int, (putN n l).length ≤ l.length + 1
  | [] => by simp [putN]
  | y :: l => by
    unfold putN
    split
    · split <;> simp
    · have := putN_len n l; simp; omega

set_option maxRecDepth 100000 in
set_option maxHeartbeats 4000000 in
theorem rput_some (l : List Int) (n : Int) (v : Value) (w : World) (hv : isSl w v 1 l.length (nF l)) (hl : l.length ≤ 1000) :
    Calls Try.prog 50 #[v, .int .i64 n] w fun e w' => ∃ r, e = .returned r ∧ w'.ownsRow w.heap.size 3 1 r (putN n l).length (nF (putN n l)) ∧ Below w.heap.size w w' := by
  have HV : Hid (isSl w v 1 l.length (nF l)) := hv
  obtain ⟨pv, cv, rfl⟩ := sl_form hv
  obtain ⟨i0, hi0, hz0, hs0, hy0⟩ := infoInt_parts
  clear hv
  go_enter Try.func50, Try.ntmps50
  go_wp2_with fail
  go_loopw [5, 6, 7] (fun vo vd vi wr => ∃ acc, ∃ d : Bool, ∃ k : Nat, vi = .int .i64 k ∧ k ≤ l.length ∧ vd = .bool d ∧ wr.ownsRow w.heap.size 3 1 vo acc.length (nF acc) ∧ Below w.heap.size w wr ∧ putN n l = acc ++ restN n d (l.drop k) ∧ acc.length ≤ k + lenB d) (fun _ _ vi _ => l.length - (intOf vi).toNat)
  case atStart => exact ⟨[], false, 0, rfl, by omega, rfl, World.ownsRow_nil _ _ _ _, by (repeat' (first | (with_reducible exact Below.refl _ _) | (with_reducible assumption) | (with_reducible refine Below.alloc ?_ ?_ _) | (with_reducible refine Below.wext ?_ ?_ _ _) | (with_reducible refine Below.drew ?_) | (with_reducible refine Below.setCell ?_ ?_ _) | (with_reducible exact Nat.le_refl _) | (with_reducible refine Below.drewN' ?_ _) | (simp; omega) | (simp; done))), rfl, by simp⟩
  case round =>
    obtain ⟨acc, d, k, rfl, hk, rfl, hO, hW, hE, hN0⟩ := hrel
    have hN : acc.length ≤ k + 1 := Nat.le_trans hN0 (by have := lenB_le d; omega)
    have HO : Hid (wr.ownsRow w.heap.size 3 1 u5 acc.length (nF acc)) := hO
    have HW : Hid (Below w.heap.size w wr) := hW
    have HE : Hid (putN n l = acc ++ restN n d (l.drop k)) := hE
    clear hO hW hE
    have hs : w.heap.size ≤ wr.heap.size := HW.out.size
    replace hN0 : Hid (acc.length ≤ k + lenB d) := hN0
    by_cases hlt : k < l.length
    · obtain ⟨b, o, c', hv', g1, g2, g3, g4⟩ := HV.out.cell (by omega)
      obtain ⟨rfl, rfl⟩ : pv = some ⟨b, o, none⟩ ∧ cv = c' := by cases hv'; exact ⟨rfl, rfl⟩
      have a0 : Hid (w.cell? ⟨b, o + k, none⟩ = some (.int .i64 l[k])) := n_cell g4 k hlt
      obtain ⟨y, hy⟩ : ∃ y, l[k] = y := ⟨_, rfl⟩
      rw [hy] at a0
      have hd : l.drop k = y :: l.drop (k + 1) := by rw [List.drop_eq_getElem_cons hlt, hy]
      replace hd : Hid (l.drop k = y :: l.drop (k + 1)) := hd
      clear hy
      have zb0 : b < w.heap.size := g3
      have zb : LtD b wr.heap.size := Nat.lt_of_lt_of_le g3 HW.out.size
      have k0 : wr.cell? ⟨b, o + k, none⟩ = some (.int .i64 y) := (HW.out.cell (p := ⟨b, o + k, none⟩) g3).trans a0.out
      clear hv' g1 g2 g3 g4
      cases d with
      | true =>
        go_upto_region 9999 with (first | (at_builtin; have tokA : True := trivial; refine wpList_append_own _ rfl _ _ 57 rfl w.heap.size 3 i0 (.int .i64 0) 1 8 Try.underlying57 hi0 hz0 hs0 hy0 rfl (by decide) _ _ _ rfl (own_ext HO.out (by (exact Ext.of_below (by (repeat' (first | (with_reducible exact Below.refl _ _) | (with_reducible assumption) | (with_reducible refine Below.alloc ?_ ?_ _) | (with_reducible refine Below.wext ?_ ?_ _ _) | (with_reducible refine Below.drew ?_) | (with_reducible refine Below.setCell ?_ ?_ _) | (with_reducible exact Nat.le_refl _) | (with_reducible refine Below.drewN' ?_ _) | (simp; omega) | (simp; done))))))) ⟨_, 0, none⟩ 1 1 [.int .i64 y] rfl rfl (cells_new2 _ _ _ _ (by simp)) (by simp [Value.oneCell']) (by unfold maxLen; omega) (by omega) (by simp; omega) ?_; intro vA wA hownA hgrA _; replace hownA : Hid _ := hownA; have HWA : Hid (Below w.heap.size w wA) := (HW.out.trans (below_le (by omega) (Ext.below (by (exact Ext.of_below (by (repeat' (first | (with_reducible exact Below.refl _ _) | (with_reducible assumption) | (with_reducible refine Below.alloc ?_ ?_ _) | (with_reducible refine Below.wext ?_ ?_ _ _) | (with_reducible refine Below.drew ?_) | (with_reducible refine Below.setCell ?_ ?_ _) | (with_reducible exact Nat.le_refl _) | (with_reducible refine Below.drewN' ?_ _) | (simp; omega) | (simp; done))))))))).trans (below_of_grown hgrA (by simp; omega) (fun k hk => (World.ownsRow.lt HO.out k hk).1)); have hsA : w.heap.size ≤ wA.heap.size := HWA.out.size; clear hgrA))
        go_roundw
        case rel =>
          refine ⟨acc ++ [y], true, k + 1, by go_num, by omega, rfl, appN_own hownA.out, HWA.out, ?_, ?_⟩
          · rw [HE.out, restN_t, restN_t, hd.out]; simp
          · simp only [List.length_append, List.length_cons, List.length_nil]
            have := hN0.out
            simp only [lenB_t, lenB_f] at this ⊢
            omega
        case measure => simp [intOf]; omega
      | false =>
        by_cases h1 : n ≤ y
        · have e1 : decide (n ≤ y) = true := by simpa using h1
          by_cases h2 : n < y
          · have e2 : decide (n < y) = true := by simpa using h2
            have HP : Hid (putN n (y :: l.drop (k + 1)) = n :: y :: l.drop (k + 1)) := putN_lt h1 h2
            clear h1 h2
            go_upto_region 9999 with (first | (first | (at_builtin; have tokA : True := trivial; refine wpList_append_own _ rfl _ _ 57 rfl w.heap.size 3 i0 (.int .i64 0) 1 8 Try.underlying57 hi0 hz0 hs0 hy0 rfl (by decide) _ _ _ rfl (own_ext HO.out (by (exact Ext.of_below (by (repeat' (first | (with_reducible exact Below.refl _ _) | (with_reducible assumption) | (with_reducible refine Below.alloc ?_ ?_ _) | (with_reducible refine Below.wext ?_ ?_ _ _) | (with_reducible refine Below.drew ?_) | (with_reducible refine Below.setCell ?_ ?_ _) | (with_reducible exact Nat.le_refl _) | (with_reducible refine Below.drewN' ?_ _) | (simp; omega) | (simp; done))))))) ⟨_, 0, none⟩ 1 1 [.int .i64 n] rfl rfl (cells_new2 _ _ _ _ (by simp)) (by simp [Value.oneCell']) (by unfold maxLen; omega) (by omega) (by simp; omega) ?_; intro vA wA hownA hgrA _; replace hownA : Hid _ := hownA; have HWA : Hid (Below w.heap.size w wA) := (HW.out.trans (below_le (by omega) (Ext.below (by (exact Ext.of_below (by (repeat' (first | (with_reducible exact Below.refl _ _) | (with_reducible assumption) | (with_reducible refine Below.alloc ?_ ?_ _) | (with_reducible refine Below.wext ?_ ?_ _ _) | (with_reducible refine Below.drew ?_) | (with_reducible refine Below.setCell ?_ ?_ _) | (with_reducible exact Nat.le_refl _) | (with_reducible refine Below.drewN' ?_ _) | (simp; omega) | (simp; done))))))))).trans (below_of_grown hgrA (by simp; omega) (fun k hk => (World.ownsRow.lt HO.out k hk).1)); have hsA : w.heap.size ≤ wA.heap.size := HWA.out.size; have zA : LtD b wA.heap.size := Nat.lt_of_lt_of_le zb0 HWA.out.size; have cA : wA.cell? ⟨b, o + k, none⟩ = some (.int .i64 y) := (HWA.out.cell (p := ⟨b, o + k, none⟩) zb0).trans a0.out; clear hgrA)) | (first | (at_builtin; have tokB : True := trivial; refine wpList_append_own _ rfl _ _ 57 rfl w.heap.size 3 i0 (.int .i64 0) 1 8 Try.underlying57 hi0 hz0 hs0 hy0 rfl (by decide) _ _ _ rfl (own_ext hownA.out (by (exact Ext.of_below (by (repeat' (first | (with_reducible exact Below.refl _ _) | (with_reducible assumption) | (with_reducible refine Below.alloc ?_ ?_ _) | (with_reducible refine Below.wext ?_ ?_ _ _) | (with_reducible refine Below.drew ?_) | (with_reducible refine Below.setCell ?_ ?_ _) | (with_reducible exact Nat.le_refl _) | (with_reducible refine Below.drewN' ?_ _) | (simp; omega) | (simp; done))))))) ⟨_, 0, none⟩ 1 1 [.int .i64 y] rfl rfl (cells_new2 _ _ _ _ (by simp)) (by simp [Value.oneCell']) (by unfold maxLen; omega) (by omega) (by simp; omega) ?_; intro vB wB hownB hgrB _; replace hownB : Hid _ := hownB; have HWB : Hid (Below w.heap.size w wB) := (HWA.out.trans (below_le (by omega) (Ext.below (by (exact Ext.of_below (by (repeat' (first | (with_reducible exact Below.refl _ _) | (with_reducible assumption) | (with_reducible refine Below.alloc ?_ ?_ _) | (with_reducible refine Below.wext ?_ ?_ _ _) | (with_reducible refine Below.drew ?_) | (with_reducible refine Below.setCell ?_ ?_ _) | (with_reducible exact Nat.le_refl _) | (with_reducible refine Below.drewN' ?_ _) | (simp; omega) | (simp; done))))))))).trans (below_of_grown hgrB (by simp; omega) (fun k hk => (World.ownsRow.lt hownA.out k hk).1)); have hsB : w.heap.size ≤ wB.heap.size := HWB.out.size; clear hgrB)) | fail)
            go_roundw
            case rel =>
              refine ⟨acc ++ [n] ++ [y], true, k + 1, by go_num, by omega, rfl, appN_own2 hownB.out, HWB.out, ?_, ?_⟩
              · rw [HE.out, restN_f, restN_t, hd.out, HP.out]; simp
              · simp only [List.length_append, List.length_cons, List.length_nil]
                have := hN0.out
                simp only [lenB_t, lenB_f] at this ⊢
                omega
            case measure => simp [intOf]; omega
          · have e2 : decide (n < y) = false := by simpa using h2
            have HP : Hid (putN n (y :: l.drop (k + 1)) = y :: l.drop (k + 1)) := putN_eq h1 h2
            clear h1 h2
            go_upto_region 9999 with (first | (at_builtin; have tokA : True := trivial; refine wpList_append_own _ rfl _ _ 57 rfl w.heap.size 3 i0 (.int .i64 0) 1 8 Try.underlying57 hi0 hz0 hs0 hy0 rfl (by decide) _ _ _ rfl (own_ext HO.out (by (exact Ext.of_below (by (repeat' (first | (with_reducible exact Below.refl _ _) | (with_reducible assumption) | (with_reducible refine Below.alloc ?_ ?_ _) | (with_reducible refine Below.wext ?_ ?_ _ _) | (with_reducible refine Below.drew ?_) | (with_reducible refine Below.setCell ?_ ?_ _) | (with_reducible exact Nat.le_refl _) | (with_reducible refine Below.drewN' ?_ _) | (simp; omega) | (simp; done))))))) ⟨_, 0, none⟩ 1 1 [.int .i64 y] rfl rfl (cells_new2 _ _ _ _ (by simp)) (by simp [Value.oneCell']) (by unfold maxLen; omega) (by omega) (by simp; omega) ?_; intro vA wA hownA hgrA _; replace hownA : Hid _ := hownA; have HWA : Hid (Below w.heap.size w wA) := (HW.out.trans (below_le (by omega) (Ext.below (by (exact Ext.of_below (by (repeat' (first | (with_reducible exact Below.refl _ _) | (with_reducible assumption) | (with_reducible refine Below.alloc ?_ ?_ _) | (with_reducible refine Below.wext ?_ ?_ _ _) | (with_reducible refine Below.drew ?_) | (with_reducible refine Below.setCell ?_ ?_ _) | (with_reducible exact Nat.le_refl _) | (with_reducible refine Below.drewN' ?_ _) | (simp; omega) | (simp; done))))))))).trans (below_of_grown hgrA (by simp; omega) (fun k hk => (World.ownsRow.lt HO.out k hk).1)); have hsA : w.heap.size ≤ wA.heap.size := HWA.out.size; clear hgrA))
            go_roundw
            case rel =>
              refine ⟨acc ++ [y], true, k + 1, by go_num, by omega, rfl, appN_own hownA.out, HWA.out, ?_, ?_⟩
              · rw [HE.out, restN_f, restN_t, hd.out, HP.out]; simp
              · simp only [List.length_append, List.length_cons, List.length_nil]
                have := hN0.out
                simp only [lenB_t, lenB_f] at this ⊢
                omega
            case measure => simp [intOf]; omega
        · have e1 : decide (n ≤ y) = false := by simpa using h1
          have HP : Hid (putN n (y :: l.drop (k + 1)) = y :: putN n (l.drop (k + 1))) := putN_gt h1
          clear h1
          go_upto_region 9999 with (first | (at_builtin; have tokA : True := trivial; refine wpList_append_own _ rfl _ _ 57 rfl w.heap.size 3 i0 (.int .i64 0) 1 8 Try.underlying57 hi0 hz0 hs0 hy0 rfl (by decide) _ _ _ rfl (own_ext HO.out (by (exact Ext.of_below (by (repeat' (first | (with_reducible exact Below.refl _ _) | (with_reducible assumption) | (with_reducible refine Below.alloc ?_ ?_ _) | (with_reducible refine Below.wext ?_ ?_ _ _) | (with_reducible refine Below.drew ?_) | (with_reducible refine Below.setCell ?_ ?_ _) | (with_reducible exact Nat.le_refl _) | (with_reducible refine Below.drewN' ?_ _) | (simp; omega) | (simp; done))))))) ⟨_, 0, none⟩ 1 1 [.int .i64 y] rfl rfl (cells_new2 _ _ _ _ (by simp)) (by simp [Value.oneCell']) (by unfold maxLen; omega) (by omega) (by simp; omega) ?_; intro vA wA hownA hgrA _; replace hownA : Hid _ := hownA; have HWA : Hid (Below w.heap.size w wA) := (HW.out.trans (below_le (by omega) (Ext.below (by (exact Ext.of_below (by (repeat' (first | (with_reducible exact Below.refl _ _) | (with_reducible assumption) | (with_reducible refine Below.alloc ?_ ?_ _) | (with_reducible refine Below.wext ?_ ?_ _ _) | (with_reducible refine Below.drew ?_) | (with_reducible refine Below.setCell ?_ ?_ _) | (with_reducible exact Nat.le_refl _) | (with_reducible refine Below.drewN' ?_ _) | (simp; omega) | (simp; done))))))))).trans (below_of_grown hgrA (by simp; omega) (fun k hk => (World.ownsRow.lt HO.out k hk).1)); have hsA : w.heap.size ≤ wA.heap.size := HWA.out.size; clear hgrA))
          go_roundw
          case rel =>
            refine ⟨acc ++ [y], false, k + 1, by go_num, by omega, rfl, appN_own hownA.out, HWA.out, ?_, ?_⟩
            · rw [HE.out, restN_f, restN_f, hd.out, HP.out]; simp
            · simp only [List.length_append, List.length_cons, List.length_nil]
              have := hN0.out
              simp only [lenB_t, lenB_f] at this ⊢
              omega
          case measure => simp [intOf]; omega
    · have HE2 : Hid (putN n l = acc ++ restN n d []) := by
        have e := HE.out
        rw [List.drop_eq_nil_of_le (by omega)] at e
        exact e
      clear HE
      cases d with
      | true =>
        go_wp2_with fail
        go_ret
        refine ⟨_, rfl, ?_, HW.out⟩
        rw [HE2.out, restN_t, List.append_nil]
        exact HO.out
      | false =>
        go_upto_region 9999 with (first | (at_builtin; have tokA : True := trivial; refine wpList_append_own _ rfl _ _ 57 rfl w.heap.size 3 i0 (.int .i64 0) 1 8 Try.underlying57 hi0 hz0 hs0 hy0 rfl (by decide) _ _ _ rfl (own_ext HO.out (by (exact Ext.of_below (by (repeat' (first | (with_reducible exact Below.refl _ _) | (with_reducible assumption) | (with_reducible refine Below.alloc ?_ ?_ _) | (with_reducible refine Below.wext ?_ ?_ _ _) | (with_reducible refine Below.drew ?_) | (with_reducible refine Below.setCell ?_ ?_ _) | (with_reducible exact Nat.le_refl _) | (with_reducible refine Below.drewN' ?_ _) | (simp; omega) | (simp; done))))))) ⟨_, 0, none⟩ 1 1 [.int .i64 n] rfl rfl (cells_new2 _ _ _ _ (by simp)) (by simp [Value.oneCell']) (by unfold maxLen; omega) (by omega) (by simp; omega) ?_; intro vA wA hownA hgrA _; replace hownA : Hid _ := hownA; have HWA : Hid (Below w.heap.size w wA) := (HW.out.trans (below_le (by omega) (Ext.below (by (exact Ext.of_below (by (repeat' (first | (with_reducible exact Below.refl _ _) | (with_reducible assumption) | (with_reducible refine Below.alloc ?_ ?_ _) | (with_reducible refine Below.wext ?_ ?_ _ _) | (with_reducible refine Below.drew ?_) | (with_reducible refine Below.setCell ?_ ?_ _) | (with_reducible exact Nat.le_refl _) | (with_reducible refine Below.drewN' ?_ _) | (simp; omega) | (simp; done))))))))).trans (below_of_grown hgrA (by simp; omega) (fun k hk => (World.ownsRow.lt HO.out k hk).1)); have hsA : w.heap.size ≤ wA.heap.size := HWA.out.size; clear hgrA))
        go_ret
        refine ⟨_, rfl, ?_, HWA.out⟩
        rw [HE2.out, restN_f]
        exact appN_own hownA.out

end Go.Proofs.Ytlboakmiopnifaa
