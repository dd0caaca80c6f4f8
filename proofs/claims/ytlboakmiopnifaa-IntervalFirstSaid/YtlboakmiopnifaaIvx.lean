/- Layer 02: the reference's combine. -/
import Derived.Test.YtlboakmiopnifaaIvw
set_option linter.unusedSimpArgs false
set_option linter.unusedVariables false
namespace Go.Proofs.Ytlboakmiopnifaa
open Go.RowKit

theorem name_wX {P : Program} {c : Code} {Q : Exit → Act → World → Prop} {a : Act} {w : World} (h : ∀ X, X = w → c.wp P Q a X) : c.wp P Q a w := h w rfl
theorem combF_end (h : Int → Bool) (acc : List (Int × Int)) {P : List Int} (hP : P.length ≤ 1) : combF h acc P = acc := by
  cases P with
  | nil => rfl
  | cons p P => cases P with
    | nil => rfl
    | cons q P => simp at hP
theorem combF_drop (h : Int → Bool) (acc : List (Int × Int)) (P : List Int) (i : Nat) (hi : i + 1 < P.length) : combF h acc (P.drop i) = combF h (if h P[i] then joinI acc P[i] P[i + 1] else acc) (P.drop (i + 1)) := by
  rw [List.drop_eq_getElem_cons (by omega : i < P.length), List.drop_eq_getElem_cons hi]
  rfl

set_option maxRecDepth 100000 in
set_option maxHeartbeats 4000000 in
theorem comb_any (a b : List (Int × Int)) (op : Int) (v u : Value) (w : World) (hv : isSl w v 2 a.length (ivF a)) (hu : isSl w u 2 b.length (ivF b)) (hla : a.length ≤ 200) (hlb : b.length ≤ 200) :
    Calls Try.prog 43 #[v, u, .int .i64 op] w fun e w' => ∃ r, e = .returned r ∧ w'.ownsRow w.heap.size 28 2 r (combI a b op).length (ivF (combI a b op)) ∧ Below w.heap.size w w' := by
  have HV : Hid (isSl w v 2 a.length (ivF a)) := hv
  have HU : Hid (isSl w u 2 b.length (ivF b)) := hu
  obtain ⟨i0, hi0, hz0, hs0, hy0⟩ := infoIv_parts
  clear hv hu
  go_enter Try.func43, Try.ntmps43
  go_upto_region 4 with (first | (go_at_call 48; refine (ends_any a b v u _ (HV.out.ext (by (exact Ext.of_below (by (repeat' (first | (with_reducible exact Below.refl _ _) | (with_reducible assumption) | (with_reducible refine Below.alloc ?_ ?_ _) | (with_reducible refine Below.wext ?_ ?_ _ _) | (with_reducible refine Below.drew ?_) | (with_reducible refine Below.setCell ?_ ?_ _) | (with_reducible exact Nat.le_refl _) | (with_reducible refine Below.drewN' ?_ _) | (simp; omega) | (simp; done))))))) (HU.out.ext (by (exact Ext.of_below (by (repeat' (first | (with_reducible exact Below.refl _ _) | (with_reducible assumption) | (with_reducible refine Below.alloc ?_ ?_ _) | (with_reducible refine Below.wext ?_ ?_ _ _) | (with_reducible refine Below.drew ?_) | (with_reducible refine Below.setCell ?_ ?_ _) | (with_reducible exact Nat.le_refl _) | (with_reducible refine Below.drewN' ?_ _) | (simp; omega) | (simp; done))))))) hla hlb).mono ?_; intro e w1 hpp; obtain ⟨r1, hr, hown, hlen, hbel⟩ := hpp; subst hr; dsimp only; have HV1 : Hid (isSl w1 v 2 a.length (ivF a)) := isSl.below HV.out hbel; have HU1 : Hid (isSl w1 u 2 b.length (ivF b)) := isSl.below HU.out hbel; have HP1 : Hid (isSl w1 r1 1 (endsI a b).length (nF (endsI a b))) := isSl_of_own hown; have HB1 : Hid (Below w.heap.size w w1) := hbel; clear hown hbel HV HU))
  obtain ⟨pr, cr, rfl⟩ := sl_form HP1.out
  obtain ⟨P, hP⟩ : ∃ P, endsI a b = P := ⟨_, rfl⟩
  have HC : Hid (combI a b op = combF (fun n => holdI a b n op) [] P) := by show combI a b op = _; unfold combI; rw [hP]
  rw [hP] at HP1 hlen ⊢
  clear hP
  go_loopw [8, 9] (fun vo vi wr => ∃ acc, ∃ i : Nat, vi = .int .i64 i ∧ i ≤ P.length ∧ wr.ownsRow w1.heap.size 28 2 vo acc.length (ivF acc) ∧ Below w1.heap.size w1 wr ∧ combI a b op = combF (fun n => holdI a b n op) acc (P.drop i) ∧ acc.length ≤ i) (fun _ vi _ => P.length - (intOf vi).toNat)
  case atStart => exact ⟨[], 0, rfl, by omega, World.ownsRow_nil _ _ _ _, by (repeat' (first | (with_reducible exact Below.refl _ _) | (with_reducible assumption) | (with_reducible refine Below.alloc ?_ ?_ _) | (with_reducible refine Below.wext ?_ ?_ _ _) | (with_reducible refine Below.drew ?_) | (with_reducible refine Below.setCell ?_ ?_ _) | (with_reducible exact Nat.le_refl _) | (with_reducible refine Below.drewN' ?_ _) | (simp; omega) | (simp; done))), HC.out, by simp⟩
  case round =>
    obtain ⟨W2, rfl⟩ : ∃ X, X = wr := ⟨_, rfl⟩
    obtain ⟨acc, i, rfl, hi, hO, hW, hE, hN⟩ := hrel
    have HO : Hid (W2.ownsRow w1.heap.size 28 2 u8 acc.length (ivF acc)) := hO
    have HW : Hid (Below w1.heap.size w1 W2) := hW
    have HE : Hid (combI a b op = combF (fun n => holdI a b n op) acc (P.drop i)) := hE
    clear hO hW hE
    have hs : w1.heap.size ≤ W2.heap.size := HW.out.size
    have hiI : IntKind.i64.wrap ((i : Int) + 1) = (i : Int) + 1 := IntWalk.i64_in _ (by constructor <;> omega)
    by_cases hlt : i + 1 < P.length
    · obtain ⟨b', o, c', hv', g1, g2, g3, g4⟩ := HP1.out.cell (by omega)
      obtain ⟨rfl, rfl⟩ : pr = some ⟨b', o, none⟩ ∧ cr = c' := by cases hv'; exact ⟨rfl, rfl⟩
      have a0 := n_cell g4 i (by omega)
      have a1 := n_cell g4 (i + 1) hlt
      rw [combF_drop _ _ _ _ hlt] at HE
      obtain ⟨p, hp⟩ : ∃ p, P[i]'(by omega) = p := ⟨_, rfl⟩
      obtain ⟨q, hq⟩ : ∃ q, P[i + 1] = q := ⟨_, rfl⟩
      rw [hp] at a0 HE
      rw [hq] at a1 HE
      replace HE : Hid _ := HE
      clear hp hq
      have zb0 : b' < w1.heap.size := g3
      have zb : LtD b' W2.heap.size := Nat.lt_of_lt_of_le g3 HW.out.size
      have k0 : W2.cell? ⟨b', o + i, none⟩ = some (.int .i64 p) := (HW.out.cell (p := ⟨b', o + i, none⟩) g3).trans a0
      have k1 : W2.cell? ⟨b', o + (i + 1), none⟩ = some (.int .i64 q) := (HW.out.cell (p := ⟨b', o + (i + 1), none⟩) g3).trans a1
      have hltI : (i : Int) + 1 < (P.length : Int) := by omega
      have hiP : i < P.length := by omega
      have h0I : (0 : Int) ≤ (i : Int) + 1 := by omega
      have htI : ((i : Int) + 1).toNat = i + 1 := by omega
      have c0 : Hid (w1.cell? ⟨b', o + i, none⟩ = some (.int .i64 p)) := a0
      have c1 : Hid (w1.cell? ⟨b', o + (i + 1), none⟩ = some (.int .i64 q)) := a1
      clear hv' g1 g2 g3 g4 a0 a1
      cases hh : holdI a b p op with
      | false =>
        have HH : Hid (holdI a b p op = false) := hh
        go_upto_region 9999 with (first | (go_at_call 49; refine (holds_any a b p op v u _ (isSl.below HV1.out (HW.out.trans (below_le hs (Ext.below (by (exact Ext.of_below (by (repeat' (first | (with_reducible exact Below.refl _ _) | (with_reducible assumption) | (with_reducible refine Below.alloc ?_ ?_ _) | (with_reducible refine Below.wext ?_ ?_ _ _) | (with_reducible refine Below.drew ?_) | (with_reducible refine Below.setCell ?_ ?_ _) | (with_reducible exact Nat.le_refl _) | (with_reducible refine Below.drewN' ?_ _) | (simp; omega) | (simp; done)))))))))) (isSl.below HU1.out (HW.out.trans (below_le hs (Ext.below (by (exact Ext.of_below (by (repeat' (first | (with_reducible exact Below.refl _ _) | (with_reducible assumption) | (with_reducible refine Below.alloc ?_ ?_ _) | (with_reducible refine Below.wext ?_ ?_ _ _) | (with_reducible refine Below.drew ?_) | (with_reducible refine Below.setCell ?_ ?_ _) | (with_reducible exact Nat.le_refl _) | (with_reducible refine Below.drewN' ?_ _) | (simp; omega) | (simp; done))))))))))).mono ?_; rintro e w2 ⟨rfl, os2, n2, rfl⟩))
        go_roundw
        case rel =>
          refine ⟨acc, i + 1, by go_num, by omega, own_ext HO.out (by (exact Ext.of_below (by (repeat' (first | (with_reducible exact Below.refl _ _) | (with_reducible assumption) | (with_reducible refine Below.alloc ?_ ?_ _) | (with_reducible refine Below.wext ?_ ?_ _ _) | (with_reducible refine Below.drew ?_) | (with_reducible refine Below.setCell ?_ ?_ _) | (with_reducible exact Nat.le_refl _) | (with_reducible refine Below.drewN' ?_ _) | (simp; omega) | (simp; done)))))), HW.out.trans (below_le hs (Ext.below (by (exact Ext.of_below (by (repeat' (first | (with_reducible exact Below.refl _ _) | (with_reducible assumption) | (with_reducible refine Below.alloc ?_ ?_ _) | (with_reducible refine Below.wext ?_ ?_ _ _) | (with_reducible refine Below.drew ?_) | (with_reducible refine Below.setCell ?_ ?_ _) | (with_reducible exact Nat.le_refl _) | (with_reducible refine Below.drewN' ?_ _) | (simp; omega) | (simp; done)))))))), ?_, by omega⟩
          have e := HE.out
          rw [if_neg (by rw [HH.out]; decide)] at e
          exact e
        case measure => simp [intOf]; omega
      | true =>
        rw [if_pos hh] at HE
        rcases List.eq_nil_or_concat acc with rfl | ⟨l', y, rfl⟩
        · have hv8 : ∃ a8 c8, u8 = .slice a8 0 c8 := by
            rcases HO.out.2 with ⟨hv8, _⟩ | ⟨g, cap, cur, hv8, _⟩
            · exact ⟨none, 0, hv8⟩
            · exact ⟨_, cap, hv8⟩
          obtain ⟨a8, c8, rfl⟩ := hv8
          go_upto_region 8 with (first | (go_at_call 49; refine (holds_any a b p op v u _ (isSl.below HV1.out (HW.out.trans (below_le hs (Ext.below (by (exact Ext.of_below (by (repeat' (first | (with_reducible exact Below.refl _ _) | (with_reducible assumption) | (with_reducible refine Below.alloc ?_ ?_ _) | (with_reducible refine Below.wext ?_ ?_ _ _) | (with_reducible refine Below.drew ?_) | (with_reducible refine Below.setCell ?_ ?_ _) | (with_reducible exact Nat.le_refl _) | (with_reducible refine Below.drewN' ?_ _) | (simp; omega) | (simp; done)))))))))) (isSl.below HU1.out (HW.out.trans (below_le hs (Ext.below (by (exact Ext.of_below (by (repeat' (first | (with_reducible exact Below.refl _ _) | (with_reducible assumption) | (with_reducible refine Below.alloc ?_ ?_ _) | (with_reducible refine Below.wext ?_ ?_ _ _) | (with_reducible refine Below.drew ?_) | (with_reducible refine Below.setCell ?_ ?_ _) | (with_reducible exact Nat.le_refl _) | (with_reducible refine Below.drewN' ?_ _) | (simp; omega) | (simp; done))))))))))).mono ?_; rintro e w2 ⟨rfl, os2, n2, rfl⟩))
          go_quiet (fail)
          go_upto_region 10 with fail
          refine name_wX (fun X hX => ?_)
          have HXE : Hid (Ext W2 X) := by rw [hX]; (exact Ext.of_below (by (repeat' (first | (with_reducible exact Below.refl _ _) | (with_reducible assumption) | (with_reducible refine Below.alloc ?_ ?_ _) | (with_reducible refine Below.wext ?_ ?_ _ _) | (with_reducible refine Below.drew ?_) | (with_reducible refine Below.setCell ?_ ?_ _) | (with_reducible exact Nat.le_refl _) | (with_reducible refine Below.drewN' ?_ _) | (simp; omega) | (simp; done)))))
          have kx0 : X.cell? ⟨b', o + i, none⟩ = some (.int .i64 p) := (HXE.out.below.cell (p := ⟨b', o + i, none⟩) zb).trans k0
          have kx1 : X.cell? ⟨b', o + (i + 1), none⟩ = some (.int .i64 q) := (HXE.out.below.cell (p := ⟨b', o + (i + 1), none⟩) zb).trans k1
          have HOX : Hid (X.ownsRow w1.heap.size 28 2 (.slice a8 0 c8) 0 []) := own_ext HO.out HXE.out
          have HWX : Hid (Below w1.heap.size w1 X) := HW.out.trans (below_le hs HXE.out.below)
          have hsX : w1.heap.size ≤ X.heap.size := HWX.out.size
          have zbX : LtD b' X.heap.size := Nat.lt_of_lt_of_le zb0 hsX
          clear hX k0 k1 HO HW hs HXE zb
          go_region_held3 (fun w' => w'.cell? ⟨b', o + i, none⟩ = some (.int .i64 p) ∧ w'.cell? ⟨b', o + (i + 1), none⟩ = some (.int .i64 q)) (first | go_keep | (exact ⟨(HWA.out.cell (p := ⟨b', o + i, none⟩) zb0).trans c0.out, (HWA.out.cell (p := ⟨b', o + (i + 1), none⟩) zb0).trans c1.out⟩)) ((rw [if_pos (by rfl)]; refine wp_append_own _ _ _ 22 rfl w1.heap.size 28 i0 (.agg #[.int .i64 0, .int .i64 0]) 2 16 Try.underlying22 hi0 hz0 hs0 hy0 rfl (by decide) _ _ _ rfl (own_ext HOX.out (by (exact Ext.of_below (by (repeat' (first | (with_reducible exact Below.refl _ _) | (with_reducible assumption) | (with_reducible refine Below.alloc ?_ ?_ _) | (with_reducible refine Below.wext ?_ ?_ _ _) | (with_reducible refine Below.drew ?_) | (with_reducible refine Below.setCell ?_ ?_ _) | (with_reducible exact Nat.le_refl _) | (with_reducible refine Below.drewN' ?_ _) | (simp; omega) | (simp; done))))))) ⟨_, 0, none⟩ 1 1 [.int .i64 p, .int .i64 q] rfl rfl (cells_new2 _ _ _ _ (by simp)) (by simp [Value.oneCell']) (by unfold maxLen; omega) (by omega) (by simp; omega) ?_; intro vA wA hownA hgrA _; replace hownA : Hid _ := hownA; have HWA : Hid (Below w1.heap.size w1 wA) := (HWX.out.trans (below_le hsX (Ext.below (by (exact Ext.of_below (by (repeat' (first | (with_reducible exact Below.refl _ _) | (with_reducible assumption) | (with_reducible refine Below.alloc ?_ ?_ _) | (with_reducible refine Below.wext ?_ ?_ _ _) | (with_reducible refine Below.drew ?_) | (with_reducible refine Below.setCell ?_ ?_ _) | (with_reducible exact Nat.le_refl _) | (with_reducible refine Below.drewN' ?_ _) | (simp; omega) | (simp; done))))))))).trans (below_of_grown hgrA (by simp; omega) (fun k hk => (World.ownsRow.lt HOX.out k hk).1)); clear hgrA))
          all_goals go_wp2_with fail
          all_goals go_roundw
          case rel =>
            refine ⟨[(p, q)], i + 1, by go_num, by omega, own_ext (app_own (acc := []) hownA.out) (by (exact Ext.of_below (by (repeat' (first | (with_reducible exact Below.refl _ _) | (with_reducible assumption) | (with_reducible refine Below.alloc ?_ ?_ _) | (with_reducible refine Below.wext ?_ ?_ _ _) | (with_reducible refine Below.drew ?_) | (with_reducible refine Below.setCell ?_ ?_ _) | (with_reducible exact Nat.le_refl _) | (with_reducible refine Below.drewN' ?_ _) | (simp; omega) | (simp; done)))))), HWA.out.trans (below_le HWA.out.size (Ext.below (by (exact Ext.of_below (by (repeat' (first | (with_reducible exact Below.refl _ _) | (with_reducible assumption) | (with_reducible refine Below.alloc ?_ ?_ _) | (with_reducible refine Below.wext ?_ ?_ _ _) | (with_reducible refine Below.drew ?_) | (with_reducible refine Below.setCell ?_ ?_ _) | (with_reducible exact Nat.le_refl _) | (with_reducible refine Below.drewN' ?_ _) | (simp; omega) | (simp; done)))))))), HE.out, by simp⟩
          case measure => simp [intOf]; omega
        · rw [List.concat_eq_append] at HO HE hN
          have e : (l' ++ [y]).length = l'.length + 1 := by simp
          rw [e] at HO hN
          obtain ⟨g, cap, rfl, _, _⟩ := HO.out.form (by omega)
          have hgl : w1.heap.size ≤ g := (HO.out.lt g rfl).1
          have hgb : g ≠ b' := by omega
          have zg : LtD g W2.heap.size := (HO.out.lt g rfl).2
          have cg : W2.cell? ⟨g, l'.length * 2 + 1, none⟩ = some (.int .i64 y.2) := by
            rw [HO.out.cellAt _ (by omega), ivF_snd (l' ++ [y]) l'.length (by simp)]
            simp
          have fg : W2.frozen? ⟨g, l'.length * 2 + 1, none⟩ = false := HO.out.frozenAt _
          replace HE : Hid _ := HE
          by_cases hyp : y.2 = p
          · have hd : (y.2 == p) = true := by simp [hyp]
            have HJ : Hid (joinI (l' ++ [y]) p q = l' ++ [(y.1, q)]) := by show joinI _ _ _ = _; rw [joinI_app, if_pos hyp]
            clear hyp e
            go_upto_region 8 with (first | (go_at_call 49; refine (holds_any a b p op v u _ (isSl.below HV1.out (HW.out.trans (below_le hs (Ext.below (by (exact Ext.of_below (by (repeat' (first | (with_reducible exact Below.refl _ _) | (with_reducible assumption) | (with_reducible refine Below.alloc ?_ ?_ _) | (with_reducible refine Below.wext ?_ ?_ _ _) | (with_reducible refine Below.drew ?_) | (with_reducible refine Below.setCell ?_ ?_ _) | (with_reducible exact Nat.le_refl _) | (with_reducible refine Below.drewN' ?_ _) | (simp; omega) | (simp; done)))))))))) (isSl.below HU1.out (HW.out.trans (below_le hs (Ext.below (by (exact Ext.of_below (by (repeat' (first | (with_reducible exact Below.refl _ _) | (with_reducible assumption) | (with_reducible refine Below.alloc ?_ ?_ _) | (with_reducible refine Below.wext ?_ ?_ _ _) | (with_reducible refine Below.drew ?_) | (with_reducible refine Below.setCell ?_ ?_ _) | (with_reducible exact Nat.le_refl _) | (with_reducible refine Below.drewN' ?_ _) | (simp; omega) | (simp; done))))))))))).mono ?_; rintro e w2 ⟨rfl, os2, n2, rfl⟩))
            go_quiet (fail)
            go_wp2_with fail
            go_roundw
            case rel =>
              refine ⟨l' ++ [(y.1, q)], i + 1, by go_num, by omega, ?_, ?_, ?_, ?_⟩
              · have e : (l' ++ [(y.1, q)]).length = l'.length + 1 := by simp
                rw [← ivF_set, e]
                exact own_set (own_ext HO.out (by (exact Ext.of_below (by (repeat' (first | (with_reducible exact Below.refl _ _) | (with_reducible assumption) | (with_reducible refine Below.alloc ?_ ?_ _) | (with_reducible refine Below.wext ?_ ?_ _ _) | (with_reducible refine Below.drew ?_) | (with_reducible refine Below.setCell ?_ ?_ _) | (with_reducible exact Nat.le_refl _) | (with_reducible refine Below.drewN' ?_ _) | (simp; omega) | (simp; done))))))) (by omega)
              · exact Below.setCell (HW.out.trans (below_le hs (Ext.below (by (exact Ext.of_below (by (repeat' (first | (with_reducible exact Below.refl _ _) | (with_reducible assumption) | (with_reducible refine Below.alloc ?_ ?_ _) | (with_reducible refine Below.wext ?_ ?_ _ _) | (with_reducible refine Below.drew ?_) | (with_reducible refine Below.setCell ?_ ?_ _) | (with_reducible exact Nat.le_refl _) | (with_reducible refine Below.drewN' ?_ _) | (simp; omega) | (simp; done))))))))) hgl _
              · have e := HE.out
                rw [HJ.out] at e
                exact e
              · simp; omega
            case measure => simp [intOf]; omega
          · have hd : (y.2 == p) = false := by simp [hyp]
            have HJ : Hid (joinI (l' ++ [y]) p q = l' ++ [y] ++ [(p, q)]) := by show joinI _ _ _ = _; rw [joinI_app, if_neg hyp]
            clear hyp
            go_upto_region 8 with (first | (go_at_call 49; refine (holds_any a b p op v u _ (isSl.below HV1.out (HW.out.trans (below_le hs (Ext.below (by (exact Ext.of_below (by (repeat' (first | (with_reducible exact Below.refl _ _) | (with_reducible assumption) | (with_reducible refine Below.alloc ?_ ?_ _) | (with_reducible refine Below.wext ?_ ?_ _ _) | (with_reducible refine Below.drew ?_) | (with_reducible refine Below.setCell ?_ ?_ _) | (with_reducible exact Nat.le_refl _) | (with_reducible refine Below.drewN' ?_ _) | (simp; omega) | (simp; done)))))))))) (isSl.below HU1.out (HW.out.trans (below_le hs (Ext.below (by (exact Ext.of_below (by (repeat' (first | (with_reducible exact Below.refl _ _) | (with_reducible assumption) | (with_reducible refine Below.alloc ?_ ?_ _) | (with_reducible refine Below.wext ?_ ?_ _ _) | (with_reducible refine Below.drew ?_) | (with_reducible refine Below.setCell ?_ ?_ _) | (with_reducible exact Nat.le_refl _) | (with_reducible refine Below.drewN' ?_ _) | (simp; omega) | (simp; done))))))))))).mono ?_; rintro e w2 ⟨rfl, os2, n2, rfl⟩))
            go_quiet (fail)
            go_upto_region 10 with fail
            refine name_wX (fun X hX => ?_)
            have HXE : Hid (Ext W2 X) := by rw [hX]; (exact Ext.of_below (by (repeat' (first | (with_reducible exact Below.refl _ _) | (with_reducible assumption) | (with_reducible refine Below.alloc ?_ ?_ _) | (with_reducible refine Below.wext ?_ ?_ _ _) | (with_reducible refine Below.drew ?_) | (with_reducible refine Below.setCell ?_ ?_ _) | (with_reducible exact Nat.le_refl _) | (with_reducible refine Below.drewN' ?_ _) | (simp; omega) | (simp; done)))))
            have kx0 : X.cell? ⟨b', o + i, none⟩ = some (.int .i64 p) := (HXE.out.below.cell (p := ⟨b', o + i, none⟩) zb).trans k0
            have kx1 : X.cell? ⟨b', o + (i + 1), none⟩ = some (.int .i64 q) := (HXE.out.below.cell (p := ⟨b', o + (i + 1), none⟩) zb).trans k1
            have HOX : Hid (X.ownsRow w1.heap.size 28 2 (.slice (some ⟨g, 0, none⟩) (l'.length + 1) cap) (l'.length + 1) (ivF (l' ++ [y]))) := own_ext HO.out HXE.out
            have HWX : Hid (Below w1.heap.size w1 X) := HW.out.trans (below_le hs HXE.out.below)
            have hsX : w1.heap.size ≤ X.heap.size := HWX.out.size
            have zbX : LtD b' X.heap.size := Nat.lt_of_lt_of_le zb0 hsX
            clear hX k0 k1 HO HW hs HXE zb
            clear cg fg zg
            go_region_held3 (fun w' => w'.cell? ⟨b', o + i, none⟩ = some (.int .i64 p) ∧ w'.cell? ⟨b', o + (i + 1), none⟩ = some (.int .i64 q)) (first | go_keep | (exact ⟨(HWA.out.cell (p := ⟨b', o + i, none⟩) zb0).trans c0.out, (HWA.out.cell (p := ⟨b', o + (i + 1), none⟩) zb0).trans c1.out⟩)) ((rw [if_pos (by rfl)]; refine wp_append_own _ _ _ 22 rfl w1.heap.size 28 i0 (.agg #[.int .i64 0, .int .i64 0]) 2 16 Try.underlying22 hi0 hz0 hs0 hy0 rfl (by decide) _ _ _ rfl (own_ext HOX.out (by (exact Ext.of_below (by (repeat' (first | (with_reducible exact Below.refl _ _) | (with_reducible assumption) | (with_reducible refine Below.alloc ?_ ?_ _) | (with_reducible refine Below.wext ?_ ?_ _ _) | (with_reducible refine Below.drew ?_) | (with_reducible refine Below.setCell ?_ ?_ _) | (with_reducible exact Nat.le_refl _) | (with_reducible refine Below.drewN' ?_ _) | (simp; omega) | (simp; done))))))) ⟨_, 0, none⟩ 1 1 [.int .i64 p, .int .i64 q] rfl rfl (cells_new2 _ _ _ _ (by simp)) (by simp [Value.oneCell']) (by unfold maxLen; omega) (by omega) (by simp; omega) ?_; intro vA wA hownA hgrA _; replace hownA : Hid _ := hownA; have HWA : Hid (Below w1.heap.size w1 wA) := (HWX.out.trans (below_le hsX (Ext.below (by (exact Ext.of_below (by (repeat' (first | (with_reducible exact Below.refl _ _) | (with_reducible assumption) | (with_reducible refine Below.alloc ?_ ?_ _) | (with_reducible refine Below.wext ?_ ?_ _ _) | (with_reducible refine Below.drew ?_) | (with_reducible refine Below.setCell ?_ ?_ _) | (with_reducible exact Nat.le_refl _) | (with_reducible refine Below.drewN' ?_ _) | (simp; omega) | (simp; done))))))))).trans (below_of_grown hgrA (by simp; omega) (fun k hk => (World.ownsRow.lt HOX.out k hk).1)); clear hgrA))
            all_goals go_wp2_with fail
            all_goals go_roundw
            case rel =>
              refine ⟨l' ++ [y] ++ [(p, q)], i + 1, by go_num, by omega, own_ext (app_own (by rw [e]; exact hownA.out)) (by (exact Ext.of_below (by (repeat' (first | (with_reducible exact Below.refl _ _) | (with_reducible assumption) | (with_reducible refine Below.alloc ?_ ?_ _) | (with_reducible refine Below.wext ?_ ?_ _ _) | (with_reducible refine Below.drew ?_) | (with_reducible refine Below.setCell ?_ ?_ _) | (with_reducible exact Nat.le_refl _) | (with_reducible refine Below.drewN' ?_ _) | (simp; omega) | (simp; done)))))), HWA.out.trans (below_le HWA.out.size (Ext.below (by (exact Ext.of_below (by (repeat' (first | (with_reducible exact Below.refl _ _) | (with_reducible assumption) | (with_reducible refine Below.alloc ?_ ?_ _) | (with_reducible refine Below.wext ?_ ?_ _ _) | (with_reducible refine Below.drew ?_) | (with_reducible refine Below.setCell ?_ ?_ _) | (with_reducible exact Nat.le_refl _) | (with_reducible refine Below.drewN' ?_ _) | (simp; omega) | (simp; done)))))))), ?_, by simp; omega⟩
              have e := HE.out
              rw [HJ.out] at e
              exact e
            case measure => simp [intOf]; omega
    · have HE2 : Hid (combI a b op = acc) := by
        have e := HE.out
        rw [combF_end _ _ (by simp; omega)] at e
        exact e
      go_wp2_with fail
      go_ret
      rw [HE2.out]
      exact ⟨_, rfl, own_mono (own_ext HO.out (by (exact Ext.of_below (by (repeat' (first | (with_reducible exact Below.refl _ _) | (with_reducible assumption) | (with_reducible refine Below.alloc ?_ ?_ _) | (with_reducible refine Below.wext ?_ ?_ _ _) | (with_reducible refine Below.drew ?_) | (with_reducible refine Below.setCell ?_ ?_ _) | (with_reducible exact Nat.le_refl _) | (with_reducible refine Below.drewN' ?_ _) | (simp; omega) | (simp; done))))))) HB1.out.size, HB1.out.trans (below_le HB1.out.size (HW.out.trans (below_le hs (Ext.below (by (exact Ext.of_below (by (repeat' (first | (with_reducible exact Below.refl _ _) | (with_reducible assumption) | (with_reducible refine Below.alloc ?_ ?_ _) | (with_reducible refine Below.wext ?_ ?_ _ _) | (with_reducible refine Below.drew ?_) | (with_reducible refine Below.setCell ?_ ?_ _) | (with_reducible exact Nat.le_refl _) | (with_reducible refine Below.drewN' ?_ _) | (simp; omega) | (simp; done))))))))))⟩

end Go.Proofs.Ytlboakmiopnifaa
