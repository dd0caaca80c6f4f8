/- Layer 02: cut. -/
/- Layer 02: Union, Intersect, Subtract, Add, Remove, Gaps: what each answers. -/
import Derived.Test.YtkdjbiekjgeafaaQu
import Derived.Maps.AppendAt
set_option linter.unusedSimpArgs false
set_option linter.unusedVariables false
namespace Go.Proofs.Ytkdjbiekjgeafaa.Iv
open Go.RowKit

set_option maxRecDepth 100000 in
theorem own_other {w : World} {base : Nat} {e : TypeId} {m n : Nat} {v : Value} {xs : List Value} (h : w.ownsRow base e m v n xs) {p : Addr} (hne : v.ownBlock ≠ some p.block) (u : Value) : (w.setCell p u).ownsRow base e m v n xs :=
  h.kept (row := some p.block) ⟨rfl, rfl, rfl, by simp [World.setCell], fun k hk hk2 => Below.heap_setCell _ _ _ _ (fun e => hk2 (by rw [e]))⟩ (.inr hne)

set_option maxRecDepth 100000 in
theorem cut_round {a lb acc ad L R : List (Int × Int)} {i : Nat} {x1 x2 : Int} (h : acc ++ cutI (a.drop i) lb = R) (hlt : i < a.length) (hx : a[i] = (x1, x2)) (hsk : skipI x1 lb = L) (ht : ad = acc ++ cut1 x1 x2 (skipI x1 lb)) : ad ++ cutI (a.drop (i + 1)) L = R := by
  rw [List.drop_eq_getElem_cons hlt, hx] at h
  unfold cutI at h
  simp only [hsk] at h ht
  rw [ht, ← h, List.append_assoc]

set_option maxRecDepth 100000 in
set_option maxHeartbeats 4000000 in
theorem cut_any (a b : List (Int × Int)) (v u : Value) (w : World) (hv : isSl w v 2 a.length (ivF a)) (hu : isSl w u 2 b.length (ivF b)) (hla : a.length ≤ 200) (hlb : b.length ≤ 200) :
    Calls Try.prog 22 #[v, u] w fun e w' => ∃ r, e = .returned r ∧ w'.ownsRow w.heap.size 45 2 r (cutI a b).length (ivF (cutI a b)) ∧ Below w.heap.size w w' := by
  have HV : Hid (isSl w v 2 a.length (ivF a)) := hv
  have HU : Hid (isSl w u 2 b.length (ivF b)) := hu
  obtain ⟨pv, cv, rfl⟩ := sl_form hv
  obtain ⟨i0, hi0, hz0, hs0, hy0⟩ := infoIv_parts
  clear hv hu
  go_enter Try.func22, Try.ntmps22
  go_wp2_with fail
  go_loopw [1, 5, 12] (fun vb vo vi wr => ∃ lb acc, ∃ i : Nat, vi = .int .i64 i ∧ i ≤ a.length ∧ isSl w vb 2 lb.length (ivF lb) ∧ wr.ownsRow w.heap.size 45 2 vo acc.length (ivF acc) ∧ Below w.heap.size w wr ∧ acc ++ cutI (a.drop i) lb = cutI a b ∧ acc.length ≤ i * 300 ∧ lb.length ≤ 200) (fun _ _ vi _ => a.length - (intOf vi).toNat)
  case atStart => exact ⟨b, [], 0, rfl, by omega, HU.out, World.ownsRow_nil _ _ _ _, by (repeat' (first | (with_reducible exact Below.refl _ _) | (with_reducible assumption) | (with_reducible refine Below.alloc ?_ ?_ _) | (with_reducible refine Below.wext ?_ ?_ _ _) | (with_reducible refine Below.drew ?_) | (with_reducible refine Below.setCell ?_ ?_ _) | (with_reducible exact Nat.le_refl _) | (with_reducible refine Below.drewN' ?_ _) | (simp; omega) | (simp; done))), by simp, by simp, hlb⟩
  case round =>
    obtain ⟨W1, rfl⟩ : ∃ X, X = wr := ⟨_, rfl⟩
    obtain ⟨lb, acc, i, rfl, hi, hB, hO, hW, hE, hN, hlb2⟩ := hrel
    have HB : Hid (isSl w u1 2 lb.length (ivF lb)) := hB
    have HO : Hid (W1.ownsRow w.heap.size 45 2 u5 acc.length (ivF acc)) := hO
    have HW : Hid (Below w.heap.size w W1) := hW
    have HE : Hid (acc ++ cutI (a.drop i) lb = cutI a b) := hE
    clear hB hO hW hE
    have hs : w.heap.size ≤ W1.heap.size := HW.out.size
    by_cases hlt : i < a.length
    · obtain ⟨ba, oa, c', hv', g1, g2, g3, g4⟩ := HV.out.cell (by omega)
      obtain ⟨rfl, rfl⟩ : pv = some ⟨ba, oa, none⟩ ∧ cv = c' := by cases hv'; exact ⟨rfl, rfl⟩
      obtain ⟨a0, a1⟩ := iv_cells g4 i hlt
      have zb : LtD ba W1.heap.size := Nat.lt_of_lt_of_le g3 HW.out.size
      have k0 : W1.cell? ⟨ba, oa + i * 2, none⟩ = some (.int .i64 a[i].1) := (HW.out.cell (p := ⟨ba, oa + i * 2, none⟩) g3).trans a0
      have k1 : W1.cell? ⟨ba, oa + i * 2 + 1, none⟩ = some (.int .i64 a[i].2) := (HW.out.cell (p := ⟨ba, oa + i * 2 + 1, none⟩) g3).trans a1
      clear hv' g1 g2 g3 g4 a0 a1
      obtain ⟨x1, hx1⟩ : ∃ x1, x1 = a[i].1 := ⟨_, rfl⟩
      obtain ⟨x2, hx2⟩ : ∃ x2, x2 = a[i].2 := ⟨_, rfl⟩
      rw [← hx1] at k0
      rw [← hx2] at k1
      have HX : Hid (a[i] = (x1, x2)) := by show a[i] = (x1, x2); rw [hx1, hx2]
      clear hx1 hx2
      have hob : Hid (u5.ownBlock ≠ some W1.heap.size) := fun e => by have := (HO.out.lt _ e).2; omega
      go_upto_region 5 with fail
      go_loopw [1] (fun vb ws => ∃ lc, isSl w vb 2 lc.length (ivF lc) ∧ lc.length ≤ 200 ∧ skipI x1 lc = skipI x1 lb ∧ ws.ownsRow w.heap.size 45 2 u5 acc.length (ivF acc) ∧ Below w.heap.size w ws ∧ LtD W1.heap.size ws.heap.size ∧ ws.cell? ⟨W1.heap.size, 0, none⟩ = some (.int .i64 x1) ∧ ws.cell? ⟨W1.heap.size, 1, none⟩ = some (.int .i64 x2) ∧ ws.frozen? ⟨W1.heap.size, 0, none⟩ = false ∧ ws.frozen? ⟨W1.heap.size, 1, none⟩ = false) (fun vb _ => lenOf vb)
      case atStart => 
        refine ⟨lb, HB.out, hlb2, rfl, own_ext HO.out (by (exact Ext.of_below (by (repeat' (first | (with_reducible exact Below.refl _ _) | (with_reducible assumption) | (with_reducible refine Below.alloc ?_ ?_ _) | (with_reducible refine Below.wext ?_ ?_ _ _) | (with_reducible refine Below.drew ?_) | (with_reducible refine Below.setCell ?_ ?_ _) | (with_reducible exact Nat.le_refl _) | (with_reducible refine Below.drewN' ?_ _) | (simp; omega) | (simp; done)))))), HW.out.trans (below_le hs (Ext.below (by (exact Ext.of_below (by (repeat' (first | (with_reducible exact Below.refl _ _) | (with_reducible assumption) | (with_reducible refine Below.alloc ?_ ?_ _) | (with_reducible refine Below.wext ?_ ?_ _ _) | (with_reducible refine Below.drew ?_) | (with_reducible refine Below.setCell ?_ ?_ _) | (with_reducible exact Nat.le_refl _) | (with_reducible refine Below.drewN' ?_ _) | (simp; omega) | (simp; done)))))))), ?_, ?_, ?_, ?_, ?_⟩
        · show _ < _; simp
        all_goals (simp [go_sem]; done)
      case round =>
        obtain ⟨W2, rfl⟩ : ∃ X, X = wr := ⟨_, rfl⟩
        obtain ⟨lc, hC, hlc, hK, hO, hW, zx, x0, x1', f0, f1⟩ := hrel
        have HC : Hid (isSl w u1 2 lc.length (ivF lc)) := hC
        obtain ⟨pc, cc, rfl⟩ := sl_form hC
        have HK : Hid (skipI x1 lc = skipI x1 lb) := hK
        have HOs : Hid (W2.ownsRow w.heap.size 45 2 u5 acc.length (ivF acc)) := hO
        have HWs : Hid (Below w.heap.size w W2) := hW
        have hs2 : w.heap.size ≤ W2.heap.size := HWs.out.size
        clear hC hK hO hW
        cases lc with
        | nil =>
          have HSK : Hid (skipI x1 lb = []) := HK.out.symm
          simp only [List.length_nil]
          go_upto_region 5 with fail
          go_quiet (fail)
          go_upto_region 8 with fail
          go_loopw [5, 32] (fun vo vj ws => ∃ f ad, ∃ j : Nat, vj = .int .i64 j ∧ j ≤ 0 ∧ ws.ownsRow w.heap.size 45 2 vo ad.length (ivF ad) ∧ Below w.heap.size w ws ∧ LtD W1.heap.size ws.heap.size ∧ ws.cell? ⟨W1.heap.size, 0, none⟩ = some (.int .i64 f) ∧ ws.cell? ⟨W1.heap.size, 1, none⟩ = some (.int .i64 x2) ∧ ws.frozen? ⟨W1.heap.size, 0, none⟩ = false ∧ ws.frozen? ⟨W1.heap.size, 1, none⟩ = false ∧ vo.ownBlock ≠ some W1.heap.size ∧ ad ++ cut1 f x2 (([] : List (Int × Int)).drop j) = acc ++ cut1 x1 x2 (skipI x1 lb) ∧ ad.length ≤ i * 300 + j) (fun _ vj _ => 0 - (intOf vj).toNat)
          case atStart => exact ⟨x1, acc, 0, rfl, by omega, own_ext HOs.out (Ext.of_below (by first | exact Below.drewN' (Below.refl _ _) _ | (repeat' (first | (with_reducible exact Below.refl _ _) | (with_reducible assumption) | (with_reducible refine Below.alloc ?_ ?_ _) | (with_reducible refine Below.wext ?_ ?_ _ _) | (with_reducible refine Below.drew ?_) | (with_reducible refine Below.setCell ?_ ?_ _) | (with_reducible exact Nat.le_refl _) | (with_reducible refine Below.drewN' ?_ _) | (simp; omega) | (simp; done))))), Below.drewN' HWs.out _, zx, x0, x1', f0, f1, hob.out, by rw [HSK.out]; rfl, by simpa using hN⟩
          case round =>
            obtain ⟨W3, rfl⟩ : ∃ X, X = wr := ⟨_, rfl⟩
            obtain ⟨f, ad, j, rfl, hjl, hO, hW, zx3, y0, y1', e0, e1, hob3, hE3, hN3⟩ := hrel
            have HO3 : Hid (W3.ownsRow w.heap.size 45 2 u5 ad.length (ivF ad)) := hO
            have HW3 : Hid (Below w.heap.size w W3) := hW
            have hs3 : w.heap.size ≤ W3.heap.size := HW3.out.size
            replace hob3 : Hid _ := hob3
            replace hE3 : Hid _ := hE3
            clear hO hW

            have hj : j = 0 := by omega
            subst hj
            have HT : Hid (ad ++ (if f < x2 then [(f, x2)] else []) = acc ++ cut1 x1 x2 (skipI x1 lb)) := by
              have e := hE3.out
              show _ = _
              simpa [cut1] using e
            go_upto_region 15 with fail
            by_cases hfx : f < x2
            · have hdx : decide (f < x2) = true := by simpa using hfx
              have HFX : Hid (f < x2) := hfx
              clear hfx
              go_upto_region 17 with (first | (at_builtin; have tokA : True := trivial; refine wpList_append_own_at _ rfl _ _ 29 rfl w.heap.size 45 i0 (.agg #[.int .i64 0, .int .i64 0]) 2 16 Try.underlying29 hi0 hz0 hs0 hy0 rfl (by decide) _ _ _ rfl (own_ext HO3.out (by (exact Ext.of_below (by (repeat' (first | (with_reducible exact Below.refl _ _) | (with_reducible assumption) | (with_reducible refine Below.alloc ?_ ?_ _) | (with_reducible refine Below.wext ?_ ?_ _ _) | (with_reducible refine Below.drew ?_) | (with_reducible refine Below.setCell ?_ ?_ _) | (with_reducible exact Nat.le_refl _) | (with_reducible refine Below.drewN' ?_ _) | (simp; omega) | (simp; done))))))) ⟨_, 0, none⟩ 1 1 [.int .i64 f, .int .i64 x2] rfl rfl (cells_new2 _ _ _ _ (by simp)) (by simp [Value.oneCell']) (by unfold maxLen; omega) (by omega) (by simp; omega) ?_; intro vA wA hownA hgrA _ hatA; replace hownA : Hid _ := hownA; replace hgrA : Hid _ := hgrA; replace hatA : Hid _ := hatA))
              go_wp2_with fail
              go_roundw
              case rel =>
                refine ⟨[], ad ++ [(f, x2)], i + 1, by go_num, by omega, HC.out, app_own hownA.out, (HW3.out.trans (below_le hs3 (Ext.below (by (exact Ext.of_below (by (repeat' (first | (with_reducible exact Below.refl _ _) | (with_reducible assumption) | (with_reducible refine Below.alloc ?_ ?_ _) | (with_reducible refine Below.wext ?_ ?_ _ _) | (with_reducible refine Below.drew ?_) | (with_reducible refine Below.setCell ?_ ?_ _) | (with_reducible exact Nat.le_refl _) | (with_reducible refine Below.drewN' ?_ _) | (simp; omega) | (simp; done))))))))).trans (below_of_grown hgrA.out (by simp; omega) (fun k hk => (HO3.out.lt k hk).1)), cut_round HE.out hlt HX.out HSK.out ?_, ?_, hlc⟩
                · have e := HT.out
                  rwa [if_pos HFX.out] at e
                · simp only [List.length_append, List.length_cons, List.length_nil] at hlc ⊢
                  omega
              case measure => simp [intOf]; omega
            · have hdx : decide (f < x2) = false := by simpa using hfx
              have HFX : Hid (¬ f < x2) := hfx
              clear hfx
              go_upto_region 17 with fail
              go_wp2_with fail
              go_roundw
              case rel =>
                refine ⟨[], ad, i + 1, by go_num, by omega, HC.out, own_ext HO3.out (by first | (exact Ext.of_below (by (repeat' (first | (with_reducible exact Below.refl _ _) | (with_reducible assumption) | (with_reducible refine Below.alloc ?_ ?_ _) | (with_reducible refine Below.wext ?_ ?_ _ _) | (with_reducible refine Below.drew ?_) | (with_reducible refine Below.setCell ?_ ?_ _) | (with_reducible exact Nat.le_refl _) | (with_reducible refine Below.drewN' ?_ _) | (simp; omega) | (simp; done))))) | exact Ext.of_below (Below.drewN' (Below.refl _ _) _)), HW3.out.trans (below_le hs3 (Ext.below (by (exact Ext.of_below (by (repeat' (first | (with_reducible exact Below.refl _ _) | (with_reducible assumption) | (with_reducible refine Below.alloc ?_ ?_ _) | (with_reducible refine Below.wext ?_ ?_ _ _) | (with_reducible refine Below.drew ?_) | (with_reducible refine Below.setCell ?_ ?_ _) | (with_reducible exact Nat.le_refl _) | (with_reducible refine Below.drewN' ?_ _) | (simp; omega) | (simp; done)))))))), cut_round HE.out hlt HX.out HSK.out ?_, ?_, hlc⟩
                · have e := HT.out
                  rw [if_neg HFX.out, List.append_nil] at e
                  exact e
                · simp only [List.length_cons, List.length_nil] at hlc ⊢
                  omega
              case measure => simp [intOf]; omega
        | cons y lc =>
          obtain ⟨bb, ob, cb', hvb, g1, g2, g3, g4⟩ := HC.out.cell (by simp)
          obtain ⟨rfl, rfl⟩ : pc = some ⟨bb, ob, none⟩ ∧ cc = cb' := by cases hvb; exact ⟨rfl, rfl⟩
          obtain ⟨q0, q1⟩ := iv_cells g4 0 (by simp)
          have zb2 : LtD bb W2.heap.size := Nat.lt_of_lt_of_le g3 HWs.out.size
          have kb0 : W2.cell? ⟨bb, ob, none⟩ = some (.int .i64 y.1) := (HWs.out.cell (p := ⟨bb, ob, none⟩) g3).trans (by simpa using q0)
          have kb1 : W2.cell? ⟨bb, ob + 1, none⟩ = some (.int .i64 y.2) := (HWs.out.cell (p := ⟨bb, ob + 1, none⟩) g3).trans (by simpa using q1)
          have zwb : bb < w.heap.size := g3
          have hcapb : lc.length + 1 ≤ cc := by simpa using g1
          have hcapIb : (lc.length : Int) + 1 ≤ (cc : Int) := by omega
          have h1Ib : (1 : Int) ≤ (lc.length : Int) + 1 := by omega
          have h1cb : (1 : Int) ≤ (cc : Int) := by omega
          have h1nb : 1 ≤ cc := by omega
          clear hvb g1 g2 g3 g4 q0 q1
          simp only [List.length_cons]
          by_cases hyx : y.2 ≤ x1
          · have hd : decide (y.2 ≤ x1) = true := by simpa using hyx
            have HYX : Hid (y.2 ≤ x1) := hyx
            clear hyx
            go_upto_region 5 with fail
            go_quiet (fail)
            go_upto_region 6 with fail
            go_wp2_with fail
            go_roundw
            case rel =>
              refine ⟨lc, isSl_tail' HC.out, by simp at hlc; omega, ?_, ?_⟩
              · have e := HK.out
                rw [skip_cons, if_pos HYX.out] at e
                exact e
              · exact ⟨own_ext HOs.out (Ext.of_below (by first | exact Below.drewN' (Below.refl _ _) _ | (repeat' (first | (with_reducible exact Below.refl _ _) | (with_reducible assumption) | (with_reducible refine Below.alloc ?_ ?_ _) | (with_reducible refine Below.wext ?_ ?_ _ _) | (with_reducible refine Below.drew ?_) | (with_reducible refine Below.setCell ?_ ?_ _) | (with_reducible exact Nat.le_refl _) | (with_reducible refine Below.drewN' ?_ _) | (simp; omega) | (simp; done))))), Below.drewN' HWs.out _, zx, x0, x1', f0, f1⟩
            case measure => simp [lenOf]
          · have hd : decide (y.2 ≤ x1) = false := by simpa using hyx
            have HSK : Hid (skipI x1 lb = y :: lc) := by show skipI x1 lb = y :: lc; rw [← HK.out, skip_cons, if_neg hyx]
            clear hyx
            go_upto_region 5 with fail
            go_quiet (fail)
            go_upto_region 8 with fail
            go_loopw [5, 32] (fun vo vj ws => ∃ f ad, ∃ j : Nat, vj = .int .i64 j ∧ j ≤ lc.length + 1 ∧ ws.ownsRow w.heap.size 45 2 vo ad.length (ivF ad) ∧ Below w.heap.size w ws ∧ LtD W1.heap.size ws.heap.size ∧ ws.cell? ⟨W1.heap.size, 0, none⟩ = some (.int .i64 f) ∧ ws.cell? ⟨W1.heap.size, 1, none⟩ = some (.int .i64 x2) ∧ ws.frozen? ⟨W1.heap.size, 0, none⟩ = false ∧ ws.frozen? ⟨W1.heap.size, 1, none⟩ = false ∧ vo.ownBlock ≠ some W1.heap.size ∧ ad ++ cut1 f x2 ((y :: lc : List (Int × Int)).drop j) = acc ++ cut1 x1 x2 (skipI x1 lb) ∧ ad.length ≤ i * 300 + j) (fun _ vj _ => (lc.length + 1) - (intOf vj).toNat)
            case atStart => exact ⟨x1, acc, 0, rfl, by omega, own_ext HOs.out (Ext.of_below (by first | exact Below.drewN' (Below.refl _ _) _ | (repeat' (first | (with_reducible exact Below.refl _ _) | (with_reducible assumption) | (with_reducible refine Below.alloc ?_ ?_ _) | (with_reducible refine Below.wext ?_ ?_ _ _) | (with_reducible refine Below.drew ?_) | (with_reducible refine Below.setCell ?_ ?_ _) | (with_reducible exact Nat.le_refl _) | (with_reducible refine Below.drewN' ?_ _) | (simp; omega) | (simp; done))))), Below.drewN' HWs.out _, zx, x0, x1', f0, f1, hob.out, by rw [HSK.out]; rfl, by simpa using hN⟩
            case round =>
              obtain ⟨W3, rfl⟩ : ∃ X, X = wr := ⟨_, rfl⟩
              obtain ⟨f, ad, j, rfl, hjl, hO, hW, zx3, y0, y1', e0, e1, hob3, hE3, hN3⟩ := hrel
              have HO3 : Hid (W3.ownsRow w.heap.size 45 2 u5 ad.length (ivF ad)) := hO
              have HW3 : Hid (Below w.heap.size w W3) := hW
              have hs3 : w.heap.size ≤ W3.heap.size := HW3.out.size
              replace hob3 : Hid _ := hob3
              replace hE3 : Hid _ := hE3
              clear hO hW

              have hlc' : lc.length + 1 ≤ 200 := by simpa using hlc
              by_cases hj : j < lc.length + 1
              · obtain ⟨_, _, _, hvb, _, _, g3, g4⟩ := HC.out.cell (by simp)
                cases hvb
                have hjl2 : j < (y :: lc).length := by simpa using hj
                obtain ⟨q0, q1⟩ := iv_cells g4 j hjl2
                obtain ⟨y1, hy1⟩ : ∃ y1, y1 = ((y :: lc)[j]'hjl2).1 := ⟨_, rfl⟩
                obtain ⟨y2, hy2⟩ : ∃ y2, y2 = ((y :: lc)[j]'hjl2).2 := ⟨_, rfl⟩
                rw [← hy1] at q0
                rw [← hy2] at q1
                have hLj : (y :: lc).drop j = (y1, y2) :: (y :: lc).drop (j + 1) := by rw [List.drop_eq_getElem_cons hjl2, hy1, hy2]
                rw [hLj] at hE3
                clear hy1 hy2 hLj hjl2 g4
                have zb3 : LtD bb W3.heap.size := Nat.lt_of_lt_of_le g3 HW3.out.size
                have kj0 : W3.cell? ⟨bb, ob + j * 2, none⟩ = some (.int .i64 y1) := (HW3.out.cell (p := ⟨bb, ob + j * 2, none⟩) g3).trans q0
                have kj1 : W3.cell? ⟨bb, ob + j * 2 + 1, none⟩ = some (.int .i64 y2) := (HW3.out.cell (p := ⟨bb, ob + j * 2 + 1, none⟩) g3).trans q1
                have hjI : (j : Int) < (lc.length : Int) + 1 := by omega
                clear q0 q1 g3
                by_cases hbr : x2 ≤ y1
                · have hdb : decide (x2 ≤ y1) = true := by simpa using hbr
                  have HT : Hid (ad ++ (if f < x2 then [(f, x2)] else []) = acc ++ cut1 x1 x2 (skipI x1 lb)) := by
                    have e := hE3.out
                    rw [cut1, if_pos (Or.inl hbr)] at e
                    exact e
                  clear hbr
                  go_upto_region 15 with fail
                  by_cases hfx : f < x2
                  · have hdx : decide (f < x2) = true := by simpa using hfx
                    have HFX : Hid (f < x2) := hfx
                    clear hfx
                    go_upto_region 17 with (first | (at_builtin; have tokA : True := trivial; refine wpList_append_own_at _ rfl _ _ 29 rfl w.heap.size 45 i0 (.agg #[.int .i64 0, .int .i64 0]) 2 16 Try.underlying29 hi0 hz0 hs0 hy0 rfl (by decide) _ _ _ rfl (own_ext HO3.out (by (exact Ext.of_below (by (repeat' (first | (with_reducible exact Below.refl _ _) | (with_reducible assumption) | (with_reducible refine Below.alloc ?_ ?_ _) | (with_reducible refine Below.wext ?_ ?_ _ _) | (with_reducible refine Below.drew ?_) | (with_reducible refine Below.setCell ?_ ?_ _) | (with_reducible exact Nat.le_refl _) | (with_reducible refine Below.drewN' ?_ _) | (simp; omega) | (simp; done))))))) ⟨_, 0, none⟩ 1 1 [.int .i64 f, .int .i64 x2] rfl rfl (cells_new2 _ _ _ _ (by simp)) (by simp [Value.oneCell']) (by unfold maxLen; omega) (by omega) (by simp; omega) ?_; intro vA wA hownA hgrA _ hatA; replace hownA : Hid _ := hownA; replace hgrA : Hid _ := hgrA; replace hatA : Hid _ := hatA))
                    go_wp2_with fail
                    go_roundw
                    case rel =>
                      refine ⟨y :: lc, ad ++ [(f, x2)], i + 1, by go_num, by omega, HC.out, app_own hownA.out, (HW3.out.trans (below_le hs3 (Ext.below (by (exact Ext.of_below (by (repeat' (first | (with_reducible exact Below.refl _ _) | (with_reducible assumption) | (with_reducible refine Below.alloc ?_ ?_ _) | (with_reducible refine Below.wext ?_ ?_ _ _) | (with_reducible refine Below.drew ?_) | (with_reducible refine Below.setCell ?_ ?_ _) | (with_reducible exact Nat.le_refl _) | (with_reducible refine Below.drewN' ?_ _) | (simp; omega) | (simp; done))))))))).trans (below_of_grown hgrA.out (by simp; omega) (fun k hk => (HO3.out.lt k hk).1)), cut_round HE.out hlt HX.out HSK.out ?_, ?_, hlc⟩
                      · have e := HT.out
                        rwa [if_pos HFX.out] at e
                      · simp only [List.length_append, List.length_cons, List.length_nil] at hlc ⊢
                        omega
                    case measure => simp [intOf]; omega
                  · have hdx : decide (f < x2) = false := by simpa using hfx
                    have HFX : Hid (¬ f < x2) := hfx
                    clear hfx
                    go_upto_region 17 with fail
                    go_wp2_with fail
                    go_roundw
                    case rel =>
                      refine ⟨y :: lc, ad, i + 1, by go_num, by omega, HC.out, own_ext HO3.out (by first | (exact Ext.of_below (by (repeat' (first | (with_reducible exact Below.refl _ _) | (with_reducible assumption) | (with_reducible refine Below.alloc ?_ ?_ _) | (with_reducible refine Below.wext ?_ ?_ _ _) | (with_reducible refine Below.drew ?_) | (with_reducible refine Below.setCell ?_ ?_ _) | (with_reducible exact Nat.le_refl _) | (with_reducible refine Below.drewN' ?_ _) | (simp; omega) | (simp; done))))) | exact Ext.of_below (Below.drewN' (Below.refl _ _) _)), HW3.out.trans (below_le hs3 (Ext.below (by (exact Ext.of_below (by (repeat' (first | (with_reducible exact Below.refl _ _) | (with_reducible assumption) | (with_reducible refine Below.alloc ?_ ?_ _) | (with_reducible refine Below.wext ?_ ?_ _ _) | (with_reducible refine Below.drew ?_) | (with_reducible refine Below.setCell ?_ ?_ _) | (with_reducible exact Nat.le_refl _) | (with_reducible refine Below.drewN' ?_ _) | (simp; omega) | (simp; done)))))))), cut_round HE.out hlt HX.out HSK.out ?_, ?_, hlc⟩
                      · have e := HT.out
                        rw [if_neg HFX.out, List.append_nil] at e
                        exact e
                      · simp only [List.length_cons, List.length_nil] at hlc ⊢
                        omega
                    case measure => simp [intOf]; omega
                · have hdb : decide (x2 ≤ y1) = false := by simpa using hbr
                  by_cases hbf : x2 ≤ f
                  · have hdf : decide (x2 ≤ f) = true := by simpa using hbf
                    have HT : Hid (ad ++ (if f < x2 then [(f, x2)] else []) = acc ++ cut1 x1 x2 (skipI x1 lb)) := by
                      have e := hE3.out
                      rw [cut1, if_pos (Or.inr hbf)] at e
                      exact e
                    clear hbf hbr
                    go_upto_region 15 with fail
                    by_cases hfx : f < x2
                    · have hdx : decide (f < x2) = true := by simpa using hfx
                      have HFX : Hid (f < x2) := hfx
                      clear hfx
                      go_upto_region 17 with (first | (at_builtin; have tokA : True := trivial; refine wpList_append_own_at _ rfl _ _ 29 rfl w.heap.size 45 i0 (.agg #[.int .i64 0, .int .i64 0]) 2 16 Try.underlying29 hi0 hz0 hs0 hy0 rfl (by decide) _ _ _ rfl (own_ext HO3.out (by (exact Ext.of_below (by (repeat' (first | (with_reducible exact Below.refl _ _) | (with_reducible assumption) | (with_reducible refine Below.alloc ?_ ?_ _) | (with_reducible refine Below.wext ?_ ?_ _ _) | (with_reducible refine Below.drew ?_) | (with_reducible refine Below.setCell ?_ ?_ _) | (with_reducible exact Nat.le_refl _) | (with_reducible refine Below.drewN' ?_ _) | (simp; omega) | (simp; done))))))) ⟨_, 0, none⟩ 1 1 [.int .i64 f, .int .i64 x2] rfl rfl (cells_new2 _ _ _ _ (by simp)) (by simp [Value.oneCell']) (by unfold maxLen; omega) (by omega) (by simp; omega) ?_; intro vA wA hownA hgrA _ hatA; replace hownA : Hid _ := hownA; replace hgrA : Hid _ := hgrA; replace hatA : Hid _ := hatA))
                      go_wp2_with fail
                      go_roundw
                      case rel =>
                        refine ⟨y :: lc, ad ++ [(f, x2)], i + 1, by go_num, by omega, HC.out, app_own hownA.out, (HW3.out.trans (below_le hs3 (Ext.below (by (exact Ext.of_below (by (repeat' (first | (with_reducible exact Below.refl _ _) | (with_reducible assumption) | (with_reducible refine Below.alloc ?_ ?_ _) | (with_reducible refine Below.wext ?_ ?_ _ _) | (with_reducible refine Below.drew ?_) | (with_reducible refine Below.setCell ?_ ?_ _) | (with_reducible exact Nat.le_refl _) | (with_reducible refine Below.drewN' ?_ _) | (simp; omega) | (simp; done))))))))).trans (below_of_grown hgrA.out (by simp; omega) (fun k hk => (HO3.out.lt k hk).1)), cut_round HE.out hlt HX.out HSK.out ?_, ?_, hlc⟩
                        · have e := HT.out
                          rwa [if_pos HFX.out] at e
                        · simp only [List.length_append, List.length_cons, List.length_nil] at hlc ⊢
                          omega
                      case measure => simp [intOf]; omega
                    · have hdx : decide (f < x2) = false := by simpa using hfx
                      have HFX : Hid (¬ f < x2) := hfx
                      clear hfx
                      go_upto_region 17 with fail
                      go_wp2_with fail
                      go_roundw
                      case rel =>
                        refine ⟨y :: lc, ad, i + 1, by go_num, by omega, HC.out, own_ext HO3.out (by first | (exact Ext.of_below (by (repeat' (first | (with_reducible exact Below.refl _ _) | (with_reducible assumption) | (with_reducible refine Below.alloc ?_ ?_ _) | (with_reducible refine Below.wext ?_ ?_ _ _) | (with_reducible refine Below.drew ?_) | (with_reducible refine Below.setCell ?_ ?_ _) | (with_reducible exact Nat.le_refl _) | (with_reducible refine Below.drewN' ?_ _) | (simp; omega) | (simp; done))))) | exact Ext.of_below (Below.drewN' (Below.refl _ _) _)), HW3.out.trans (below_le hs3 (Ext.below (by (exact Ext.of_below (by (repeat' (first | (with_reducible exact Below.refl _ _) | (with_reducible assumption) | (with_reducible refine Below.alloc ?_ ?_ _) | (with_reducible refine Below.wext ?_ ?_ _ _) | (with_reducible refine Below.drew ?_) | (with_reducible refine Below.setCell ?_ ?_ _) | (with_reducible exact Nat.le_refl _) | (with_reducible refine Below.drewN' ?_ _) | (simp; omega) | (simp; done)))))))), cut_round HE.out hlt HX.out HSK.out ?_, ?_, hlc⟩
                        · have e := HT.out
                          rw [if_neg HFX.out, List.append_nil] at e
                          exact e
                        · simp only [List.length_cons, List.length_nil] at hlc ⊢
                          omega
                      case measure => simp [intOf]; omega
                  · have hdf : decide (x2 ≤ f) = false := by simpa using hbf
                    have hE4 : Hid (ad ++ ((if f < y1 then [(f, y1)] else []) ++ cut1 y2 x2 ((y :: lc).drop (j + 1))) = acc ++ cut1 x1 x2 (skipI x1 lb)) := by
                      have e := hE3.out
                      rw [cut1, if_neg (by omega)] at e
                      exact e
                    clear hbf hbr hE3
                    by_cases hfy : f < y1
                    · have hdy : decide (f < y1) = true := by simpa using hfy
                      have HFY : Hid (f < y1) := hfy
                      clear hfy
                      go_upto_region 13 with (first | (at_builtin; have tokA : True := trivial; refine wpList_append_own_at _ rfl _ _ 29 rfl w.heap.size 45 i0 (.agg #[.int .i64 0, .int .i64 0]) 2 16 Try.underlying29 hi0 hz0 hs0 hy0 rfl (by decide) _ _ _ rfl (own_ext HO3.out (by (exact Ext.of_below (by (repeat' (first | (with_reducible exact Below.refl _ _) | (with_reducible assumption) | (with_reducible refine Below.alloc ?_ ?_ _) | (with_reducible refine Below.wext ?_ ?_ _ _) | (with_reducible refine Below.drew ?_) | (with_reducible refine Below.setCell ?_ ?_ _) | (with_reducible exact Nat.le_refl _) | (with_reducible refine Below.drewN' ?_ _) | (simp; omega) | (simp; done))))))) ⟨_, 0, none⟩ 1 1 [.int .i64 f, .int .i64 y1] rfl rfl (cells_new2 _ _ _ _ (by simp)) (by simp [Value.oneCell']) (by unfold maxLen; omega) (by omega) (by simp; omega) ?_; intro vA wA hownA hgrA _ hatA; replace hownA : Hid _ := hownA; replace hgrA : Hid _ := hgrA; replace hatA : Hid _ := hatA))
                      have hny : some W3.heap.size ≠ u5.ownBlock := fun e => by have := (HO3.out.lt _ e.symm).2; omega
                      have hnx : some W1.heap.size ≠ u5.ownBlock := fun e => hob3.out e.symm
                      have zx3' : W1.heap.size < W3.heap.size := zx3
                      have zA : LtD W1.heap.size wA.heap.size := by have := hgrA.out.size; simp at this; show _ < _; omega
                      have zA3 : LtD W3.heap.size wA.heap.size := by have := hgrA.out.size; simp at this; show _ < _; omega
                      have cA0 : wA.cell? ⟨W1.heap.size, 0, none⟩ = some (.int .i64 f) := (grown_cells hgrA.out _ _ (by simp; omega) hnx).trans (by simp [go_sem, y0, zx3])
                      have cA1 : wA.cell? ⟨W1.heap.size, 1, none⟩ = some (.int .i64 x2) := (grown_cells hgrA.out _ _ (by simp; omega) hnx).trans (by simp [go_sem, y1', zx3])
                      have fA0 : wA.frozen? ⟨W1.heap.size, 0, none⟩ = false := (World.frozen?_of_block (a := ⟨W1.heap.size, 0, none⟩) (hgrA.out.block W1.heap.size (by simp; omega) hnx)).trans (by simp [go_sem, e0, zx3])
                      have fA1 : wA.frozen? ⟨W1.heap.size, 1, none⟩ = false := (World.frozen?_of_block (a := ⟨W1.heap.size, 1, none⟩) (hgrA.out.block W1.heap.size (by simp; omega) hnx)).trans (by simp [go_sem, e1, zx3])
                      have cAy : wA.cell? ⟨W3.heap.size, 1, none⟩ = some (.int .i64 y2) := (grown_cells hgrA.out _ _ (by simp; omega) hny).trans (by simp [go_sem])
                      have hobA : Hid (vA.ownBlock ≠ some W1.heap.size) := by
                        intro e
                        rcases hatA.out with h | h
                        · exact hob3.out (h.symm.trans e)
                        · rw [e] at h; simp at h; omega
                      have HWA : Hid (Below w.heap.size w wA) := (HW3.out.trans (below_le hs3 (Ext.below (by (exact Ext.of_below (by (repeat' (first | (with_reducible exact Below.refl _ _) | (with_reducible assumption) | (with_reducible refine Below.alloc ?_ ?_ _) | (with_reducible refine Below.wext ?_ ?_ _ _) | (with_reducible refine Below.drew ?_) | (with_reducible refine Below.setCell ?_ ?_ _) | (with_reducible exact Nat.le_refl _) | (with_reducible refine Below.drewN' ?_ _) | (simp; omega) | (simp; done))))))))).trans (below_of_grown hgrA.out (by simp; omega) (fun k hk => (HO3.out.lt k hk).1))
                      clear hny hnx hgrA hatA
                      clear zx3'
                      go_wp2_with fail
                      go_roundw
                      case rel =>
                        refine ⟨y2, ad ++ [(f, y1)], j + 1, by go_num, by omega, own_other (app_own hownA.out) hobA.out _, Below.setCell HWA.out hs _, ?_, ?_, ?_, ?_, ?_, hobA.out, ?_, ?_⟩
                        · show _ < _
                          have : _ < _ := zA
                          simpa using this
                        · simp [go_sem, zA, cA0]
                        · simp [go_sem, zA, cA1]
                        · simp [go_sem, zA, fA0]
                        · simp [go_sem, zA, fA1]
                        · have e := hE4.out
                          rw [if_pos HFY.out] at e
                          rw [← e]; simp
                        · simp only [List.length_append, List.length_cons, List.length_nil]
                          omega
                      case measure => simp [intOf]; omega
                    · have hdy : decide (f < y1) = false := by simpa using hfy
                      have HFY : Hid (¬ f < y1) := hfy
                      clear hfy
                      go_upto_region 13 with fail
                      go_wp2_with fail
                      go_roundw
                      case rel =>
                        have zx3' : W1.heap.size < W3.heap.size := zx3
                        refine ⟨y2, ad, j + 1, by go_num, by omega, ?_, ?_, ?_, ?_, ?_, ?_, ?_, hob3.out, ?_, ?_⟩
                        · exact own_ext (own_other HO3.out hob3.out _) (by (exact Ext.of_below (by (repeat' (first | (with_reducible exact Below.refl _ _) | (with_reducible assumption) | (with_reducible refine Below.alloc ?_ ?_ _) | (with_reducible refine Below.wext ?_ ?_ _ _) | (with_reducible refine Below.drew ?_) | (with_reducible refine Below.setCell ?_ ?_ _) | (with_reducible exact Nat.le_refl _) | (with_reducible refine Below.drewN' ?_ _) | (simp; omega) | (simp; done))))))
                        · exact (Below.setCell HW3.out hs _).trans (below_le (by simpa using hs3) (Ext.below (by (exact Ext.of_below (by (repeat' (first | (with_reducible exact Below.refl _ _) | (with_reducible assumption) | (with_reducible refine Below.alloc ?_ ?_ _) | (with_reducible refine Below.wext ?_ ?_ _ _) | (with_reducible refine Below.drew ?_) | (with_reducible refine Below.setCell ?_ ?_ _) | (with_reducible exact Nat.le_refl _) | (with_reducible refine Below.drewN' ?_ _) | (simp; omega) | (simp; done))))))))
                        · show _ < _
                          simp; omega
                        · simp [go_sem, zx3, y0]
                        · simp [go_sem, zx3, y1']
                        · simp [go_sem, zx3, e0]
                        · simp [go_sem, zx3, e1]
                        · have e := hE4.out
                          rw [if_neg HFY.out] at e
                          simpa using e
                        · omega
                      case measure => simp [intOf]; omega
              · have hj2 : j = (y :: lc).length := by simp; omega
                have HT : Hid (ad ++ (if f < x2 then [(f, x2)] else []) = acc ++ cut1 x1 x2 (skipI x1 lb)) := by
                  have e := hE3.out
                  rw [List.drop_eq_nil_of_le (by omega)] at e
                  show _ = _
                  simpa [cut1] using e
                clear hj2
                go_upto_region 15 with fail
                by_cases hfx : f < x2
                · have hdx : decide (f < x2) = true := by simpa using hfx
                  have HFX : Hid (f < x2) := hfx
                  clear hfx
                  go_upto_region 17 with (first | (at_builtin; have tokA : True := trivial; refine wpList_append_own_at _ rfl _ _ 29 rfl w.heap.size 45 i0 (.agg #[.int .i64 0, .int .i64 0]) 2 16 Try.underlying29 hi0 hz0 hs0 hy0 rfl (by decide) _ _ _ rfl (own_ext HO3.out (by (exact Ext.of_below (by (repeat' (first | (with_reducible exact Below.refl _ _) | (with_reducible assumption) | (with_reducible refine Below.alloc ?_ ?_ _) | (with_reducible refine Below.wext ?_ ?_ _ _) | (with_reducible refine Below.drew ?_) | (with_reducible refine Below.setCell ?_ ?_ _) | (with_reducible exact Nat.le_refl _) | (with_reducible refine Below.drewN' ?_ _) | (simp; omega) | (simp; done))))))) ⟨_, 0, none⟩ 1 1 [.int .i64 f, .int .i64 x2] rfl rfl (cells_new2 _ _ _ _ (by simp)) (by simp [Value.oneCell']) (by unfold maxLen; omega) (by omega) (by simp; omega) ?_; intro vA wA hownA hgrA _ hatA; replace hownA : Hid _ := hownA; replace hgrA : Hid _ := hgrA; replace hatA : Hid _ := hatA))
                  go_wp2_with fail
                  go_roundw
                  case rel =>
                    refine ⟨y :: lc, ad ++ [(f, x2)], i + 1, by go_num, by omega, HC.out, app_own hownA.out, (HW3.out.trans (below_le hs3 (Ext.below (by (exact Ext.of_below (by (repeat' (first | (with_reducible exact Below.refl _ _) | (with_reducible assumption) | (with_reducible refine Below.alloc ?_ ?_ _) | (with_reducible refine Below.wext ?_ ?_ _ _) | (with_reducible refine Below.drew ?_) | (with_reducible refine Below.setCell ?_ ?_ _) | (with_reducible exact Nat.le_refl _) | (with_reducible refine Below.drewN' ?_ _) | (simp; omega) | (simp; done))))))))).trans (below_of_grown hgrA.out (by simp; omega) (fun k hk => (HO3.out.lt k hk).1)), cut_round HE.out hlt HX.out HSK.out ?_, ?_, hlc⟩
                    · have e := HT.out
                      rwa [if_pos HFX.out] at e
                    · simp only [List.length_append, List.length_cons, List.length_nil] at hlc ⊢
                      omega
                  case measure => simp [intOf]; omega
                · have hdx : decide (f < x2) = false := by simpa using hfx
                  have HFX : Hid (¬ f < x2) := hfx
                  clear hfx
                  go_upto_region 17 with fail
                  go_wp2_with fail
                  go_roundw
                  case rel =>
                    refine ⟨y :: lc, ad, i + 1, by go_num, by omega, HC.out, own_ext HO3.out (by first | (exact Ext.of_below (by (repeat' (first | (with_reducible exact Below.refl _ _) | (with_reducible assumption) | (with_reducible refine Below.alloc ?_ ?_ _) | (with_reducible refine Below.wext ?_ ?_ _ _) | (with_reducible refine Below.drew ?_) | (with_reducible refine Below.setCell ?_ ?_ _) | (with_reducible exact Nat.le_refl _) | (with_reducible refine Below.drewN' ?_ _) | (simp; omega) | (simp; done))))) | exact Ext.of_below (Below.drewN' (Below.refl _ _) _)), HW3.out.trans (below_le hs3 (Ext.below (by (exact Ext.of_below (by (repeat' (first | (with_reducible exact Below.refl _ _) | (with_reducible assumption) | (with_reducible refine Below.alloc ?_ ?_ _) | (with_reducible refine Below.wext ?_ ?_ _ _) | (with_reducible refine Below.drew ?_) | (with_reducible refine Below.setCell ?_ ?_ _) | (with_reducible exact Nat.le_refl _) | (with_reducible refine Below.drewN' ?_ _) | (simp; omega) | (simp; done)))))))), cut_round HE.out hlt HX.out HSK.out ?_, ?_, hlc⟩
                    · have e := HT.out
                      rw [if_neg HFX.out, List.append_nil] at e
                      exact e
                    · simp only [List.length_cons, List.length_nil] at hlc ⊢
                      omega
                  case measure => simp [intOf]; omega
    · go_wp2_with fail
      go_returns
      refine ⟨_, rfl, ?_, ?_⟩
      · have e := HE.out
        rw [List.drop_eq_nil_of_le (by omega)] at e
        simp only [cutI, List.append_nil] at e
        rw [← e]
        exact HO.out
      · exact HW.out

end Go.Proofs.Ytkdjbiekjgeafaa.Iv

set_option linter.unusedSimpArgs false
set_option linter.unusedVariables false
namespace Go.Proofs.Ytkdjbiekjgeafaa.Iv
open Go.RowKit

set_option maxRecDepth 100000 in
theorem own_mono {w : World} {base base' : Nat} {e : TypeId} {m n : Nat} {v : Value} {xs : List Value} (h : w.ownsRow base e m v n xs) (hb : base' ≤ base) : w.ownsRow base' e m v n xs := by
  obtain ⟨h1, h2⟩ := h
  refine ⟨h1, ?_⟩
  rcases h2 with h2 | ⟨g, cap, cur, hv, hg, hr⟩
  · exact .inl h2
  · exact .inr ⟨g, cap, cur, hv, by omega, hr⟩
/-- A list of the call's own, and an error. -/
def resP (base : Nat) (l : List (Int × Int)) (x : Int) (w : World) (e : Ending) (w' : World) : Prop :=
  ∃ r, e = .returned (.tuple #[r, .int .i64 x]) ∧ w'.ownsRow base 45 2 r l.length (ivF l) ∧ Below w.heap.size w w'
set_option maxRecDepth 100000 in
theorem resP_err {w w' : World} {base : Nat} {l : List (Int × Int)} {x y : Int} (h : x = y) (hy : y ≠ 0) (hE : Ext w w') :
    resP base (if x = 0 then l else []) x w (.returned (.tuple #[.slice none 0 0, .int .i64 y])) w' := by
  subst h
  rw [if_neg hy]
  exact ⟨_, rfl, World.ownsRow_nil _ _ _ _, hE.below⟩
set_option maxRecDepth 100000 in
theorem resP_nil {w w' : World} {base : Nat} {x : Int} (hE : Ext w w') : resP base [] x w (.returned (.tuple #[.slice none 0 0, .int .i64 x])) w' :=
  ⟨_, rfl, World.ownsRow_nil _ _ _ _, hE.below⟩
set_option maxRecDepth 100000 in
theorem resP_own {w w' : World} {base b' : Nat} {l : List (Int × Int)} {x : Int} {r : Value} (ho : w'.ownsRow b' 45 2 r l.length (ivF l)) (hb : base ≤ b') (hE : Ext w w') :
    resP base l x w (.returned (.tuple #[r, .int .i64 x])) w' :=
  ⟨_, rfl, own_mono ho hb, hE.below⟩
set_option maxRecDepth 100000 in
theorem resP_ok {w w' : World} {base b' : Nat} {l : List (Int × Int)} {x : Int} {r : Value} (h : x = 0) (ho : w'.ownsRow b' 45 2 r l.length (ivF l)) (hb : base ≤ b') (hE : Ext w w') :
    resP base (if x = 0 then l else []) x w (.returned (.tuple #[r, .int .i64 0])) w' := by
  subst h
  rw [if_pos rfl]
  exact ⟨_, rfl, own_mono ho hb, hE.below⟩
/-- The error of an edit. -/
def errI (s : List (Int × Int)) (f t : Int) : Int := if chkI s = 0 then (if t < f then 2 else 0) else chkI s
set_option maxRecDepth 100000 in
theorem errI_2 {s : List (Int × Int)} {f t : Int} (h : chkI s = 0) (h1 : t < f) : errI s f t = 2 := by unfold errI; rw [if_pos h, if_pos h1]
set_option maxRecDepth 100000 in
theorem errI_0 {s : List (Int × Int)} {f t : Int} (h : chkI s = 0) (h1 : ¬ t < f) : errI s f t = 0 := by unfold errI; rw [if_pos h, if_neg h1]
set_option maxRecDepth 100000 in
theorem errI_c {s : List (Int × Int)} {f t : Int} (h : chkI s ≠ 0) : errI s f t = chkI s := by unfold errI; rw [if_neg h]
set_option maxRecDepth 100000 in
theorem oneI_le (x : Int × Int) : (oneI x).length ≤ 1 := by unfold oneI; split <;> simp
set_option maxRecDepth 100000 in
theorem one_asc {f t : Int} (h : f ≤ t) : Asc none (oneI (f, t)) := by
  unfold oneI
  split
  · trivial
  · rename_i hne
    exact ⟨by simp, by simp at hne ⊢; omega, trivial⟩
set_option maxRecDepth 100000 in
theorem both_one {s : List (Int × Int)} {f t : Int} (hs : chkI s = 0) (h : f ≤ t) : bothI s (oneI (f, t)) = 0 := by
  unfold bothI
  rw [if_pos hs]
  exact (chkI_asc _).2 (one_asc h)

set_option maxRecDepth 100000 in
theorem uni_any (a b : List (Int × Int)) (v u : Value) (w : World) (hv : isSl w v 2 a.length (ivF a)) (hu : isSl w u 2 b.length (ivF b)) (hab : a.length + b.length ≤ 200) :
    Calls Try.prog 33 #[v, u] w (resP w.heap.size (if bothI a b = 0 then uniL a b else []) (bothI a b) w) := by
  by_cases h0 : bothI a b = 0
  · refine (uni_ok a b v u w hv hu hab h0).mono ?_
    rintro e w' ⟨r, rfl, h1, h2⟩
    rw [h0]
    exact ⟨r, rfl, h1, h2⟩
  · refine (uni_bad a b v u w hv hu h0).mono ?_
    rintro e w' ⟨rfl, h⟩
    exact resP_err rfl h0 h
set_option maxRecDepth 100000 in
set_option maxHeartbeats 4000000 in
theorem add_any (s : List (Int × Int)) (f t : Int) (v : Value) (w : World) (hv : isSl w v 2 s.length (ivF s)) (hl : s.length ≤ 190) :
    Calls Try.prog 14 #[v, .agg #[.int .i64 f, .int .i64 t]] w (resP w.heap.size (if errI s f t = 0 then uniL s (oneI (f, t)) else []) (errI s f t) w) := by
  have HV : Hid (isSl w v 2 s.length (ivF s)) := hv
  have hl : s.length ≤ 200 := by omega
  clear hv
  by_cases h0 : chkI s = 0
  · have e1 : (chkI s != 0) = false := by simp [h0]
    have HC : Hid (chkI s = 0) := h0
    by_cases h1 : t < f
    · have e2 : decide (t < f) = true := by simpa using h1
      have HE : Hid (errI s f t = 2) := errI_2 h0 h1
      rw [HE.out, if_neg (by decide)]
      clear h0 h1
      go_enter Try.func14, Try.ntmps14
      go_upto_region 9999 with (first | (go_at_call 21; refine (chk_any s v _ (HV.out.ext (by (exact Ext.of_below (by (repeat' (first | (with_reducible exact Below.refl _ _) | (with_reducible assumption) | (with_reducible refine Below.alloc ?_ ?_ _) | (with_reducible refine Below.wext ?_ ?_ _ _) | (with_reducible refine Below.drew ?_) | (with_reducible refine Below.setCell ?_ ?_ _) | (with_reducible exact Nat.le_refl _) | (with_reducible refine Below.drewN' ?_ _) | (simp; omega) | (simp; done)))))))).mono ?_; rintro e w1 ⟨rfl, os1, n1, rfl⟩))
      all_goals go_ret2
      all_goals exact resP_nil (by (exact Ext.of_below (by (repeat' (first | (with_reducible exact Below.refl _ _) | (with_reducible assumption) | (with_reducible refine Below.alloc ?_ ?_ _) | (with_reducible refine Below.wext ?_ ?_ _ _) | (with_reducible refine Below.drew ?_) | (with_reducible refine Below.setCell ?_ ?_ _) | (with_reducible exact Nat.le_refl _) | (with_reducible refine Below.drewN' ?_ _) | (simp; omega) | (simp; done))))))
    · have e2 : decide (t < f) = false := by simpa using h1
      have HE : Hid (errI s f t = 0) := errI_0 h0 h1
      have HF : Hid (f ≤ t) := by show f ≤ t; omega
      rw [HE.out, if_pos rfl]
      clear h0 h1
      go_enter Try.func14, Try.ntmps14
      go_upto_region 6 with (first | (go_at_call 21; refine (chk_any s v _ (HV.out.ext (by (exact Ext.of_below (by (repeat' (first | (with_reducible exact Below.refl _ _) | (with_reducible assumption) | (with_reducible refine Below.alloc ?_ ?_ _) | (with_reducible refine Below.wext ?_ ?_ _ _) | (with_reducible refine Below.drew ?_) | (with_reducible refine Below.setCell ?_ ?_ _) | (with_reducible exact Nat.le_refl _) | (with_reducible refine Below.drewN' ?_ _) | (simp; omega) | (simp; done)))))))).mono ?_; rintro e w1 ⟨rfl, os1, n1, rfl⟩))
      go_upto_region 9999 with (first | (go_at_call 23; refine (one_any f t _).mono ?_; rintro e w1 ⟨v1, rfl, hsl1, os2, n2, rfl⟩; replace hsl1 : Hid _ := hsl1) | (go_at_call 33; refine (uni_ok s (oneI (f, t)) v v1 _ (HV.out.ext (by (exact Ext.of_below (by (repeat' (first | (with_reducible exact Below.refl _ _) | (with_reducible assumption) | (with_reducible refine Below.alloc ?_ ?_ _) | (with_reducible refine Below.wext ?_ ?_ _ _) | (with_reducible refine Below.drew ?_) | (with_reducible refine Below.setCell ?_ ?_ _) | (with_reducible exact Nat.le_refl _) | (with_reducible refine Below.drewN' ?_ _) | (simp; omega) | (simp; done))))))) (isSl.ext hsl1.out (by (exact Ext.of_below (by (repeat' (first | (with_reducible exact Below.refl _ _) | (with_reducible assumption) | (with_reducible refine Below.alloc ?_ ?_ _) | (with_reducible refine Below.wext ?_ ?_ _ _) | (with_reducible refine Below.drew ?_) | (with_reducible refine Below.setCell ?_ ?_ _) | (with_reducible exact Nat.le_refl _) | (with_reducible refine Below.drewN' ?_ _) | (simp; omega) | (simp; done))))))) (by have := oneI_le (f, t); omega) (both_one HC.out HF.out)).mono ?_; rintro e w1 ⟨r1, rfl, hown, hbel⟩; obtain ⟨os3, n3, rfl⟩ := Ext.of_below hbel; replace hown : Hid _ := hown; clear hbel))
      all_goals go_ret2
      all_goals exact resP_own (own_ext hown.out (by (exact Ext.of_below (by (repeat' (first | (with_reducible exact Below.refl _ _) | (with_reducible assumption) | (with_reducible refine Below.alloc ?_ ?_ _) | (with_reducible refine Below.wext ?_ ?_ _ _) | (with_reducible refine Below.drew ?_) | (with_reducible refine Below.setCell ?_ ?_ _) | (with_reducible exact Nat.le_refl _) | (with_reducible refine Below.drewN' ?_ _) | (simp; omega) | (simp; done))))))) (by first | (simp; done) | (simp; omega)) (by (exact Ext.of_below (by (repeat' (first | (with_reducible exact Below.refl _ _) | (with_reducible assumption) | (with_reducible refine Below.alloc ?_ ?_ _) | (with_reducible refine Below.wext ?_ ?_ _ _) | (with_reducible refine Below.drew ?_) | (with_reducible refine Below.setCell ?_ ?_ _) | (with_reducible exact Nat.le_refl _) | (with_reducible refine Below.drewN' ?_ _) | (simp; omega) | (simp; done))))))
  · have e1 : (chkI s != 0) = true := by simp [h0]
    have HE : Hid (errI s f t = chkI s) := errI_c h0
    have HN : Hid (chkI s ≠ 0) := h0
    rw [HE.out, if_neg h0]
    clear h0
    go_enter Try.func14, Try.ntmps14
    go_upto_region 9999 with (first | (go_at_call 21; refine (chk_any s v _ (HV.out.ext (by (exact Ext.of_below (by (repeat' (first | (with_reducible exact Below.refl _ _) | (with_reducible assumption) | (with_reducible refine Below.alloc ?_ ?_ _) | (with_reducible refine Below.wext ?_ ?_ _ _) | (with_reducible refine Below.drew ?_) | (with_reducible refine Below.setCell ?_ ?_ _) | (with_reducible exact Nat.le_refl _) | (with_reducible refine Below.drewN' ?_ _) | (simp; omega) | (simp; done)))))))).mono ?_; rintro e w1 ⟨rfl, os1, n1, rfl⟩))
    all_goals go_ret2
    all_goals exact resP_nil (by (exact Ext.of_below (by (repeat' (first | (with_reducible exact Below.refl _ _) | (with_reducible assumption) | (with_reducible refine Below.alloc ?_ ?_ _) | (with_reducible refine Below.wext ?_ ?_ _ _) | (with_reducible refine Below.drew ?_) | (with_reducible refine Below.setCell ?_ ?_ _) | (with_reducible exact Nat.le_refl _) | (with_reducible refine Below.drewN' ?_ _) | (simp; omega) | (simp; done))))))

set_option maxRecDepth 100000 in
set_option maxHeartbeats 4000000 in
theorem rem_any (s : List (Int × Int)) (f t : Int) (v : Value) (w : World) (hv : isSl w v 2 s.length (ivF s)) (hl : s.length ≤ 190) :
    Calls Try.prog 16 #[v, .agg #[.int .i64 f, .int .i64 t]] w (resP w.heap.size (if errI s f t = 0 then cutI s (oneI (f, t)) else []) (errI s f t) w) := by
  have HV : Hid (isSl w v 2 s.length (ivF s)) := hv
  have hl : s.length ≤ 200 := by omega
  clear hv
  by_cases h0 : chkI s = 0
  · have e1 : (chkI s != 0) = false := by simp [h0]
    have HC : Hid (chkI s = 0) := h0
    by_cases h1 : t < f
    · have e2 : decide (t < f) = true := by simpa using h1
      have HE : Hid (errI s f t = 2) := errI_2 h0 h1
      rw [HE.out, if_neg (by decide)]
      clear h0 h1
      go_enter Try.func16, Try.ntmps16
      go_upto_region 9999 with (first | (go_at_call 21; refine (chk_any s v _ (HV.out.ext (by (exact Ext.of_below (by (repeat' (first | (with_reducible exact Below.refl _ _) | (with_reducible assumption) | (with_reducible refine Below.alloc ?_ ?_ _) | (with_reducible refine Below.wext ?_ ?_ _ _) | (with_reducible refine Below.drew ?_) | (with_reducible refine Below.setCell ?_ ?_ _) | (with_reducible exact Nat.le_refl _) | (with_reducible refine Below.drewN' ?_ _) | (simp; omega) | (simp; done)))))))).mono ?_; rintro e w1 ⟨rfl, os1, n1, rfl⟩))
      all_goals go_ret2
      all_goals exact resP_nil (by (exact Ext.of_below (by (repeat' (first | (with_reducible exact Below.refl _ _) | (with_reducible assumption) | (with_reducible refine Below.alloc ?_ ?_ _) | (with_reducible refine Below.wext ?_ ?_ _ _) | (with_reducible refine Below.drew ?_) | (with_reducible refine Below.setCell ?_ ?_ _) | (with_reducible exact Nat.le_refl _) | (with_reducible refine Below.drewN' ?_ _) | (simp; omega) | (simp; done))))))
    · have e2 : decide (t < f) = false := by simpa using h1
      have HE : Hid (errI s f t = 0) := errI_0 h0 h1
      have HF : Hid (f ≤ t) := by show f ≤ t; omega
      rw [HE.out, if_pos rfl]
      clear h0 h1
      go_enter Try.func16, Try.ntmps16
      go_upto_region 6 with (first | (go_at_call 21; refine (chk_any s v _ (HV.out.ext (by (exact Ext.of_below (by (repeat' (first | (with_reducible exact Below.refl _ _) | (with_reducible assumption) | (with_reducible refine Below.alloc ?_ ?_ _) | (with_reducible refine Below.wext ?_ ?_ _ _) | (with_reducible refine Below.drew ?_) | (with_reducible refine Below.setCell ?_ ?_ _) | (with_reducible exact Nat.le_refl _) | (with_reducible refine Below.drewN' ?_ _) | (simp; omega) | (simp; done)))))))).mono ?_; rintro e w1 ⟨rfl, os1, n1, rfl⟩))
      go_upto_region 9999 with (first | (go_at_call 23; refine (one_any f t _).mono ?_; rintro e w1 ⟨v1, rfl, hsl1, os2, n2, rfl⟩; replace hsl1 : Hid _ := hsl1) | (go_at_call 22; refine (cut_any s (oneI (f, t)) v v1 _ (HV.out.ext (by (exact Ext.of_below (by (repeat' (first | (with_reducible exact Below.refl _ _) | (with_reducible assumption) | (with_reducible refine Below.alloc ?_ ?_ _) | (with_reducible refine Below.wext ?_ ?_ _ _) | (with_reducible refine Below.drew ?_) | (with_reducible refine Below.setCell ?_ ?_ _) | (with_reducible exact Nat.le_refl _) | (with_reducible refine Below.drewN' ?_ _) | (simp; omega) | (simp; done))))))) (isSl.ext hsl1.out (by (exact Ext.of_below (by (repeat' (first | (with_reducible exact Below.refl _ _) | (with_reducible assumption) | (with_reducible refine Below.alloc ?_ ?_ _) | (with_reducible refine Below.wext ?_ ?_ _ _) | (with_reducible refine Below.drew ?_) | (with_reducible refine Below.setCell ?_ ?_ _) | (with_reducible exact Nat.le_refl _) | (with_reducible refine Below.drewN' ?_ _) | (simp; omega) | (simp; done))))))) (by first | exact hl | exact Nat.le_trans (oneI_le _) (by decide)) (by first | exact hl | exact Nat.le_trans (oneI_le _) (by decide))).mono ?_; rintro e w1 ⟨r1, rfl, hown, hbel⟩; obtain ⟨os3, n3, rfl⟩ := Ext.of_below hbel; replace hown : Hid _ := hown; clear hbel))
      all_goals go_ret2
      all_goals exact resP_own (own_ext hown.out (by (exact Ext.of_below (by (repeat' (first | (with_reducible exact Below.refl _ _) | (with_reducible assumption) | (with_reducible refine Below.alloc ?_ ?_ _) | (with_reducible refine Below.wext ?_ ?_ _ _) | (with_reducible refine Below.drew ?_) | (with_reducible refine Below.setCell ?_ ?_ _) | (with_reducible exact Nat.le_refl _) | (with_reducible refine Below.drewN' ?_ _) | (simp; omega) | (simp; done))))))) (by first | (simp; done) | (simp; omega)) (by (exact Ext.of_below (by (repeat' (first | (with_reducible exact Below.refl _ _) | (with_reducible assumption) | (with_reducible refine Below.alloc ?_ ?_ _) | (with_reducible refine Below.wext ?_ ?_ _ _) | (with_reducible refine Below.drew ?_) | (with_reducible refine Below.setCell ?_ ?_ _) | (with_reducible exact Nat.le_refl _) | (with_reducible refine Below.drewN' ?_ _) | (simp; omega) | (simp; done))))))
  · have e1 : (chkI s != 0) = true := by simp [h0]
    have HE : Hid (errI s f t = chkI s) := errI_c h0
    have HN : Hid (chkI s ≠ 0) := h0
    rw [HE.out, if_neg h0]
    clear h0
    go_enter Try.func16, Try.ntmps16
    go_upto_region 9999 with (first | (go_at_call 21; refine (chk_any s v _ (HV.out.ext (by (exact Ext.of_below (by (repeat' (first | (with_reducible exact Below.refl _ _) | (with_reducible assumption) | (with_reducible refine Below.alloc ?_ ?_ _) | (with_reducible refine Below.wext ?_ ?_ _ _) | (with_reducible refine Below.drew ?_) | (with_reducible refine Below.setCell ?_ ?_ _) | (with_reducible exact Nat.le_refl _) | (with_reducible refine Below.drewN' ?_ _) | (simp; omega) | (simp; done)))))))).mono ?_; rintro e w1 ⟨rfl, os1, n1, rfl⟩))
    all_goals go_ret2
    all_goals exact resP_nil (by (exact Ext.of_below (by (repeat' (first | (with_reducible exact Below.refl _ _) | (with_reducible assumption) | (with_reducible refine Below.alloc ?_ ?_ _) | (with_reducible refine Below.wext ?_ ?_ _ _) | (with_reducible refine Below.drew ?_) | (with_reducible refine Below.setCell ?_ ?_ _) | (with_reducible exact Nat.le_refl _) | (with_reducible refine Below.drewN' ?_ _) | (simp; omega) | (simp; done))))))

end Go.Proofs.Ytkdjbiekjgeafaa.Iv
