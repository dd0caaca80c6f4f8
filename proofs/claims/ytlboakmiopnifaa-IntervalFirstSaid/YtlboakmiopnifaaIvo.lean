/- Layer 02: Union. -/
import Derived.Test.YtlboakmiopnifaaIvn
import Derived.Test.YtlboakmiopnifaaPre
import Derived.Deep.RegionHeld3
set_option linter.unusedSimpArgs false
set_option linter.unusedVariables false
namespace Go.Proofs.Ytlboakmiopnifaa
open Go.RowKit

def lenOf : Value → Nat
  | .slice _ n _ => n
  | _ => 0
/-- s[1:] in the form that the walk gives. -/
theorem isSl_tail' {w : World} {b o c : Nat} {x : Int × Int} {l : List (Int × Int)} (h : isSl w (.slice (some ⟨b, o, none⟩) (l.length + 1) c) 2 (l.length + 1) (ivF (x :: l))) :
    isSl w (.slice (if c = 1 then some ⟨b, o, none⟩ else some ⟨b, o + 2, none⟩) l.length (c - 1)) 2 l.length (ivF l) := by
  split
  · rename_i hc
    obtain ⟨b', o', c', hv, h1, h2, h3, h4⟩ := h.cell (by omega)
    cases hv
    have hl : l.length = 0 := by omega
    refine ⟨ivF_len l, .inr ⟨b, o, c - 1, rfl, by omega, by omega, h3, fun j hj => by omega⟩⟩
  · exact isSl_tail (n := 0) h

set_option maxRecDepth 100000 in
set_option maxHeartbeats 4000000 in
theorem uni_ok (a b : List (Int × Int)) (v u : Value) (w : World) (hv : isSl w v 2 a.length (ivF a)) (hu : isSl w u 2 b.length (ivF b)) (hab : a.length + b.length ≤ 200) (h0 : bothI a b = 0) :
    Calls Try.prog 28 #[v, u] w fun e w' => ∃ r, e = .returned (.tuple #[r, .int .i64 0]) ∧ w'.ownsRow w.heap.size 28 2 r (uniL a b).length (ivF (uniL a b)) ∧ Below w.heap.size w w' := by
  have HV : Hid (isSl w v 2 a.length (ivF a)) := hv
  have HU : Hid (isSl w u 2 b.length (ivF b)) := hu
  have e1 : (bothI a b != 0) = false := by simp [h0]
  clear hv hu h0
  go_enter Try.func28, Try.ntmps28
  go_wp2_with (first | (go_at_call 45; refine (both_any a b v u _ (HV.out.ext (by (exact Ext.of_below (by (repeat' (first | (with_reducible exact Below.refl _ _) | (with_reducible assumption) | (with_reducible refine Below.alloc ?_ ?_ _) | (with_reducible refine Below.wext ?_ ?_ _ _) | (with_reducible refine Below.drew ?_) | (with_reducible refine Below.setCell ?_ ?_ _) | (with_reducible exact Nat.le_refl _) | (with_reducible refine Below.drewN' ?_ _) | (simp; omega) | (simp; done))))))) (HU.out.ext (by (exact Ext.of_below (by (repeat' (first | (with_reducible exact Below.refl _ _) | (with_reducible assumption) | (with_reducible refine Below.alloc ?_ ?_ _) | (with_reducible refine Below.wext ?_ ?_ _ _) | (with_reducible refine Below.drew ?_) | (with_reducible refine Below.setCell ?_ ?_ _) | (with_reducible exact Nat.le_refl _) | (with_reducible refine Below.drewN' ?_ _) | (simp; omega) | (simp; done)))))))).mono ?_; rintro e w1 ⟨rfl, os1, n1, rfl⟩))
  go_loopw [0, 1, 7] (fun va vb vo wr => ∃ la lb acc, isSl w va 2 la.length (ivF la) ∧ isSl w vb 2 lb.length (ivF lb) ∧ wr.ownsRow w.heap.size 28 2 vo acc.length (ivF acc) ∧ Below w.heap.size w wr ∧ (mergeI la lb).foldl putI acc = uniL a b ∧ acc.length + la.length + lb.length ≤ 200) (fun va vb _ _ => lenOf va + lenOf vb)
  case atStart => exact ⟨a, b, [], HV.out, HU.out, World.ownsRow_nil _ _ _ _, by (repeat' (first | (with_reducible exact Below.refl _ _) | (with_reducible assumption) | (with_reducible refine Below.alloc ?_ ?_ _) | (with_reducible refine Below.wext ?_ ?_ _ _) | (with_reducible refine Below.drew ?_) | (with_reducible refine Below.setCell ?_ ?_ _) | (with_reducible exact Nat.le_refl _) | (with_reducible refine Below.drewN' ?_ _) | (simp; omega) | (simp; done))), rfl, by simpa using hab⟩
  case round =>
    obtain ⟨la, lb, acc, hA, hB, hO, hW, hE, hN⟩ := hrel
    have HA : Hid (isSl w u0 2 la.length (ivF la)) := hA
    have HB : Hid (isSl w u1 2 lb.length (ivF lb)) := hB
    obtain ⟨pa, ca, rfl⟩ := sl_form hA
    obtain ⟨pb, cb, rfl⟩ := sl_form hB
    have HO : Hid (wr.ownsRow w.heap.size 28 2 u7 acc.length (ivF acc)) := hO
    have HW : Hid (Below w.heap.size w wr) := hW
    have HE : Hid ((mergeI la lb).foldl putI acc = uniL a b) := hE
    clear hA hB hO hW hE
    cases la with
    | nil =>
      cases lb with
      | nil =>
        simp only [List.length_nil]
        go_wp2_with fail
        go_returns
        refine ⟨_, rfl, ?_, HW.out⟩
        have e := HE.out
        simp only [mergeI, List.foldl_nil] at e
        rw [← e]
        exact HO.out
      | cons y lb =>
        obtain ⟨bb, ob, cb', hvb, g1, g2, g3, g4⟩ := HB.out.cell (by simp)
        obtain ⟨rfl, rfl⟩ : pb = some ⟨bb, ob, none⟩ ∧ cb = cb' := by cases hvb; exact ⟨rfl, rfl⟩
        obtain ⟨q0, q1⟩ := iv_cells g4 0 (by simp)
        have zb : LtD bb wr.heap.size := Nat.lt_of_lt_of_le g3 HW.out.size
        have kb0 : wr.cell? ⟨bb, ob, none⟩ = some (.int .i64 y.1) := (HW.out.cell (p := ⟨bb, ob, none⟩) g3).trans (by simpa using q0)
        have kb1 : wr.cell? ⟨bb, ob + 1, none⟩ = some (.int .i64 y.2) := (HW.out.cell (p := ⟨bb, ob + 1, none⟩) g3).trans (by simpa using q1)
        have zwb : bb < w.heap.size := g3
        have hcapb : lb.length + 1 ≤ cb := by simpa using g1
        have hcapIb : (lb.length : Int) + 1 ≤ (cb : Int) := by omega
        have h1Ib : (1 : Int) ≤ (lb.length : Int) + 1 := by omega
        have h1cb : (1 : Int) ≤ (cb : Int) := by omega
        have h1nb : 1 ≤ cb := by omega
        clear hvb g1 g2 g3 g4 q0 q1
        have hs : w.heap.size ≤ wr.heap.size := HW.out.size
        have hacc : acc.length ≤ 1000 := by omega
        have hneb : ((lb.length : Int) + 1 == 0) = false := by simp; omega
        simp only [List.length_cons, List.length_nil]
        go_upto_region 6 with fail
        go_quiet (fail)
        go_upto_region 8 with fail
        go_region_held3 (fun w' => w'.cell? ⟨bb, ob, none⟩ = some (.int .i64 y.1) ∧ w'.cell? ⟨bb, ob + 1, none⟩ = some (.int .i64 y.2)) (first | go_keep | (exact ⟨(hbel.cell (p := ⟨bb, ob, none⟩) zwb).trans (by simp [kb0]), (hbel.cell (p := ⟨bb, ob + 1, none⟩) zwb).trans (by simp [kb1])⟩)) (first | (go_at_call 46; refine (put_any acc u7 w.heap.size y.1 y.2 _ (by simpa using hs) hacc (by first | exact HO.out.drew | exact HO.out)).mono ?_; intro e w1 hpp; obtain ⟨r, hr, hown, hbel⟩ := hpp; subst hr; dsimp only))
        go_roundw
        case rel =>
          (repeat apply Exists.intro)
          refine ⟨?_, rfl⟩
          refine ⟨[], lb, putI acc y, HA.out, isSl_tail' HB.out, hown, ?_, ?_, ?_⟩
          · first | exact (Below.drewN' HW.out _).trans hbel | exact Below.trans (Below.drew (Below.drew HW.out)) hbel
          · have e := HE.out
            simpa [mergeI] using e
          · have := putI_len acc y
            simp only [List.length_cons, List.length_nil] at hN ⊢
            omega
        case measure => simp [lenOf]
    | cons x la =>
      obtain ⟨ba, oa, c', hv', g1, g2, g3, g4⟩ := HA.out.cell (by simp)
      obtain ⟨rfl, rfl⟩ : pa = some ⟨ba, oa, none⟩ ∧ ca = c' := by cases hv'; exact ⟨rfl, rfl⟩
      obtain ⟨a0, a1⟩ := iv_cells g4 0 (by simp)
      have zb : LtD ba wr.heap.size := Nat.lt_of_lt_of_le g3 HW.out.size
      have k0 : wr.cell? ⟨ba, oa, none⟩ = some (.int .i64 x.1) := (HW.out.cell (p := ⟨ba, oa, none⟩) g3).trans (by simpa using a0)
      have k1 : wr.cell? ⟨ba, oa + 1, none⟩ = some (.int .i64 x.2) := (HW.out.cell (p := ⟨ba, oa + 1, none⟩) g3).trans (by simpa using a1)
      have zw : ba < w.heap.size := g3
      have hcap : la.length + 1 ≤ ca := by simpa using g1
      have hcapI : (la.length : Int) + 1 ≤ (ca : Int) := by omega
      have h1I : (1 : Int) ≤ (la.length : Int) + 1 := by omega
      have h1c : (1 : Int) ≤ (ca : Int) := by omega
      have h1n : 1 ≤ ca := by omega
      have hs : w.heap.size ≤ wr.heap.size := HW.out.size
      have hacc : acc.length ≤ 1000 := by omega
      clear hv' g1 g2 g3 g4 a0 a1
      simp only [List.length_cons]
      cases lb with
      | nil =>
        simp only [List.length_nil]
        go_upto_region 7 with (first | ((fail_if_success go_not_at_region 6); go_region))
        go_region_held3 (fun w' => w'.cell? ⟨ba, oa, none⟩ = some (.int .i64 x.1) ∧ w'.cell? ⟨ba, oa + 1, none⟩ = some (.int .i64 x.2)) (first | go_keep | (exact ⟨(hbel.cell (p := ⟨ba, oa, none⟩) zw).trans (by simp [k0]), (hbel.cell (p := ⟨ba, oa + 1, none⟩) zw).trans (by simp [k1])⟩)) (first | (go_at_call 46; refine (put_any acc u7 w.heap.size x.1 x.2 _ (by simpa using hs) hacc (by first | exact HO.out.drew | exact HO.out)).mono ?_; intro e w1 hpp; obtain ⟨r, hr, hown, hbel⟩ := hpp; subst hr; dsimp only))
        go_roundw
        case rel =>
          (repeat apply Exists.intro)
          refine ⟨?_, rfl⟩
          refine ⟨la, [], putI acc x, isSl_tail' HA.out, HB.out, hown, ?_, ?_, ?_⟩
          · first | exact (Below.drewN' HW.out _).trans hbel | exact Below.trans (Below.drew (Below.drew HW.out)) hbel
          · have e := HE.out
            rw [mergeI_nil] at e ⊢
            exact e
          · have := putI_len acc x
            simp only [List.length_cons, List.length_nil] at hN ⊢
            omega
        case measure => simp [lenOf]
      | cons y lb =>
        obtain ⟨bb, ob, cb', hvb, g1, g2, g3, g4⟩ := HB.out.cell (by simp)
        obtain ⟨rfl, rfl⟩ : pb = some ⟨bb, ob, none⟩ ∧ cb = cb' := by cases hvb; exact ⟨rfl, rfl⟩
        obtain ⟨q0, q1⟩ := iv_cells g4 0 (by simp)
        have zb : LtD bb wr.heap.size := Nat.lt_of_lt_of_le g3 HW.out.size
        have kb0 : wr.cell? ⟨bb, ob, none⟩ = some (.int .i64 y.1) := (HW.out.cell (p := ⟨bb, ob, none⟩) g3).trans (by simpa using q0)
        have kb1 : wr.cell? ⟨bb, ob + 1, none⟩ = some (.int .i64 y.2) := (HW.out.cell (p := ⟨bb, ob + 1, none⟩) g3).trans (by simpa using q1)
        have zwb : bb < w.heap.size := g3
        have hcapb : lb.length + 1 ≤ cb := by simpa using g1
        have hcapIb : (lb.length : Int) + 1 ≤ (cb : Int) := by omega
        have h1Ib : (1 : Int) ≤ (lb.length : Int) + 1 := by omega
        have h1cb : (1 : Int) ≤ (cb : Int) := by omega
        have h1nb : 1 ≤ cb := by omega
        clear hvb g1 g2 g3 g4 q0 q1
        have hneb : ((lb.length : Int) + 1 == 0) = false := by simp; omega
        simp only [List.length_cons]
        by_cases hxy : x.1 ≤ y.1
        · have hd : decide (x.1 ≤ y.1) = true := by simpa using hxy
          have HXY : Hid (x.1 ≤ y.1) := hxy
          clear hxy
          go_upto_region 6 with fail
          go_quiet (fail)
          go_upto_region 7 with fail
          go_region_held3 (fun w' => w'.cell? ⟨ba, oa, none⟩ = some (.int .i64 x.1) ∧ w'.cell? ⟨ba, oa + 1, none⟩ = some (.int .i64 x.2)) (first | go_keep | (exact ⟨(hbel.cell (p := ⟨ba, oa, none⟩) zw).trans (by simp [k0]), (hbel.cell (p := ⟨ba, oa + 1, none⟩) zw).trans (by simp [k1])⟩)) (first | (go_at_call 46; refine (put_any acc u7 w.heap.size x.1 x.2 _ (by simpa using hs) hacc (by first | exact HO.out.drew.drew | exact HO.out.drew | exact HO.out)).mono ?_; intro e w1 hpp; obtain ⟨r, hr, hown, hbel⟩ := hpp; subst hr; dsimp only))
          go_roundw
          case rel =>
            (repeat apply Exists.intro)
            refine ⟨?_, rfl⟩
            refine ⟨la, y :: lb, putI acc x, isSl_tail' HA.out, HB.out, hown, ?_, ?_, ?_⟩
            · first | exact (Below.drewN' HW.out _).trans hbel | exact Below.trans (Below.drew HW.out) hbel
            · have e := HE.out
              rw [merge_left x la (y :: lb) (fun z b' h => by cases h; exact HXY.out)] at e
              exact e
            · have := putI_len acc x
              simp only [List.length_cons, List.length_nil] at hN ⊢
              omega
          case measure => simp [lenOf]

        · have hd : decide (x.1 ≤ y.1) = false := by simpa using hxy
          have HXY : Hid (¬ x.1 ≤ y.1) := hxy
          clear hxy
          go_upto_region 6 with fail
          go_quiet (fail)
          go_upto_region 8 with fail
          go_region_held3 (fun w' => w'.cell? ⟨bb, ob, none⟩ = some (.int .i64 y.1) ∧ w'.cell? ⟨bb, ob + 1, none⟩ = some (.int .i64 y.2)) (first | go_keep | (exact ⟨(hbel.cell (p := ⟨bb, ob, none⟩) zwb).trans (by simp [kb0]), (hbel.cell (p := ⟨bb, ob + 1, none⟩) zwb).trans (by simp [kb1])⟩)) (first | (go_at_call 46; refine (put_any acc u7 w.heap.size y.1 y.2 _ (by simpa using hs) hacc (by first | exact HO.out.drew.drew | exact HO.out.drew | exact HO.out)).mono ?_; intro e w1 hpp; obtain ⟨r, hr, hown, hbel⟩ := hpp; subst hr; dsimp only))
          go_roundw
          case rel =>
            (repeat apply Exists.intro)
            refine ⟨?_, rfl⟩
            refine ⟨x :: la, lb, putI acc y, HA.out, isSl_tail' HB.out, hown, ?_, ?_, ?_⟩
            · first | exact (Below.drewN' HW.out _).trans hbel | exact Below.trans (Below.drew HW.out) hbel
            · have e := HE.out
              rw [merge_right y (x :: la) lb (fun z b' h => by cases h; exact HXY.out)] at e
              exact e
            · have := putI_len acc y
              simp only [List.length_cons, List.length_nil] at hN ⊢
              omega
          case measure => simp [lenOf]


set_option maxHeartbeats 4000000 in
theorem uni_bad (a b : List (Int × Int)) (v u : Value) (w : World) (hv : isSl w v 2 a.length (ivF a)) (hu : isSl w u 2 b.length (ivF b)) (h0 : bothI a b ≠ 0) :
    Calls Try.prog 28 #[v, u] w fun e w' => e = .returned (.tuple #[.slice none 0 0, .int .i64 (bothI a b)]) ∧ Ext w w' := by
  have HV : Hid (isSl w v 2 a.length (ivF a)) := hv
  have HU : Hid (isSl w u 2 b.length (ivF b)) := hu
  have e1 : (bothI a b != 0) = true := by simp [h0]
  clear hv hu h0
  go_enter Try.func28, Try.ntmps28
  go_wp2_with (first | (go_at_call 45; refine (both_any a b v u _ (HV.out.ext (by (exact Ext.of_below (by (repeat' (first | (with_reducible exact Below.refl _ _) | (with_reducible assumption) | (with_reducible refine Below.alloc ?_ ?_ _) | (with_reducible refine Below.wext ?_ ?_ _ _) | (with_reducible refine Below.drew ?_) | (with_reducible refine Below.setCell ?_ ?_ _) | (with_reducible exact Nat.le_refl _) | (with_reducible refine Below.drewN' ?_ _) | (simp; omega) | (simp; done))))))) (HU.out.ext (by (exact Ext.of_below (by (repeat' (first | (with_reducible exact Below.refl _ _) | (with_reducible assumption) | (with_reducible refine Below.alloc ?_ ?_ _) | (with_reducible refine Below.wext ?_ ?_ _ _) | (with_reducible refine Below.drew ?_) | (with_reducible refine Below.setCell ?_ ?_ _) | (with_reducible exact Nat.le_refl _) | (with_reducible refine Below.drewN' ?_ _) | (simp; omega) | (simp; done)))))))).mono ?_; rintro e w1 ⟨rfl, os1, n1, rfl⟩))
  all_goals go_ret2
  all_goals exact ⟨rfl, by (exact Ext.of_below (by (repeat' (first | (with_reducible exact Below.refl _ _) | (with_reducible assumption) | (with_reducible refine Below.alloc ?_ ?_ _) | (with_reducible refine Below.wext ?_ ?_ _ _) | (with_reducible refine Below.drew ?_) | (with_reducible refine Below.setCell ?_ ?_ _) | (with_reducible exact Nat.le_refl _) | (with_reducible refine Below.drewN' ?_ _) | (simp; omega) | (simp; done)))))⟩

end Go.Proofs.Ytlboakmiopnifaa
