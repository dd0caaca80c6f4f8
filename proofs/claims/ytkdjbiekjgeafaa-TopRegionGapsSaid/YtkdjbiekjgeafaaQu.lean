/- Layer 02: Union. -/
/- Layer 02: plain: valid lists are fixed by their ints; the union, the intersection and the difference of valid lists. -/
/- Layer 02: Intersect. -/
import Derived.Test.YtkdjbiekjgeafaaQt
import Derived.Test.YtkdjbiekjgeafaaQa
import Derived.Deep.RegionHeld3
import Derived.Test.YtkdjbiekjgeafaaQs
set_option linter.unusedSimpArgs false
set_option linter.unusedVariables false
namespace Go.Proofs.Ytkdjbiekjgeafaa.Iv
open Go.RowKit

def lenOf : Value → Nat
  | .slice _ n _ => n
  | _ => 0
set_option maxRecDepth 100000 in
/-- s[1:] in the form that the walk gives. -/
theorem isSl_tail' {w : World} {b o c : Nat} {x : Int × Int} {l : List (Int × Int)} (h : isSl w (.slice (some ⟨b, o, none⟩) (l.length + 1) c) 2 (l.length + 1) (ivF (x :: l))) :
    isSl w (.slice (if c = 1 then some ⟨b, o, none⟩ else some ⟨b, o + 2, none⟩) l.length (c - 1)) 2 l.length (ivF l) := by
  split
  · rename_i hc
    obtain ⟨b', o', c', hv, h1, h2, h3, h4⟩ := h.cell (by omega)
    cases hv
    have hl : l.length = 0 := by omega
    refine ⟨ivF_len l, .inr ⟨b, o, c - 1, rfl, by omega, by omega, h3, fun j hj => by omega⟩⟩
  · exact isSl_tail (n := 0) h

set_option maxRecDepth 100000 in
set_option maxHeartbeats 4000000 in
theorem uni_ok (a b : List (Int × Int)) (v u : Value) (w : World) (hv : isSl w v 2 a.length (ivF a)) (hu : isSl w u 2 b.length (ivF b)) (hab : a.length + b.length ≤ 200) (h0 : bothI a b = 0) :
    Calls Try.prog 33 #[v, u] w fun e w' => ∃ r, e = .returned (.tuple #[r, .int .i64 0]) ∧ w'.ownsRow w.heap.size 45 2 r (uniL a b).length (ivF (uniL a b)) ∧ Below w.heap.size w w' := by
  have HV : Hid (isSl w v 2 a.length (ivF a)) := hv
  have HU : Hid (isSl w u 2 b.length (ivF b)) := hu
  have e1 : (bothI a b != 0) = false := by simp [h0]
  clear hv hu h0
  go_enter Try.func33, Try.ntmps33
  go_wp2_with (first | (go_at_call 60; refine (both_any a b v u _ (HV.out.ext (by (exact Ext.of_below (by (repeat' (first | (with_reducible exact Below.refl _ _) | (with_reducible assumption) | (with_reducible refine Below.alloc ?_ ?_ _) | (with_reducible refine Below.wext ?_ ?_ _ _) | (with_reducible refine Below.drew ?_) | (with_reducible refine Below.setCell ?_ ?_ _) | (with_reducible exact Nat.le_refl _) | (with_reducible refine Below.drewN' ?_ _) | (simp; omega) | (simp; done))))))) (HU.out.ext (by (exact Ext.of_below (by (repeat' (first | (with_reducible exact Below.refl _ _) | (with_reducible assumption) | (with_reducible refine Below.alloc ?_ ?_ _) | (with_reducible refine Below.wext ?_ ?_ _ _) | (with_reducible refine Below.drew ?_) | (with_reducible refine Below.setCell ?_ ?_ _) | (with_reducible exact Nat.le_refl _) | (with_reducible refine Below.drewN' ?_ _) | (simp; omega) | (simp; done)))))))).mono ?_; rintro e w1 ⟨rfl, os1, n1, rfl⟩))
  go_loopw [0, 1, 7] (fun va vb vo wr => ∃ la lb acc, isSl w va 2 la.length (ivF la) ∧ isSl w vb 2 lb.length (ivF lb) ∧ wr.ownsRow w.heap.size 45 2 vo acc.length (ivF acc) ∧ Below w.heap.size w wr ∧ (mergeI la lb).foldl putI acc = uniL a b ∧ acc.length + la.length + lb.length ≤ 200) (fun va vb _ _ => lenOf va + lenOf vb)
  case atStart => exact ⟨a, b, [], HV.out, HU.out, World.ownsRow_nil _ _ _ _, by (repeat' (first | (with_reducible exact Below.refl _ _) | (with_reducible assumption) | (with_reducible refine Below.alloc ?_ ?_ _) | (with_reducible refine Below.wext ?_ ?_ _ _) | (with_reducible refine Below.drew ?_) | (with_reducible refine Below.setCell ?_ ?_ _) | (with_reducible exact Nat.le_refl _) | (with_reducible refine Below.drewN' ?_ _) | (simp; omega) | (simp; done))), rfl, by simpa using hab⟩
  case round =>
    obtain ⟨la, lb, acc, hA, hB, hO, hW, hE, hN⟩ := hrel
    have HA : Hid (isSl w u0 2 la.length (ivF la)) := hA
    have HB : Hid (isSl w u1 2 lb.length (ivF lb)) := hB
    obtain ⟨pa, ca, rfl⟩ := sl_form hA
    obtain ⟨pb, cb, rfl⟩ := sl_form hB
    have HO : Hid (wr.ownsRow w.heap.size 45 2 u7 acc.length (ivF acc)) := hO
    have HW : Hid (Below w.heap.size w wr) := hW
    have HE : Hid ((mergeI la lb).foldl putI acc = uniL a b) := hE
    clear hA hB hO hW hE
    cases la with
    | nil =>
      cases lb with
      | nil =>
        simp only [List.length_nil]
        go_wp2_with fail
        go_returns
        refine ⟨_, rfl, ?_, HW.out⟩
        have e := HE.out
        simp only [mergeI, List.foldl_nil] at e
        rw [← e]
        exact HO.out
      | cons y lb =>
        obtain ⟨bb, ob, cb', hvb, g1, g2, g3, g4⟩ := HB.out.cell (by simp)
        obtain ⟨rfl, rfl⟩ : pb = some ⟨bb, ob, none⟩ ∧ cb = cb' := by cases hvb; exact ⟨rfl, rfl⟩
        obtain ⟨q0, q1⟩ := iv_cells g4 0 (by simp)
        have zb : LtD bb wr.heap.size := Nat.lt_of_lt_of_le g3 HW.out.size
        have kb0 : wr.cell? ⟨bb, ob, none⟩ = some (.int .i64 y.1) := (HW.out.cell (p := ⟨bb, ob, none⟩) g3).trans (by simpa using q0)
        have kb1 : wr.cell? ⟨bb, ob + 1, none⟩ = some (.int .i64 y.2) := (HW.out.cell (p := ⟨bb, ob + 1, none⟩) g3).trans (by simpa using q1)
        have zwb : bb < w.heap.size := g3
        have hcapb : lb.length + 1 ≤ cb := by simpa using g1
        have hcapIb : (lb.length : Int) + 1 ≤ (cb : Int) := by omega
        have h1Ib : (1 : Int) ≤ (lb.length : Int) + 1 := by omega
        have h1cb : (1 : Int) ≤ (cb : Int) := by omega
        have h1nb : 1 ≤ cb := by omega
        clear hvb g1 g2 g3 g4 q0 q1
        have hs : w.heap.size ≤ wr.heap.size := HW.out.size
        have hacc : acc.length ≤ 1000 := by omega
        have hneb : ((lb.length : Int) + 1 == 0) = false := by simp; omega
        simp only [List.length_cons, List.length_nil]
        go_upto_region 6 with fail
        go_quiet (fail)
        go_upto_region 8 with fail
        go_region_held3 (fun w' => w'.cell? ⟨bb, ob, none⟩ = some (.int .i64 y.1) ∧ w'.cell? ⟨bb, ob + 1, none⟩ = some (.int .i64 y.2)) (first | go_keep | (exact ⟨(hbel.cell (p := ⟨bb, ob, none⟩) zwb).trans (by simp [kb0]), (hbel.cell (p := ⟨bb, ob + 1, none⟩) zwb).trans (by simp [kb1])⟩)) (first | (go_at_call 61; refine (put_any acc u7 w.heap.size y.1 y.2 _ (by simpa using hs) hacc (by first | exact HO.out.drew | exact HO.out)).mono ?_; intro e w1 hpp; obtain ⟨r, hr, hown, hbel⟩ := hpp; subst hr; dsimp only))
        go_roundw
        case rel =>
          (repeat apply Exists.intro)
          refine ⟨?_, rfl⟩
          refine ⟨[], lb, putI acc y, HA.out, isSl_tail' HB.out, hown, ?_, ?_, ?_⟩
          · first | exact (Below.drewN' HW.out _).trans hbel | exact Below.trans (Below.drew (Below.drew HW.out)) hbel
          · have e := HE.out
            simpa [mergeI] using e
          · have := putI_len acc y
            simp only [List.length_cons, List.length_nil] at hN ⊢
            omega
        case measure => simp [lenOf]
    | cons x la =>
      obtain ⟨ba, oa, c', hv', g1, g2, g3, g4⟩ := HA.out.cell (by simp)
      obtain ⟨rfl, rfl⟩ : pa = some ⟨ba, oa, none⟩ ∧ ca = c' := by cases hv'; exact ⟨rfl, rfl⟩
      obtain ⟨a0, a1⟩ := iv_cells g4 0 (by simp)
      have zb : LtD ba wr.heap.size := Nat.lt_of_lt_of_le g3 HW.out.size
      have k0 : wr.cell? ⟨ba, oa, none⟩ = some (.int .i64 x.1) := (HW.out.cell (p := ⟨ba, oa, none⟩) g3).trans (by simpa using a0)
      have k1 : wr.cell? ⟨ba, oa + 1, none⟩ = some (.int .i64 x.2) := (HW.out.cell (p := ⟨ba, oa + 1, none⟩) g3).trans (by simpa using a1)
      have zw : ba < w.heap.size := g3
      have hcap : la.length + 1 ≤ ca := by simpa using g1
      have hcapI : (la.length : Int) + 1 ≤ (ca : Int) := by omega
      have h1I : (1 : Int) ≤ (la.length : Int) + 1 := by omega
      have h1c : (1 : Int) ≤ (ca : Int) := by omega
      have h1n : 1 ≤ ca := by omega
      have hs : w.heap.size ≤ wr.heap.size := HW.out.size
      have hacc : acc.length ≤ 1000 := by omega
      clear hv' g1 g2 g3 g4 a0 a1
      simp only [List.length_cons]
      cases lb with
      | nil =>
        simp only [List.length_nil]
        go_upto_region 7 with (first | ((fail_if_success go_not_at_region 6); go_region))
        go_region_held3 (fun w' => w'.cell? ⟨ba, oa, none⟩ = some (.int .i64 x.1) ∧ w'.cell? ⟨ba, oa + 1, none⟩ = some (.int .i64 x.2)) (first | go_keep | (exact ⟨(hbel.cell (p := ⟨ba, oa, none⟩) zw).trans (by simp [k0]), (hbel.cell (p := ⟨ba, oa + 1, none⟩) zw).trans (by simp [k1])⟩)) (first | (go_at_call 61; refine (put_any acc u7 w.heap.size x.1 x.2 _ (by simpa using hs) hacc (by first | exact HO.out.drew | exact HO.out)).mono ?_; intro e w1 hpp; obtain ⟨r, hr, hown, hbel⟩ := hpp; subst hr; dsimp only))
        go_roundw
        case rel =>
          (repeat apply Exists.intro)
          refine ⟨?_, rfl⟩
          refine ⟨la, [], putI acc x, isSl_tail' HA.out, HB.out, hown, ?_, ?_, ?_⟩
          · first | exact (Below.drewN' HW.out _).trans hbel | exact Below.trans (Below.drew (Below.drew HW.out)) hbel
          · have e := HE.out
            rw [mergeI_nil] at e ⊢
            exact e
          · have := putI_len acc x
            simp only [List.length_cons, List.length_nil] at hN ⊢
            omega
        case measure => simp [lenOf]
      | cons y lb =>
        obtain ⟨bb, ob, cb', hvb, g1, g2, g3, g4⟩ := HB.out.cell (by simp)
        obtain ⟨rfl, rfl⟩ : pb = some ⟨bb, ob, none⟩ ∧ cb = cb' := by cases hvb; exact ⟨rfl, rfl⟩
        obtain ⟨q0, q1⟩ := iv_cells g4 0 (by simp)
        have zb : LtD bb wr.heap.size := Nat.lt_of_lt_of_le g3 HW.out.size
        have kb0 : wr.cell? ⟨bb, ob, none⟩ = some (.int .i64 y.1) := (HW.out.cell (p := ⟨bb, ob, none⟩) g3).trans (by simpa using q0)
        have kb1 : wr.cell? ⟨bb, ob + 1, none⟩ = some (.int .i64 y.2) := (HW.out.cell (p := ⟨bb, ob + 1, none⟩) g3).trans (by simpa using q1)
        have zwb : bb < w.heap.size := g3
        have hcapb : lb.length + 1 ≤ cb := by simpa using g1
        have hcapIb : (lb.length : Int) + 1 ≤ (cb : Int) := by omega
        have h1Ib : (1 : Int) ≤ (lb.length : Int) + 1 := by omega
        have h1cb : (1 : Int) ≤ (cb : Int) := by omega
        have h1nb : 1 ≤ cb := by omega
        clear hvb g1 g2 g3 g4 q0 q1
        have hneb : ((lb.length : Int) + 1 == 0) = false := by simp; omega
        simp only [List.length_cons]
        by_cases hxy : x.1 ≤ y.1
        · have hd : decide (x.1 ≤ y.1) = true := by simpa using hxy
          have HXY : Hid (x.1 ≤ y.1) := hxy
          clear hxy
          go_upto_region 6 with fail
          go_quiet (fail)
          go_upto_region 7 with fail
          go_region_held3 (fun w' => w'.cell? ⟨ba, oa, none⟩ = some (.int .i64 x.1) ∧ w'.cell? ⟨ba, oa + 1, none⟩ = some (.int .i64 x.2)) (first | go_keep | (exact ⟨(hbel.cell (p := ⟨ba, oa, none⟩) zw).trans (by simp [k0]), (hbel.cell (p := ⟨ba, oa + 1, none⟩) zw).trans (by simp [k1])⟩)) (first | (go_at_call 61; refine (put_any acc u7 w.heap.size x.1 x.2 _ (by simpa using hs) hacc (by first | exact HO.out.drew.drew | exact HO.out.drew | exact HO.out)).mono ?_; intro e w1 hpp; obtain ⟨r, hr, hown, hbel⟩ := hpp; subst hr; dsimp only))
          go_roundw
          case rel =>
            (repeat apply Exists.intro)
            refine ⟨?_, rfl⟩
            refine ⟨la, y :: lb, putI acc x, isSl_tail' HA.out, HB.out, hown, ?_, ?_, ?_⟩
            · first | exact (Below.drewN' HW.out _).trans hbel | exact Below.trans (Below.drew HW.out) hbel
            · have e := HE.out
              rw [merge_left x la (y :: lb) (fun z b' h => by cases h; exact HXY.out)] at e
              exact e
            · have := putI_len acc x
              simp only [List.length_cons, List.length_nil] at hN ⊢
              omega
          case measure => simp [lenOf]

        · have hd : decide (x.1 ≤ y.1) = false := by simpa using hxy
          have HXY : Hid (¬ x.1 ≤ y.1) := hxy
          clear hxy
          go_upto_region 6 with fail
          go_quiet (fail)
          go_upto_region 8 with fail
          go_region_held3 (fun w' => w'.cell? ⟨bb, ob, none⟩ = some (.int .i64 y.1) ∧ w'.cell? ⟨bb, ob + 1, none⟩ = some (.int .i64 y.2)) (first | go_keep | (exact ⟨(hbel.cell (p := ⟨bb, ob, none⟩) zwb).trans (by simp [kb0]), (hbel.cell (p := ⟨bb, ob + 1, none⟩) zwb).trans (by simp [kb1])⟩)) (first | (go_at_call 61; refine (put_any acc u7 w.heap.size y.1 y.2 _ (by simpa using hs) hacc (by first | exact HO.out.drew.drew | exact HO.out.drew | exact HO.out)).mono ?_; intro e w1 hpp; obtain ⟨r, hr, hown, hbel⟩ := hpp; subst hr; dsimp only))
          go_roundw
          case rel =>
            (repeat apply Exists.intro)
            refine ⟨?_, rfl⟩
            refine ⟨x :: la, lb, putI acc y, HA.out, isSl_tail' HB.out, hown, ?_, ?_, ?_⟩
            · first | exact (Below.drewN' HW.out _).trans hbel | exact Below.trans (Below.drew HW.out) hbel
            · have e := HE.out
              rw [merge_right y (x :: la) lb (fun z b' h => by cases h; exact HXY.out)] at e
              exact e
            · have := putI_len acc y
              simp only [List.length_cons, List.length_nil] at hN ⊢
              omega
          case measure => simp [lenOf]


set_option maxRecDepth 100000 in
set_option maxHeartbeats 4000000 in
theorem uni_bad (a b : List (Int × Int)) (v u : Value) (w : World) (hv : isSl w v 2 a.length (ivF a)) (hu : isSl w u 2 b.length (ivF b)) (h0 : bothI a b ≠ 0) :
    Calls Try.prog 33 #[v, u] w fun e w' => e = .returned (.tuple #[.slice none 0 0, .int .i64 (bothI a b)]) ∧ Ext w w' := by
  have HV : Hid (isSl w v 2 a.length (ivF a)) := hv
  have HU : Hid (isSl w u 2 b.length (ivF b)) := hu
  have e1 : (bothI a b != 0) = true := by simp [h0]
  clear hv hu h0
  go_enter Try.func33, Try.ntmps33
  go_wp2_with (first | (go_at_call 60; refine (both_any a b v u _ (HV.out.ext (by (exact Ext.of_below (by (repeat' (first | (with_reducible exact Below.refl _ _) | (with_reducible assumption) | (with_reducible refine Below.alloc ?_ ?_ _) | (with_reducible refine Below.wext ?_ ?_ _ _) | (with_reducible refine Below.drew ?_) | (with_reducible refine Below.setCell ?_ ?_ _) | (with_reducible exact Nat.le_refl _) | (with_reducible refine Below.drewN' ?_ _) | (simp; omega) | (simp; done))))))) (HU.out.ext (by (exact Ext.of_below (by (repeat' (first | (with_reducible exact Below.refl _ _) | (with_reducible assumption) | (with_reducible refine Below.alloc ?_ ?_ _) | (with_reducible refine Below.wext ?_ ?_ _ _) | (with_reducible refine Below.drew ?_) | (with_reducible refine Below.setCell ?_ ?_ _) | (with_reducible exact Nat.le_refl _) | (with_reducible refine Below.drewN' ?_ _) | (simp; omega) | (simp; done)))))))).mono ?_; rintro e w1 ⟨rfl, os1, n1, rfl⟩))
  all_goals go_ret2
  all_goals exact ⟨rfl, by (exact Ext.of_below (by (repeat' (first | (with_reducible exact Below.refl _ _) | (with_reducible assumption) | (with_reducible refine Below.alloc ?_ ?_ _) | (with_reducible refine Below.wext ?_ ?_ _ _) | (with_reducible refine Below.drew ?_) | (with_reducible refine Below.setCell ?_ ?_ _) | (with_reducible exact Nat.le_refl _) | (with_reducible refine Below.drewN' ?_ _) | (simp; omega) | (simp; done)))))⟩

end Go.Proofs.Ytkdjbiekjgeafaa.Iv

set_option linter.unusedSimpArgs false
set_option linter.unusedVariables false
namespace Go.Proofs.Ytkdjbiekjgeafaa.Iv
open Go.RowKit

/-- A valid list behind a bound. -/
def Asc : Option Int → List (Int × Int) → Prop
  | _, [] => True
  | p, x :: l => (∀ b, p = some b → b < x.1) ∧ x.1 < x.2 ∧ Asc (some x.2) l
set_option maxRecDepth 100000 in
theorem Asc.mono {p q : Option Int} {l : List (Int × Int)} (h : Asc p l) (hq : ∀ c, q = some c → ∃ b, p = some b ∧ c ≤ b) : Asc q l := by
  cases l with
  | nil => trivial
  | cons x l =>
    refine ⟨fun c hc => ?_, h.2.1, h.2.2⟩
    obtain ⟨b, hb, hcb⟩ := hq c hc
    have := h.1 b hb
    omega
set_option maxRecDepth 100000 in
theorem Asc.none {p : Option Int} {l : List (Int × Int)} (h : Asc p l) : Asc none l := h.mono (by simp)
set_option maxRecDepth 100000 in
theorem chk_asc : ∀ (l : List (Int × Int)) (p : Option (Int × Int)), chkFrom p l = 0 ↔ Asc (p.map (·.2)) l
  | [], p => by simp [chkFrom, Asc]
  | x :: l, p => by
    have ih := chk_asc l (some x)
    unfold chkFrom Asc
    have e : stepE p x = 0 ↔ (∀ b, p.map (·.2) = some b → b < x.1) ∧ x.1 < x.2 := by
      unfold stepE
      cases p with
      | none =>
        by_cases h : x.2 ≤ x.1
        · simp [h]
        · simp [h]; omega
      | some q =>
        by_cases h : x.2 ≤ x.1
        · simp [h]
        · by_cases h2 : x.1 ≤ q.2
          · simp [h, h2]
          · simp [h, h2]; omega
    by_cases h : stepE p x = 0
    · rw [if_pos h, ih]
      have := e.1 h
      simp only [Option.map_some]
      constructor
      · intro h3; exact ⟨this.1, this.2, h3⟩
      · intro h3; exact h3.2.2
    · rw [if_neg h]
      constructor
      · intro h3; exact absurd h3 h
      · intro h3; exact absurd (e.2 ⟨h3.1, h3.2.1⟩) h
set_option maxRecDepth 100000 in
theorem chkI_asc (l : List (Int × Int)) : chkI l = 0 ↔ Asc none l := chk_asc l none

set_option maxRecDepth 100000 in
theorem inI_cons (x : Int × Int) (l : List (Int × Int)) (n : Int) : inI (x :: l) n = ((decide (x.1 ≤ n) && decide (n < x.2)) || inI l n) := rfl
set_option maxRecDepth 100000 in
theorem inI_nil (n : Int) : inI [] n = false := rfl
set_option maxRecDepth 100000 in
theorem inI_app (l r : List (Int × Int)) (n : Int) : inI (l ++ r) n = (inI l n || inI r n) := by simp [inI]
set_option maxRecDepth 100000 in
theorem Asc.lt : ∀ {l : List (Int × Int)} {b n : Int}, Asc (some b) l → inI l n = true → b < n
  | [], b, n, _, h => by simp [inI] at h
  | x :: l, b, n, h, hn => by
    rw [inI_cons] at hn
    have h1 := h.1 b rfl
    have h2 := h.2.1
    rcases Bool.or_eq_true_iff.1 hn with hn | hn
    · simp at hn; omega
    · have := Asc.lt h.2.2 hn; omega
set_option maxRecDepth 100000 in
theorem Asc.out {l : List (Int × Int)} {b n : Int} (h : Asc (some b) l) (hn : n ≤ b) : inI l n = false := by
  cases e : inI l n with
  | false => rfl
  | true => have := h.lt e; omega
set_option maxRecDepth 100000 in
/-- A valid list is fixed by its ints. -/
theorem Asc.uniq : ∀ {l r : List (Int × Int)} {p q : Option Int}, Asc p l → Asc q r → (∀ n, inI l n = inI r n) → l = r
  | [], [], _, _, _, _, _ => rfl
  | [], y :: r, p, q, _, hr, h => by
    have := h y.1
    have h2 := hr.2.1
    rw [inI_nil, inI_cons] at this
    simp [h2] at this
  | x :: l, [], p, q, hl, _, h => by
    have := h x.1
    have h2 := hl.2.1
    rw [inI_nil, inI_cons] at this
    simp [h2] at this
  | x :: l, y :: r, p, q, hl, hr, h => by
    have l1 := hl.2.1
    have r1 := hr.2.1
    have e1 : x.1 = y.1 := by
      rcases Int.lt_trichotomy x.1 y.1 with e | e | e
      · have := h x.1
        rw [inI_cons, inI_cons, hr.2.2.out (by omega)] at this
        simp [l1] at this; omega
      · exact e
      · have := h y.1
        rw [inI_cons, inI_cons, hl.2.2.out (by omega)] at this
        simp [r1] at this; omega
    have e2 : x.2 = y.2 := by
      rcases Int.lt_trichotomy x.2 y.2 with e | e | e
      · have := h x.2
        rw [inI_cons, inI_cons, hl.2.2.out (by omega), hr.2.2.out (by omega)] at this
        simp at this; omega
      · exact e
      · have := h y.2
        rw [inI_cons, inI_cons, hl.2.2.out (by omega), hr.2.2.out (by omega)] at this
        simp at this; omega
    have e : x = y := Prod.ext e1 e2
    subst e
    have : l = r := by
      refine Asc.uniq hl.2.2 hr.2.2 fun n => ?_
      by_cases hn : n ≤ x.2
      · rw [hl.2.2.out hn, hr.2.2.out hn]
      · have := h n
        rw [inI_cons, inI_cons] at this
        have e : (decide (x.1 ≤ n) && decide (n < x.2)) = false := by simp; omega
        rw [e, Bool.false_or, Bool.false_or] at this
        exact this
    rw [this]

/-! ### Union -/
def SortF : Int → List (Int × Int) → Prop
  | _, [] => True
  | b, x :: m => b ≤ x.1 ∧ x.1 < x.2 ∧ SortF x.1 m
set_option maxRecDepth 100000 in
theorem SortF.mono {b c : Int} {l : List (Int × Int)} (h : SortF b l) (hc : c ≤ b) : SortF c l := by
  cases l with
  | nil => trivial
  | cons x l => exact ⟨by have := h.1; omega, h.2.1, h.2.2⟩
set_option maxRecDepth 100000 in
theorem Asc.sort : ∀ {l : List (Int × Int)} {b : Int}, Asc (some b) l → SortF b l
  | [], _, _ => trivial
  | x :: l, b, h => ⟨by have := h.1 b rfl; omega, h.2.1, (Asc.sort h.2.2).mono (by have := h.2.1; omega)⟩
set_option maxRecDepth 100000 in
theorem Asc.bound {p : Option Int} {l : List (Int × Int)} (h : Asc p l) : ∃ b, ∀ c, c ≤ b → SortF c l := by
  cases l with
  | nil => exact ⟨0, fun _ _ => trivial⟩
  | cons x l => exact ⟨x.1, fun c hc => ⟨hc, h.2.1, h.2.2.sort.mono (by have := h.2.1; omega)⟩⟩
set_option maxRecDepth 100000 in
theorem sort_merge : ∀ (l r : List (Int × Int)) (b : Int), SortF b l → SortF b r → SortF b (mergeI l r)
  | [], r, b, _, h => by simpa [mergeI] using h
  | x :: l, [], b, h, _ => by simpa [mergeI] using h
  | x :: l, y :: r, b, hl, hr => by
    rw [mergeI]
    split
    · rename_i h
      exact ⟨hl.1, hl.2.1, sort_merge l (y :: r) x.1 hl.2.2 ⟨h, hr.2.1, hr.2.2⟩⟩
    · rename_i h
      exact ⟨hr.1, hr.2.1, sort_merge (x :: l) r y.1 ⟨by omega, hl.2.1, hl.2.2⟩ hr.2.2⟩
termination_by l r => l.length + r.length
set_option maxRecDepth 100000 in
theorem in_merge : ∀ (l r : List (Int × Int)) (n : Int), inI (mergeI l r) n = (inI l n || inI r n)
  | [], r, n => by simp [mergeI, inI_nil]
  | x :: l, [], n => by simp [mergeI, inI_nil]
  | x :: l, y :: r, n => by
    rw [mergeI]
    split
    · rw [inI_cons, in_merge l (y :: r) n, inI_cons x l, Bool.or_assoc]
    · rw [inI_cons, in_merge (x :: l) r n, inI_cons y r, ← Bool.or_assoc, ← Bool.or_assoc, Bool.or_comm _ (inI (x :: l) n)]
termination_by l r => l.length + r.length
/-- What put makes of a list that follows an interval. -/
def norm : Int × Int → List (Int × Int) → List (Int × Int)
  | y, [] => [y]
  | y, x :: m => if x.1 ≤ y.2 then norm (y.1, if x.2 ≤ y.2 then y.2 else x.2) m else y :: norm x m
set_option maxRecDepth 100000 in
theorem foldl_put : ∀ (m l : List (Int × Int)) (y : Int × Int), (m.foldl putI (l ++ [y])) = l ++ norm y m
  | [], l, y => by simp [norm]
  | x :: m, l, y => by
    rw [List.foldl_cons, putI_app, norm]
    split
    · exact foldl_put m l _
    · rw [foldl_put m (l ++ [y]) x]; simp
set_option maxRecDepth 100000 in
theorem asc_norm : ∀ (m : List (Int × Int)) (y : Int × Int) (p : Option Int), (∀ b, p = some b → b < y.1) → y.1 < y.2 → SortF y.1 m → Asc p (norm y m)
  | [], y, p, h1, h2, _ => ⟨h1, h2, trivial⟩
  | x :: m, y, p, h1, h2, h3 => by
    have a1 := h3.1
    have a2 := h3.2.1
    rw [norm]
    split
    · rename_i h
      refine asc_norm m _ p h1 ?_ (h3.2.2.mono a1)
      show y.1 < (if x.2 ≤ y.2 then y.2 else x.2)
      split <;> omega
    · rename_i h
      refine ⟨h1, h2, asc_norm m x _ (fun b hb => ?_) a2 h3.2.2⟩
      cases hb; omega
set_option maxRecDepth 100000 in
theorem in_norm : ∀ (m : List (Int × Int)) (y : Int × Int) (n : Int), y.1 < y.2 → SortF y.1 m → inI (norm y m) n = inI (y :: m) n
  | [], y, n, _, _ => rfl
  | x :: m, y, n, h2, h3 => by
    have a1 := h3.1
    have a2 := h3.2.1
    rw [norm]
    split
    · rename_i h
      rw [in_norm m (y.1, if x.2 ≤ y.2 then y.2 else x.2) n (by show y.1 < (if x.2 ≤ y.2 then y.2 else x.2); split <;> omega) (h3.2.2.mono a1)]
      rw [inI_cons, inI_cons, inI_cons, ← Bool.or_assoc]
      congr 1
      rw [Bool.eq_iff_iff]
      simp only [Bool.or_eq_true, Bool.and_eq_true, decide_eq_true_eq]
      split <;> omega
    · rw [inI_cons, inI_cons, in_norm m x n a2 h3.2.2]
set_option maxRecDepth 100000 in
theorem uni_spec {a b : List (Int × Int)} (ha : Asc none a) (hb : Asc none b) : Asc none (uniL a b) ∧ ∀ n, inI (uniL a b) n = (inI a n || inI b n) := by
  obtain ⟨ca, h1⟩ := ha.bound
  obtain ⟨cb, h2⟩ := hb.bound
  have hs := sort_merge a b (min ca cb) (h1 _ (by omega)) (h2 _ (by omega))
  have hm := in_merge a b
  unfold uniL
  generalize mergeI a b = m at hs hm
  cases m with
  | nil => exact ⟨trivial, fun n => hm n⟩
  | cons y m =>
    rw [List.foldl_cons, putI_nil]
    have := foldl_put m [] y
    rw [List.nil_append, List.nil_append] at this
    rw [this]
    exact ⟨asc_norm m y _ (by simp) hs.2.1 hs.2.2, fun n => by rw [in_norm m y n hs.2.1 hs.2.2, hm n]⟩

/-! ### Intersection -/
def intI : List (Int × Int) → List (Int × Int) → List (Int × Int)
  | [], _ => []
  | _ :: _, [] => []
  | x :: a, y :: b => (if max x.1 y.1 < min x.2 y.2 then [(max x.1 y.1, min x.2 y.2)] else []) ++ (if x.2 ≤ y.2 then intI a (y :: b) else intI (x :: a) b)
termination_by a b => a.length + b.length
set_option maxRecDepth 100000 in
theorem intI_nil (a : List (Int × Int)) : intI a [] = [] := by cases a <;> simp [intI]
set_option maxRecDepth 100000 in
theorem asc_int : ∀ (a b : List (Int × Int)) (p q : Option Int), Asc p a → Asc q b → Asc p (intI a b) ∧ Asc q (intI a b)
  | [], b, p, q, _, _ => by simp [intI, Asc]
  | x :: a, [], p, q, _, _ => by simp [intI, Asc]
  | x :: a, y :: b, p, q, ha, hb => by
    rw [intI]
    have a1 := ha.2.1
    have b1 := hb.2.1
    by_cases h : x.2 ≤ y.2
    · simp only [if_pos h]
      obtain ⟨i1, i2⟩ := asc_int a (y :: b) (some x.2) q ha.2.2 hb
      split
      · rename_i hf
        have k1 : Asc (some (min x.2 y.2)) (intI a (y :: b)) := by rw [show min x.2 y.2 = x.2 by omega]; exact i1
        rw [List.singleton_append]
        refine ⟨⟨fun c hc => ?_, hf, k1⟩, ⟨fun c hc => ?_, hf, k1⟩⟩
        · have := ha.1 c hc; show c < max x.1 y.1; omega
        · have := hb.1 c hc; show c < max x.1 y.1; omega
      · rw [List.nil_append]
        refine ⟨i1.mono fun c hc => ⟨x.2, rfl, ?_⟩, i2⟩
        have := ha.1 c hc; omega
    · simp only [if_neg h]
      obtain ⟨i1, i2⟩ := asc_int (x :: a) b p (some y.2) ha hb.2.2
      split
      · rename_i hf
        have k1 : Asc (some (min x.2 y.2)) (intI (x :: a) b) := by rw [show min x.2 y.2 = y.2 by omega]; exact i2
        rw [List.singleton_append]
        refine ⟨⟨fun c hc => ?_, hf, k1⟩, ⟨fun c hc => ?_, hf, k1⟩⟩
        · have := ha.1 c hc; show c < max x.1 y.1; omega
        · have := hb.1 c hc; show c < max x.1 y.1; omega
      · rw [List.nil_append]
        refine ⟨i1, i2.mono fun c hc => ⟨y.2, rfl, ?_⟩⟩
        have := hb.1 c hc; omega
termination_by a b => a.length + b.length
set_option maxRecDepth 100000 in
theorem in_int : ∀ (a b : List (Int × Int)) (p q : Option Int) (n : Int), Asc p a → Asc q b → inI (intI a b) n = (inI a n && inI b n)
  | [], b, p, q, n, _, _ => by simp [intI, inI_nil]
  | x :: a, [], p, q, n, _, _ => by simp [intI, inI_nil]
  | x :: a, y :: b, p, q, n, ha, hb => by
    rw [intI]
    have a1 := ha.2.1
    have b1 := hb.2.1
    have hh : inI ((if max x.1 y.1 < min x.2 y.2 then [(max x.1 y.1, min x.2 y.2)] else [])) n = ((decide (x.1 ≤ n) && decide (n < x.2)) && (decide (y.1 ≤ n) && decide (n < y.2))) := by
      rw [Bool.eq_iff_iff]
      split <;> simp [inI] <;> omega
    rw [inI_app, hh]
    by_cases h : x.2 ≤ y.2
    · rw [if_pos h, in_int a (y :: b) (some x.2) q n ha.2.2 hb, inI_cons, inI_cons]
      by_cases hn : n < x.2
      · rw [ha.2.2.out (by omega), hb.2.2.out (by omega)]; simp
      · rw [decide_eq_false hn]; simp
    · rw [if_neg h, in_int (x :: a) b p (some y.2) n ha hb.2.2, inI_cons, inI_cons]
      by_cases hn : n < y.2
      · rw [ha.2.2.out (by omega), hb.2.2.out (by omega)]; simp
      · rw [decide_eq_false hn]; simp
termination_by a b => a.length + b.length

/-! ### Difference -/
/-- What is left of one interval. -/
def cut1 : Int → Int → List (Int × Int) → List (Int × Int)
  | f, t, [] => if f < t then [(f, t)] else []
  | f, t, y :: b => if t ≤ y.1 ∨ t ≤ f then (if f < t then [(f, t)] else []) else (if f < y.1 then [(f, y.1)] else []) ++ cut1 y.2 t b
def skipI (f : Int) (b : List (Int × Int)) : List (Int × Int) := b.dropWhile fun y => decide (y.2 ≤ f)
def cutI : List (Int × Int) → List (Int × Int) → List (Int × Int)
  | [], _ => []
  | x :: a, b => cut1 x.1 x.2 (skipI x.1 b) ++ cutI a (skipI x.1 b)
set_option maxRecDepth 100000 in
theorem skip_cons (f : Int) (y : Int × Int) (b : List (Int × Int)) : skipI f (y :: b) = if y.2 ≤ f then skipI f b else y :: b := by
  unfold skipI; rw [List.dropWhile_cons]; simp
set_option maxRecDepth 100000 in
theorem asc_skip : ∀ {b : List (Int × Int)} {q : Option Int} (f : Int), Asc q b → ∃ q', Asc q' (skipI f b)
  | [], q, f, _ => ⟨none, trivial⟩
  | y :: b, q, f, h => by
    rw [skip_cons]; split
    · exact asc_skip f h.2.2
    · exact ⟨q, h⟩
set_option maxRecDepth 100000 in
theorem in_skip : ∀ {b : List (Int × Int)} {q : Option Int} {f n : Int}, Asc q b → f ≤ n → inI (skipI f b) n = inI b n
  | [], q, f, n, _, _ => rfl
  | y :: b, q, f, n, h, hn => by
    rw [skip_cons]; split
    · rename_i hy
      rw [in_skip h.2.2 hn, inI_cons]
      have e : (decide (y.1 ≤ n) && decide (n < y.2)) = false := by simp; omega
      rw [e, Bool.false_or]
    · rfl
set_option maxRecDepth 100000 in
theorem cut1_spec : ∀ (b : List (Int × Int)) (q : Option Int) (f t : Int) (r : List (Int × Int)) (p : Option Int), Asc q b → (∀ c, p = some c → c < f) → f < t → Asc (some t) r → (∀ y, b.head? = some y → f < y.2) →
    Asc p (cut1 f t b ++ r) ∧ ∀ n, inI (cut1 f t b) n = ((decide (f ≤ n) && decide (n < t)) && !inI b n)
  | [], q, f, t, r, p, _, h1, h2, h3, _ => by
    unfold cut1
    rw [if_pos h2]
    refine ⟨⟨h1, h2, h3⟩, fun n => ?_⟩
    simp [inI]
  | y :: b, q, f, t, r, p, hb, h1, h2, h3, h4 => by
    have b1 := hb.2.1
    have h5 := h4 y rfl
    unfold cut1
    by_cases h : t ≤ y.1 ∨ t ≤ f
    · rw [if_pos h, if_pos h2]
      refine ⟨⟨h1, h2, h3⟩, fun n => ?_⟩
      have : inI [(f, t)] n = (decide (f ≤ n) && decide (n < t)) := by simp [inI]
      rw [this, Bool.eq_iff_iff]
      constructor
      · intro hn
        have hn' := hn
        simp only [Bool.and_eq_true, decide_eq_true_eq] at hn
        rw [inI_cons, hb.2.2.out (by omega)]
        simp; omega
      · intro hn
        exact (Bool.and_eq_true_iff.1 hn).1
    · rw [if_neg h]
      have key : (∀ p' : Option Int, (∀ c, p' = some c → c < y.2 ∧ c < t) → Asc p' (cut1 y.2 t b ++ r)) ∧ ∀ n, inI (cut1 y.2 t b) n = ((decide (y.2 ≤ n) && decide (n < t)) && !inI b n) := by
        by_cases h6 : y.2 < t
        · have h8 : ∀ z, b.head? = some z → y.2 < z.2 := fun z hz => by
            cases b with
            | nil => simp at hz
            | cons z' b => have := hb.2.2.1 y.2 rfl; have := hb.2.2.2.1; simp at hz; subst hz; omega
          exact ⟨fun p' hp => (cut1_spec b (some y.2) y.2 t r p' hb.2.2 (fun c hc => (hp c hc).1) h6 h3 h8).1, (cut1_spec b (some y.2) y.2 t r none hb.2.2 (by simp) h6 h3 h8).2⟩
        · have e : cut1 y.2 t b = [] := by
            cases b with
            | nil => unfold cut1; rw [if_neg h6]
            | cons z b => unfold cut1; rw [if_pos (Or.inr (by omega)), if_neg h6]
          rw [e]
          refine ⟨fun p' hp => h3.mono fun c hc => ⟨t, rfl, by have := hp c hc; omega⟩, fun n => ?_⟩
          have e : (decide (y.2 ≤ n) && decide (n < t)) = false := by simp; omega
          rw [e, Bool.false_and]; rfl
      by_cases h7 : f < y.1
      · rw [if_pos h7]
        refine ⟨⟨h1, h7, key.1 _ (fun c hc => by cases hc; exact ⟨b1, by omega⟩)⟩, fun n => ?_⟩
        rw [inI_app, key.2, inI_cons y b n]
        by_cases hn : n < y.2
        · rw [hb.2.2.out (by omega), Bool.eq_iff_iff]
          simp [inI]; omega
        · have d1 : ¬ n < y.1 := by omega
          have d2 : y.2 ≤ n := by omega
          have d3 : f ≤ n := by omega
          generalize inI b n = z
          simp [inI, d1, d2, d3, hn]
      · rw [if_neg h7]
        refine ⟨key.1 p (fun c hc => by have := h1 c hc; exact ⟨by omega, by omega⟩), fun n => ?_⟩
        rw [List.nil_append, key.2, inI_cons y b n]
        by_cases hn : n < y.2
        · rw [hb.2.2.out (by omega), Bool.eq_iff_iff]
          simp; omega
        · have d1 : ¬ n < y.1 := by omega
          have d2 : y.2 ≤ n := by omega
          have d3 : f ≤ n := by omega
          generalize inI b n = z
          simp [d1, d2, d3, hn]
set_option maxRecDepth 100000 in
theorem head_skip : ∀ (b : List (Int × Int)) (f : Int) (y : Int × Int), (skipI f b).head? = some y → f < y.2
  | [], f, y, h => by simp [skipI] at h
  | z :: b, f, y, h => by
    rw [skip_cons] at h
    split at h
    · exact head_skip b f y h
    · simp at h; subst h; omega
set_option maxRecDepth 100000 in
theorem cut_spec : ∀ (a b : List (Int × Int)) (p q : Option Int), Asc p a → Asc q b → Asc p (cutI a b) ∧ ∀ n, inI (cutI a b) n = (inI a n && !inI b n)
  | [], b, p, q, _, _ => by simp [cutI, Asc, inI]
  | x :: a, b, p, q, ha, hb => by
    obtain ⟨q', hs⟩ := asc_skip x.1 hb
    obtain ⟨i1, i2⟩ := cut_spec a (skipI x.1 b) (some x.2) q' ha.2.2 hs
    obtain ⟨j1, j2⟩ := cut1_spec (skipI x.1 b) q' x.1 x.2 (cutI a (skipI x.1 b)) p hs ha.1 ha.2.1 i1 (head_skip b x.1)
    refine ⟨j1, fun n => ?_⟩
    rw [cutI, inI_app, j2, i2, inI_cons]
    by_cases hn : x.1 ≤ n
    · rw [in_skip hb hn]
      cases inI b n <;> simp
    · rw [decide_eq_false hn, ha.2.2.out (by have := ha.2.1; omega)]; simp

end Go.Proofs.Ytkdjbiekjgeafaa.Iv

set_option linter.unusedSimpArgs false
set_option linter.unusedVariables false
namespace Go.Proofs.Ytkdjbiekjgeafaa.Iv
open Go.RowKit

set_option maxRecDepth 100000 in
theorem app_own {w : World} {base : Nat} {e : TypeId} {v : Value} {acc : List (Int × Int)} {f t : Int} (h : w.ownsRow base e 2 v (acc.length + 1) (ivF acc ++ [.int .i64 f, .int .i64 t])) : w.ownsRow base e 2 v (acc ++ [(f, t)]).length (ivF (acc ++ [(f, t)])) := by
  rw [ivF_app, List.length_append]; exact h

end Go.Proofs.Ytkdjbiekjgeafaa.Iv
