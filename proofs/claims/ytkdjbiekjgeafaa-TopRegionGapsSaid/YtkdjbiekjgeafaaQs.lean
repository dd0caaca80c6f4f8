/- Layer 02: plain definitions: intervals, lists of them, what Check and Contains answer. -/
/- Layer 02: Check of the code and of the reference. -/
/- Layer 02: Check of the code. -/
/- Layer 02: the reference's In, Contains, Few. -/
/- Layer 02: the reference's Contains, Few, Same. -/
/- Layer 02: plain laws of valid lists. -/
/- Layer 02: Contains of the code: its closure, the search. -/
/- Layer 02: Contains of the code. -/
/- Layer 02: few; the law IntervalChecks, but for awake. -/
import Derived.Test.YtkdjbiekjgeafaaQa
import Derived.Laws.StructEq
import Derived.Laws.EntriesVeiled
set_option linter.unusedSimpArgs false
set_option linter.unusedVariables false
namespace Go.Proofs.Ytkdjbiekjgeafaa.Iv
open Go.RowKit

/-- The cells of a list of intervals. -/
def ivF : List (Int × Int) → List Value
  | [] => []
  | x :: l => .int .i64 x.1 :: .int .i64 x.2 :: ivF l
set_option maxRecDepth 100000 in
theorem ivF_len : ∀ l : List (Int × Int), (ivF l).length = l.length * 2
  | [] => rfl
  | x :: l => by simp only [ivF, List.length_cons, ivF_len l]; omega
set_option maxRecDepth 100000 in
theorem ivF_fst : ∀ (l : List (Int × Int)) (i : Nat) (hi : i < l.length), (ivF l)[i * 2]? = some (.int .i64 l[i].1)
  | x :: l, 0, _ => rfl
  | x :: l, i + 1, hi => by
    have e : (i + 1) * 2 = i * 2 + 1 + 1 := by omega
    rw [e]
    simpa [ivF] using ivF_fst l i (by simpa using hi)
set_option maxRecDepth 100000 in
theorem ivF_snd : ∀ (l : List (Int × Int)) (i : Nat) (hi : i < l.length), (ivF l)[i * 2 + 1]? = some (.int .i64 l[i].2)
  | x :: l, 0, _ => rfl
  | x :: l, i + 1, hi => by
    have e : (i + 1) * 2 + 1 = i * 2 + 1 + 1 + 1 := by omega
    rw [e]
    simpa [ivF] using ivF_snd l i (by simpa using hi)

/-- The error at one interval behind another. -/
def stepE (p : Option (Int × Int)) (x : Int × Int) : Int := if x.2 ≤ x.1 then 2 else match p with | some q => if x.1 ≤ q.2 then 10 else 0 | none => 0
def chkFrom : Option (Int × Int) → List (Int × Int) → Int
  | _, [] => 0
  | p, x :: l => if stepE p x = 0 then chkFrom (some x) l else stepE p x
/-- The first error of a list. -/
def chkI (l : List (Int × Int)) : Int := chkFrom none l
/-- The interval ahead of the k-th. -/
def prevI (l : List (Int × Int)) (k : Nat) : Option (Int × Int) := if k = 0 then none else l[k - 1]?
set_option maxRecDepth 100000 in
theorem chk_round {l : List (Int × Int)} {k : Nat} (hk : k < l.length) : chkFrom (prevI l k) (l.drop k) = if stepE (prevI l k) l[k] = 0 then chkFrom (prevI l (k + 1)) (l.drop (k + 1)) else stepE (prevI l k) l[k] := by
  rw [List.drop_eq_getElem_cons hk]
  have e : prevI l (k + 1) = some l[k] := by simp [prevI, hk]
  rw [e]
  rfl
set_option maxRecDepth 100000 in
theorem chk_end (l : List (Int × Int)) (p : Option (Int × Int)) : chkFrom p (l.drop l.length) = 0 := by simp [chkFrom]

set_option maxRecDepth 100000 in
theorem prev_pos {l : List (Int × Int)} {k : Nat} (hk : k < l.length) (h0 : 0 < k) : prevI l k = some (l[k - 1]'(by omega)) := by
  unfold prevI
  rw [if_neg (by omega), List.getElem?_eq_getElem (by omega)]
set_option maxRecDepth 100000 in
theorem step10 {l : List (Int × Int)} {k : Nat} (hk : k < l.length) (h1 : ¬ (l[k]).2 ≤ (l[k]).1) (h2 : 0 < k ∧ (l[k]).1 ≤ (l[k - 1]'(by omega)).2) : stepE (prevI l k) l[k] = 10 := by
  rw [prev_pos hk h2.1]
  simp [stepE, h1, h2.2]
set_option maxRecDepth 100000 in
theorem step0 {l : List (Int × Int)} {k : Nat} (hk : k < l.length) (h1 : ¬ (l[k]).2 ≤ (l[k]).1) (h2 : ¬ (0 < k ∧ (l[k]).1 ≤ (l[k - 1]'(by omega)).2)) : stepE (prevI l k) l[k] = 0 := by
  by_cases h0 : k = 0
  · subst h0
    simp only [prevI, if_pos, stepE, if_neg h1]
  · rw [prev_pos hk (by omega)]
    have : ¬ (l[k]).1 ≤ (l[k - 1]'(by omega)).2 := fun h => h2 ⟨by omega, h⟩
    simp [stepE, h1, this]

/-- Whether an int is in a list. -/
def inI (l : List (Int × Int)) (n : Int) : Bool := l.any fun x => decide (x.1 ≤ n) && decide (n < x.2)

end Go.Proofs.Ytkdjbiekjgeafaa.Iv

set_option linter.unusedSimpArgs false
set_option linter.unusedVariables false
namespace Go.Proofs.Ytkdjbiekjgeafaa.Iv
open Go.RowKit

set_option maxRecDepth 100000 in
/-- The two cells of interval k. -/
theorem iv_cells {w : World} {b o : Nat} {l : List (Int × Int)} (h : ∀ j, j < l.length * 2 → w.cell? ⟨b, o + j, none⟩ = (ivF l)[j]?) (k : Nat) (hk : k < l.length) :
    w.cell? ⟨b, o + k * 2, none⟩ = some (.int .i64 (l[k]).1) ∧ w.cell? ⟨b, o + k * 2 + 1, none⟩ = some (.int .i64 (l[k]).2) :=
  ⟨by rw [h _ (by omega), ivF_fst l k hk], by rw [Nat.add_assoc, h _ (by omega), ivF_snd l k hk]⟩
set_option maxRecDepth 100000 in
theorem Below.drewN' {B : Nat} {a w : World} (h : Below B a w) (n : Nat) : Below B a (w.drewN n) := ⟨h.os, h.tape, h.output, h.size, h.block⟩

end Go.Proofs.Ytkdjbiekjgeafaa.Iv

set_option linter.unusedSimpArgs false
set_option linter.unusedVariables false
namespace Go.Proofs.Ytkdjbiekjgeafaa.Iv
open Go.RowKit

set_option maxRecDepth 100000 in
set_option maxHeartbeats 1000000 in
theorem chk_nil (a : Option Addr) (c : Nat) (w : World) :
    Calls Try.prog 21 #[.slice a 0 c] w fun e w' => e = .returned (.int .i64 0) ∧ Ext w w' := by
  go_enter Try.func21, Try.ntmps21
  go_wp2_with fail
  refine wp_loop_rounds 1 ?_
  rw [rounds_succ]
  go_wp2_with fail
  all_goals go_ret
  all_goals exact ⟨rfl, by (exact Ext.of_below (by (repeat' (first | (with_reducible exact Below.refl _ _) | (with_reducible assumption) | (with_reducible refine Below.alloc ?_ ?_ _) | (with_reducible refine Below.wext ?_ ?_ _ _) | (with_reducible refine Below.drew ?_) | (with_reducible refine Below.setCell ?_ ?_ _) | (with_reducible exact Nat.le_refl _) | (with_reducible refine Below.drewN' ?_ _) | (simp; omega) | (simp; done)))))⟩

set_option maxRecDepth 100000 in
set_option maxHeartbeats 4000000 in
theorem chk_some (l : List (Int × Int)) (b o c : Nat) (w : World) (hl : l.length ≤ maxLen) (hb : b < w.heap.size) (h : ∀ j, j < l.length * 2 → w.cell? ⟨b, o + j, none⟩ = (ivF l)[j]?) :
    Calls Try.prog 21 #[.slice (some ⟨b, o, none⟩) l.length c] w fun e w' => e = .returned (.int .i64 (chkI l)) ∧ Ext w w' := by
  have HL : Hid (∀ j, j < l.length * 2 → w.cell? ⟨b, o + j, none⟩ = (ivF l)[j]?) := h
  have zb : LtD b w.heap.size := hb
  unfold maxLen at hl
  clear h hb
  go_enter Try.func21, Try.ntmps21
  go_wp2_with fail
  go_loopw [7] (fun v wr => ∃ k : Nat, v = .int .i64 k ∧ k ≤ l.length ∧ chkI l = chkFrom (prevI l k) (l.drop k) ∧ ∃ os n, wr = wext w os n) (fun v _ => l.length - (intOf v).toNat)
  case atStart => exact ⟨0, rfl, by omega, by simp [chkI, prevI], Ext.refl _⟩
  case round =>
    obtain ⟨k, rfl, hk, he, os0, n0, rfl⟩ := hrel
    have HE : Hid (chkI l = chkFrom (prevI l k) (l.drop k)) := he
    clear he
    by_cases hlt : k < l.length
    · obtain ⟨a0, a1⟩ := iv_cells HL.out k hlt
      have HR := chk_round hlt
      rw [← HE.out] at HR
      replace HR : Hid _ := HR
      by_cases h1 : l[k].2 ≤ l[k].1
      · have h1' : (l[k].1 ≥ l[k].2) := h1
        go_upto_region 9999 with (first | ((with_reducible (apply wp_cond_split)); rfl; (all_goals intro hcd); (all_goals (first | (exfalso; exact Bool.noConfusion hcd) | ((try simp only [hcd]); (try (have hcf := hcd; simp only [Ya, Yb, Yc, Yd, Ye, Yf, Yg, Ys, Yt, Yh, Yi, Yj, Yk, Yl, Ym, Yn, int_eq_le, Yo, Yp] at hcf)); go_prune)))))
        all_goals go_ret
        all_goals refine ⟨ret_i ?_, by (exact Ext.of_below (by (repeat' (first | (with_reducible exact Below.refl _ _) | (with_reducible assumption) | (with_reducible refine Below.alloc ?_ ?_ _) | (with_reducible refine Below.wext ?_ ?_ _ _) | (with_reducible refine Below.drew ?_) | (with_reducible refine Below.setCell ?_ ?_ _) | (with_reducible exact Nat.le_refl _) | (with_reducible refine Below.drewN' ?_ _) | (simp; omega) | (simp; done)))))⟩
        all_goals (rw [HR.out]; simp [stepE, h1])
      · obtain ⟨p0, p1⟩ := iv_cells HL.out (k - 1) (by omega)
        have hi : ((k : Int) - 1).toNat = k - 1 := by omega
        have hi1 : ((1 : Int) ≤ (k : Int)) = (0 < k) := propext (by omega)
        have hi2 : (k : Int) - 1 < l.length := by omega
        have hi3 : IntKind.i64.wrap ((k : Int) - 1) = (k : Int) - 1 := IntWalk.i64_in _ (by constructor <;> omega)
        have H1 : Hid (¬ (l[k]).2 ≤ (l[k]).1) := h1
        go_upto_region 9999 with (first | ((with_reducible (apply wp_cond_split)); rfl; (all_goals intro hcd); (all_goals (first | (exfalso; exact Bool.noConfusion hcd) | ((try simp only [hcd]); go_prune)))) | ((fail_if_success go_not_at_region 6); ((with_reducible refine wp_region_quiet_lit ?_ ?_ ?_); kernel_rfl; kernel_rfl; (first | go_big_quiet_step (fail) | quiet_step (fail)); (first | go_big_quiet_step (fail) | quiet_step (fail)); (first | go_big_quiet_step (fail) | quiet_step (fail)); (first | go_big_quiet_step (fail) | (refine wpQuiet_liftE (wanted_T rfl rfl rfl) ?_; refine lift_fieldAddr rfl rfl ?_; apply Exists.intro; refine ⟨fun hgd => ?_, ?_⟩; (focus ((try simp only [Ya, Ye, Yb, Yd, Yc, Yg, Ys, Yt, Yh, Yi, Yj, Yk, Yl, Ym, Yn, int_eq_le, Yo, Yp] at hgd); (try simp only [Act.put, Zs, Zz, Zc]); go_simp; (try simp (disch := omega) only [Yq, Yr]); (first | done | exact rfl | (intro _; exact rfl)))); simp only [Act.put, Zs, Zz, Zc])); (first | go_big_quiet_step (fail) | (refine wpQuiet_liftE (wanted_T rfl rfl rfl) ?_; refine lift_put (n := 20) rfl (fun h => h) ?_; refine lift_load rfl rfl ?_; apply Exists.intro; refine ⟨fun hgd => ?_, ?_⟩; (focus ((try simp only [Ya, Ye, Yb, Yd, Yc, Yg, Ys, Yt, Yh, Yi, Yj, Yk, Yl, Ym, Yn, int_eq_le, Yo, Yp] at hgd); (try simp only [Act.put, Zs, Zz, Zc]); go_simp; (try simp (disch := omega) only [Yq, Yr]); (first | done | exact rfl | (intro _; exact rfl)))); simp only [Act.put, Zs, Zz, Zc])); (first | go_big_quiet_step (fail) | (refine wpQuiet_liftE (wanted_T rfl rfl rfl) ?_; (first | refine lift_moveL rfl rfl ?_ | refine lift_move rfl rfl ?_); simp only [Act.put, Zs, Zz, Zc])); (first | go_big_quiet_step (fail) | (refine wpQuiet_liftE (wanted_T rfl rfl rfl) ?_; (first | refine lift_moveL rfl rfl ?_ | refine lift_move rfl rfl ?_); simp only [Act.put, Zs, Zz, Zc])); (first | go_big_quiet_step (fail) | (refine wpQuiet_liftE (wanted_T rfl rfl rfl) ?_; refine lift_put (n := 23) rfl (fun h => h) ?_; refine lift_binOp_tc rfl rfl ?_; apply Exists.intro; refine ⟨fun hgd => ?_, ?_⟩; (focus ((try simp only [Ya, Ye, Yb, Yd, Yc, Yg, Ys, Yt, Yh, Yi, Yj, Yk, Yl, Ym, Yn, int_eq_le, Yo, Yp] at hgd); (try simp only [Act.put, Zs, Zz, Zc]); go_simp; (try simp (disch := omega) only [Yq, Yr]); (first | done | exact rfl | (intro _; exact rfl)))); simp only [Act.put, Zs, Zz, Zc])); (first | go_big_quiet_step (fail) | (refine wpQuiet_liftE (wanted_T rfl rfl rfl) ?_; refine lift_put (n := 22) rfl (fun h => h) ?_; refine lift_put (n := 24) rfl (fun h => h) ?_; refine lift_indexAddr_tt rfl rfl rfl ?_; apply Exists.intro; refine ⟨fun hgd => ?_, ?_⟩; (focus ((try simp only [Ya, Ye, Yb, Yd, Yc, Yg, Ys, Yt, Yh, Yi, Yj, Yk, Yl, Ym, Yn, int_eq_le, Yo, Yp] at hgd); (try simp only [Act.put, Zs, Zz, Zc]); go_simp; (try simp (disch := omega) only [Yq, Yr]); (first | done | exact rfl | (intro _; exact rfl)))); simp only [Act.put, Zs, Zz, Zc])); (first | go_big_quiet_step (fail) | (refine wpQuiet_liftE (wanted_T rfl rfl rfl) ?_; refine lift_put (n := 25) rfl (fun h => h) ?_; refine lift_fieldAddr rfl rfl ?_; apply Exists.intro; refine ⟨fun hgd => ?_, ?_⟩; (focus ((try simp only [Ya, Ye, Yb, Yd, Yc, Yg, Ys, Yt, Yh, Yi, Yj, Yk, Yl, Ym, Yn, int_eq_le, Yo, Yp] at hgd); (try simp only [Act.put, Zs, Zz, Zc]); go_simp; (try simp (disch := omega) only [Yq, Yr]); (first | done | exact rfl | (intro _; exact rfl)))); simp only [Act.put, Zs, Zz, Zc])); (first | go_big_quiet_step (fail) | (refine wpQuiet_liftE (wanted_T rfl rfl rfl) ?_; refine lift_put (n := 26) rfl (fun h => h) ?_; refine lift_load rfl rfl ?_; apply Exists.intro; refine ⟨fun hgd => ?_, ?_⟩; (focus ((try simp only [Ya, Ye, Yb, Yd, Yc, Yg, Ys, Yt, Yh, Yi, Yj, Yk, Yl, Ym, Yn, int_eq_le, Yo, Yp] at hgd); (try simp only [Act.put, Zs, Zz, Zc]); go_simp; (try simp (disch := omega) only [Yq, Yr]); (first | done | exact rfl | (intro _; exact rfl)))); simp only [Act.put, Zs, Zz, Zc])); (first | go_big_quiet_step (fail) | (refine wpQuiet_liftE (wanted_T rfl rfl rfl) ?_; refine lift_put (n := 21) rfl (fun h => h) ?_; refine lift_put (n := 27) rfl (fun h => h) ?_; refine lift_binOp_tt rfl rfl rfl ?_; apply Exists.intro; refine ⟨fun hgd => ?_, ?_⟩; (focus ((try simp only [Ya, Ye, Yb, Yd, Yc, Yg, Ys, Yt, Yh, Yi, Yj, Yk, Yl, Ym, Yn, int_eq_le, Yo, Yp] at hgd); (try simp only [Act.put, Zs, Zz, Zc]); go_simp; (try simp (disch := omega) only [Yq, Yr]); (first | done | exact rfl | (intro _; exact rfl)))); simp only [Act.put, Zs, Zz, Zc])); (first | (refine wpQuiet_pick_and rfl rfl rfl rfl ?_; simp only [Act.put, Zs, Zz, Zc]) | go_big_quiet_step (fail)); (with_reducible refine wpQuiet_nil ?_); intro wq hwq; obtain ⟨nq, hwq2⟩ := hwq; subst hwq2)))
        · go_ret
          refine ⟨ret_i ?_, by (exact Ext.of_below (by (repeat' (first | (with_reducible exact Below.refl _ _) | (with_reducible assumption) | (with_reducible refine Below.alloc ?_ ?_ _) | (with_reducible refine Below.wext ?_ ?_ _ _) | (with_reducible refine Below.drew ?_) | (with_reducible refine Below.setCell ?_ ?_ _) | (with_reducible exact Nat.le_refl _) | (with_reducible refine Below.drewN' ?_ _) | (simp; omega) | (simp; done)))))⟩
          have h2 : 0 < k ∧ (l[k]).1 ≤ (l[k - 1]'(by omega)).2 := by simpa using (by assumption : (decide (0 < k) && decide ((l[k]).1 ≤ (l[k - 1]'(by omega)).2)) = true)
          have h1' : ¬ (l[k]).2 ≤ (l[k]).1 := by have := H1.out; omega
          rw [HR.out, step10 hlt h1' h2]
          simp
        · have h2 : ¬ (0 < k ∧ (l[k]).1 ≤ (l[k - 1]'(by omega)).2) := by
            have h := (by assumption : (decide (0 < k) && decide ((l[k]).1 ≤ (l[k - 1]'(by omega)).2)) = false)
            intro hx
            simp [hx.1, hx.2] at h
          have h1' : ¬ (l[k]).2 ≤ (l[k]).1 := by have := H1.out; omega
          have he : chkI l = chkFrom (prevI l (k + 1)) (l.drop (k + 1)) := by
            rw [HR.out, step0 hlt h1' h2]; simp
          go_roundw
          case rel => exact ⟨k + 1, by go_num, by omega, he, by (exact Ext.of_below (by (repeat' (first | (with_reducible exact Below.refl _ _) | (with_reducible assumption) | (with_reducible refine Below.alloc ?_ ?_ _) | (with_reducible refine Below.wext ?_ ?_ _ _) | (with_reducible refine Below.drew ?_) | (with_reducible refine Below.setCell ?_ ?_ _) | (with_reducible exact Nat.le_refl _) | (with_reducible refine Below.drewN' ?_ _) | (simp; omega) | (simp; done)))))⟩
          case measure => simp [intOf]; omega
    · go_wp2_with fail
      all_goals go_ret
      all_goals refine ⟨ret_i ?_, by (exact Ext.of_below (by (repeat' (first | (with_reducible exact Below.refl _ _) | (with_reducible assumption) | (with_reducible refine Below.alloc ?_ ?_ _) | (with_reducible refine Below.wext ?_ ?_ _ _) | (with_reducible refine Below.drew ?_) | (with_reducible refine Below.setCell ?_ ?_ _) | (with_reducible exact Nat.le_refl _) | (with_reducible refine Below.drewN' ?_ _) | (simp; omega) | (simp; done)))))⟩
      all_goals (have e := HE.out; rw [show k = l.length by omega, chk_end] at e; exact e.symm)

set_option maxRecDepth 100000 in
theorem chk_any (l : List (Int × Int)) (v : Value) (w : World) (h : isSl w v 2 l.length (ivF l)) :
    Calls Try.prog 21 #[v] w fun e w' => e = .returned (.int .i64 (chkI l)) ∧ Ext w w' := by
  obtain ⟨_, h2⟩ := h
  rcases h2 with ⟨a0, c0, hv, hn⟩ | ⟨b, o, cap, hv, hn, hc, hlt, hx⟩
  · obtain rfl : l = [] := List.length_eq_zero_iff.1 hn
    rw [hv]
    exact chk_nil a0 c0 w
  · rw [hv]
    exact chk_some l b o cap w (by omega) hlt hx

end Go.Proofs.Ytkdjbiekjgeafaa.Iv

set_option linter.unusedSimpArgs false
set_option linter.unusedVariables false
namespace Go.Proofs.Ytkdjbiekjgeafaa.Iv
open Go.RowKit

set_option maxRecDepth 100000 in
theorem in_round {l : List (Int × Int)} {k : Nat} {n : Int} (hk : k < l.length) : inI (l.drop k) n = ((decide ((l[k]).1 ≤ n) && decide (n < (l[k]).2)) || inI (l.drop (k + 1)) n) := by
  rw [List.drop_eq_getElem_cons hk]
  rfl

end Go.Proofs.Ytkdjbiekjgeafaa.Iv

set_option linter.unusedSimpArgs false
set_option linter.unusedVariables false
namespace Go.Proofs.Ytkdjbiekjgeafaa.Iv
open Go.RowKit

set_option maxRecDepth 100000 in
theorem eqF_step {P : Program} {d : Nat} {xs ys : Array Value} {f : Field} {fs : List Field} {w : World} {a b : Value} {x y : Bool} (hn : f.name ≠ "_") (hx : (part f.type xs f.offset).run P w = .ok a w) (hy : (part f.type ys f.offset).run P w = .ok b w)
    (he : (Op.equalIn d f.type a b).run P w = .ok x w) (hr : (Op.eqFields d xs ys fs).run P w = .ok y w) : (Op.eqFields d xs ys (f :: fs)).run P w = .ok (x && y) w := by
  simp only [Op.eqFields, Sem.run_ite, Sem.run_bind, hx, hy, he, hr, Result.andThen_ok, if_pos hn]
  cases x <;> rfl
set_option maxRecDepth 100000 in
theorem eqF_last {P : Program} {d : Nat} {xs ys : Array Value} {f : Field} {w : World} {a b : Value} {x : Bool} (hn : f.name ≠ "_") (hx : (part f.type xs f.offset).run P w = .ok a w) (hy : (part f.type ys f.offset).run P w = .ok b w)
    (he : (Op.equalIn d f.type a b).run P w = .ok x w) : (Op.eqFields d xs ys [f]).run P w = .ok x w := by
  have := eqF_step (fs := []) (y := true) hn hx hy he (by rfl)
  simpa using this
set_option maxRecDepth 100000 in
theorem run_neqiv (a b c d : Int) (w : World) : (binOp .neq 45 (.agg #[.int .i64 a, .int .i64 b]) (.agg #[.int .i64 c, .int .i64 d])).run Try.prog w = .ok (.bool (!(a == c && b == d))) w := by
  rw [run_neq_struct, run_equalIn_agg w 9999 _ _ _ (by rw [Program.fieldsOf, Try.underlying45]) (by kernel_rfl)]
  have e : (Op.eqFields 9999 #[.int .i64 a, .int .i64 b] #[.int .i64 c, .int .i64 d] (Try.prog.fieldsOf 45).toList).run Try.prog w = .ok (a == c && b == d) w := by
    rw [Program.fieldsOf, Try.underlying45]
    refine eqF_step (by decide) rfl rfl (run_equalIn_int w _ _ _ .i64 _ _ (by kernel_rfl)) ?_
    exact eqF_last (by decide) rfl rfl (run_equalIn_int w _ _ _ .i64 _ _ (by kernel_rfl))
  rw [e]; rfl
section
variable {C : World → Prop} {ops : Array Oper} {Q : Act → Prop} {rest : List Oper} {a : Act} {o : Oper}
set_option maxRecDepth 100000 in
theorem wpQuiet_neqiv (x y u v : Int) {n m : Nat} (hg : o.guard = none) (ho : o.op = .binOp .neq 45 (.tmp n) (.tmp m) 45) (hx : a.tmps.toList[n]? = some (.agg #[.int .i64 x, .int .i64 y])) (hy : a.tmps.toList[m]? = some (.agg #[.int .i64 u, .int .i64 v]))
    (h : wpQuiet Try.prog ops C Q rest (a.put o.dst (.bool (!(x == u && y == v))))) : wpQuiet Try.prog ops C Q (o :: rest) a := by
  refine wpQuiet_step fun K hK => ?_
  rw [if_pos (by unfold Region.wanted; rw [hg])]
  refine ⟨_, qa_binOp_tt ho (by rw [← Array.getElem?_toList]; exact hx) (by rw [← Array.getElem?_toList]; exact hy) ?_, hK _ h⟩
  intro w hw
  have hG : Try.prog.eqGuardType Try.prog.depth 45 = false := by kernel_rfl
  simp only [Sem.run_bind, run_eqGuard_agg w .neq 45 _ _ _ _ hG, Result.andThen_ok, run_neqiv]
  exact ⟨rfl, rfl⟩
end

set_option maxRecDepth 100000 in
set_option maxHeartbeats 4000000 in
theorem same_some (l r : List (Int × Int)) (ba oa ca bb ob cb : Nat) (w : World) (hl : l.length ≤ maxLen) (hn : l.length = r.length) (ha : ∀ j, j < l.length * 2 → w.cell? ⟨ba, oa + j, none⟩ = (ivF l)[j]?) (hb : ∀ j, j < r.length * 2 → w.cell? ⟨bb, ob + j, none⟩ = (ivF r)[j]?) :
    Calls Try.prog 7 #[.slice (some ⟨ba, oa, none⟩) l.length ca, .slice (some ⟨bb, ob, none⟩) l.length cb] w fun e w' => e = .returned (.bool (decide (l = r))) ∧ Ext w w' := by
  have HA : Hid (∀ j, j < l.length * 2 → w.cell? ⟨ba, oa + j, none⟩ = (ivF l)[j]?) := ha
  have HB : Hid (∀ j, j < r.length * 2 → w.cell? ⟨bb, ob + j, none⟩ = (ivF r)[j]?) := hb
  have HN : Hid (l.length = r.length) := hn
  unfold maxLen at hl
  clear ha hb hn
  go_enter Try.func7, Try.ntmps7
  go_wp2_with fail
  go_loopw [5] (fun v wr => ∃ k : Nat, v = .int .i64 k ∧ k ≤ l.length ∧ l.take k = r.take k ∧ ∃ n, wr = w.drewN n) (fun v _ => l.length - (intOf v).toNat)
  case atStart => exact ⟨0, rfl, by omega, by simp, 0, rfl⟩
  case round =>
    obtain ⟨k, rfl, hk, he, n, rfl⟩ := hrel
    have HE : Hid (l.take k = r.take k) := he
    clear he
    by_cases hlt : k < l.length
    · obtain ⟨a0, a1⟩ := iv_cells HA.out k hlt
      obtain ⟨b0, b1⟩ := iv_cells HB.out k (by have := HN.out; omega)
      go_upto_region 9999 with (first | ((with_reducible (apply wp_cond_split)); rfl; (all_goals intro hcd); (all_goals (first | (exfalso; exact Bool.noConfusion hcd) | ((try simp only [hcd]); go_prune)))) | ((fail_if_success go_not_at_region 6); ((with_reducible refine wp_region_quiet_lit ?_ ?_ ?_); kernel_rfl; kernel_rfl; (first | go_big_quiet_step (fail) | quiet_step (fail)); (first | go_big_quiet_step (fail) | quiet_step (fail)); (first | go_big_quiet_step (fail) | quiet_step (fail)); (first | go_big_quiet_step (fail) | quiet_step (fail)); (first | go_big_quiet_step (fail) | quiet_step (fail)); (first | go_big_quiet_step (fail) | quiet_step (fail)); (first | go_big_quiet_step (fail) | quiet_step (fail)); (first | go_big_quiet_step (fail) | quiet_step (fail)); (first | (refine wpQuiet_neqiv _ _ _ _ rfl rfl rfl rfl ?_; simp only [Act.put, Zs, Zz, Zc]) | go_big_quiet_step (fail)); (with_reducible refine wpQuiet_nil ?_); intro wq hwq; obtain ⟨nq, hwq2⟩ := hwq; subst hwq2)))
      · go_ret
        refine ⟨ret_b ?_, Ext.of_below (by first | exact Below.drewN' (Below.refl _ _) _ | (repeat' (first | (with_reducible exact Below.refl _ _) | (with_reducible assumption) | (with_reducible refine Below.alloc ?_ ?_ _) | (with_reducible refine Below.wext ?_ ?_ _ _) | (with_reducible refine Below.drew ?_) | (with_reducible refine Below.setCell ?_ ?_ _) | (with_reducible exact Nat.le_refl _) | (with_reducible refine Below.drewN' ?_ _) | (simp; omega) | (simp; done))))⟩
        have h := (by assumption : (!((l[k]).1 == (r[k]'(by have := HN.out; omega)).1 && (l[k]).2 == (r[k]'(by have := HN.out; omega)).2)) = true)
        have hne : l ≠ r := by
          rintro rfl
          simp at h
        simp [hne]
      · have h := (by assumption : (!((l[k]).1 == (r[k]'(by have := HN.out; omega)).1 && (l[k]).2 == (r[k]'(by have := HN.out; omega)).2)) = false)
        have he : l.take (k + 1) = r.take (k + 1) := by
          have hr : k < r.length := by have := HN.out; omega
          rw [List.take_succ_eq_append_getElem hlt, List.take_succ_eq_append_getElem hr, HE.out]
          congr 2
          have h' : (l[k]).1 = (r[k]'hr).1 ∧ (l[k]).2 = (r[k]'hr).2 := by simpa using h
          exact Prod.ext h'.1 h'.2
        go_roundw
        case rel => exact ⟨k + 1, by go_num, by omega, he, _, rfl⟩
        case measure => simp [intOf]; omega
    · go_wp2_with fail
      all_goals go_ret
      all_goals refine ⟨ret_b ?_, Ext.of_below (by first | exact Below.drewN' (Below.refl _ _) _ | (repeat' (first | (with_reducible exact Below.refl _ _) | (with_reducible assumption) | (with_reducible refine Below.alloc ?_ ?_ _) | (with_reducible refine Below.wext ?_ ?_ _ _) | (with_reducible refine Below.drew ?_) | (with_reducible refine Below.setCell ?_ ?_ _) | (with_reducible exact Nat.le_refl _) | (with_reducible refine Below.drewN' ?_ _) | (simp; omega) | (simp; done))))⟩
      all_goals (have e := HE.out; have hn := HN.out; rw [show k = l.length by omega, List.take_length, hn, List.take_length] at e; simp [e])

set_option maxRecDepth 100000 in
set_option maxHeartbeats 1000000 in
theorem same_nil (a b : Option Addr) (ca cb : Nat) (w : World) :
    Calls Try.prog 7 #[.slice a 0 ca, .slice b 0 cb] w fun e w' => e = .returned (.bool true) ∧ Ext w w' := by
  go_enter Try.func7, Try.ntmps7
  go_wp2_with fail
  refine wp_loop_rounds 1 ?_
  rw [rounds_succ]
  go_wp2_with fail
  all_goals go_ret
  all_goals exact ⟨rfl, by (exact Ext.of_below (by (repeat' (first | (with_reducible exact Below.refl _ _) | (with_reducible assumption) | (with_reducible refine Below.alloc ?_ ?_ _) | (with_reducible refine Below.wext ?_ ?_ _ _) | (with_reducible refine Below.drew ?_) | (with_reducible refine Below.setCell ?_ ?_ _) | (with_reducible exact Nat.le_refl _) | (with_reducible refine Below.drewN' ?_ _) | (simp; omega) | (simp; done)))))⟩
set_option maxRecDepth 100000 in
set_option maxHeartbeats 1000000 in
theorem same_len (a b : Option Addr) (n m ca cb : Nat) (h : n ≠ m) (w : World) :
    Calls Try.prog 7 #[.slice a n ca, .slice b m cb] w fun e w' => e = .returned (.bool false) ∧ Ext w w' := by
  have e1 : ((n : Int) != m) = true := by simp; omega
  have e2 : ¬ ((n : Int) = m) := by omega
  go_enter Try.func7, Try.ntmps7
  go_wp2_with fail
  all_goals go_ret
  all_goals exact ⟨rfl, by (exact Ext.of_below (by (repeat' (first | (with_reducible exact Below.refl _ _) | (with_reducible assumption) | (with_reducible refine Below.alloc ?_ ?_ _) | (with_reducible refine Below.wext ?_ ?_ _ _) | (with_reducible refine Below.drew ?_) | (with_reducible refine Below.setCell ?_ ?_ _) | (with_reducible exact Nat.le_refl _) | (with_reducible refine Below.drewN' ?_ _) | (simp; omega) | (simp; done)))))⟩
set_option maxRecDepth 100000 in
theorem same_any (l r : List (Int × Int)) (v u : Value) (w : World) (hv : isSl w v 2 l.length (ivF l)) (hu : isSl w u 2 r.length (ivF r)) :
    Calls Try.prog 7 #[v, u] w fun e w' => e = .returned (.bool (decide (l = r))) ∧ Ext w w' := by
  have sv : ∃ a c, v = .slice a l.length c := by
    obtain ⟨_, ⟨a0, c0, h, h0⟩ | ⟨b, o, c, h, _⟩⟩ := hv
    · exact ⟨a0, c0, by rw [h, h0]⟩
    · exact ⟨_, c, h⟩
  have su : ∃ a c, u = .slice a r.length c := by
    obtain ⟨_, ⟨a0, c0, h, h0⟩ | ⟨b, o, c, h, _⟩⟩ := hu
    · exact ⟨a0, c0, by rw [h, h0]⟩
    · exact ⟨_, c, h⟩
  by_cases hn : l.length = r.length
  · by_cases h0 : l.length = 0
    · obtain ⟨a, c, rfl⟩ := sv
      obtain ⟨a', c', rfl⟩ := su
      rw [← hn, h0]
      obtain rfl : l = [] := List.length_eq_zero_iff.1 h0
      obtain rfl : r = [] := List.length_eq_zero_iff.1 (by omega)
      simpa using same_nil a a' c c' w
    · obtain ⟨ba, oa, ca', e1, h1, h2, h3, h4⟩ := hv.cell (by omega)
      obtain ⟨bb, ob, cb', e2, g1, g2, g3, g4⟩ := hu.cell (by omega)
      subst e1 e2
      rw [← hn]
      exact same_some l r ba oa ca' bb ob cb' w (by omega) hn h4 g4
  · obtain ⟨a, c, rfl⟩ := sv
    obtain ⟨a', c', rfl⟩ := su
    have hne : l ≠ r := fun e => hn (by rw [e])
    simpa [hne] using same_len a a' l.length r.length c c' hn w

end Go.Proofs.Ytkdjbiekjgeafaa.Iv

set_option linter.unusedSimpArgs false
set_option linter.unusedVariables false
namespace Go.Proofs.Ytkdjbiekjgeafaa.Iv
open Go.RowKit

/-- A valid list, index by index. -/
structure Okay (l : List (Int × Int)) : Prop where
  one : ∀ (i : Nat) (h : i < l.length), (l[i]).1 < (l[i]).2
  two : ∀ (i : Nat) (h : i + 1 < l.length), (l[i]).2 < (l[i + 1]).1
set_option maxRecDepth 100000 in
theorem chkFrom_zero : ∀ (l : List (Int × Int)) (p : Option (Int × Int)), chkFrom p l = 0 → Okay l ∧ ∀ x y, p = some x → l[0]? = some y → x.2 < y.1
  | [], _, _ => ⟨⟨fun i h => by simp at h, fun i h => by simp at h⟩, fun x y _ h => by simp at h⟩
  | a :: l, p, h => by
    unfold chkFrom at h
    split at h
    · rename_i hs
      obtain ⟨ho, hn⟩ := chkFrom_zero l (some a) h
      unfold stepE at hs
      split at hs
      · omega
      · rename_i h1
        refine ⟨⟨fun i hi => ?_, fun i hi => ?_⟩, fun x y hx hy => ?_⟩
        · cases i with
          | zero => simpa using h1
          | succ i => exact ho.one i (by simpa using hi)
        · cases i with
          | zero =>
            have h2 : 0 < l.length := by simpa using hi
            have := hn a l[0] rfl (List.getElem?_eq_getElem h2)
            simpa using this
          | succ i => exact ho.two i (by simpa using hi)
        · obtain rfl : a = y := by simpa using hy
          subst hx
          simp only at hs
          split at hs
          · omega
          · omega
    · rename_i hs; exact absurd h hs
set_option maxRecDepth 100000 in
theorem okay_of {l : List (Int × Int)} (h : chkI l = 0) : Okay l := (chkFrom_zero l none h).1
set_option maxRecDepth 100000 in
/-- The ends ascend. -/
theorem Okay.asc {l : List (Int × Int)} (h : Okay l) : ∀ (j i : Nat) (hj : j < l.length) (hi : i < j), (l[i]).2 < (l[j]).1
  | j + 1, i, hj, hi => by
    have h2 := h.two j hj
    by_cases e : i = j
    · subst e; exact h2
    · have h3 := h.asc j i (by omega) (by omega)
      have h1 := h.one j (by omega)
      omega
/-- Where the first interval lies that ends behind an int. -/
def findI (l : List (Int × Int)) (m : Int) : Nat := (l.takeWhile fun x => decide (x.2 ≤ m)).length
set_option maxRecDepth 100000 in
theorem findI_of {l : List (Int × Int)} {m : Int} {k : Nat} (hk : k ≤ l.length) (h1 : ∀ (t : Nat) (h : t < l.length), t < k → (l[t]).2 ≤ m) (h2 : ∀ (h : k < l.length), m < (l[k]).2) : findI l m = k := by
  induction l generalizing k with
  | nil => simp at hk; subst hk; rfl
  | cons a l ih =>
    unfold findI
    rw [List.takeWhile_cons]
    cases k with
    | zero =>
      have := h2 (by simp)
      have : ¬ a.2 ≤ m := by simpa using this
      simp [this]
    | succ k =>
      have h0 := h1 0 (by simp) (by omega)
      have h0 : a.2 ≤ m := by simpa using h0
      have := ih (k := k) (by simpa using hk) (fun t h hlt => h1 (t + 1) (by simp only [List.length_cons]; omega) (by omega)) (fun h => h2 (by simp only [List.length_cons]; omega))
      simp only [findI] at this
      simp [h0, this]
set_option maxRecDepth 100000 in
/-- Membership in a valid list, at the place that a search finds. -/
theorem find_in {l : List (Int × Int)} {m : Int} {k : Nat} (ho : Okay l) (hk : k ≤ l.length) (h1 : ∀ (t : Nat) (h : t < l.length), t < k → (l[t]).2 ≤ m) (h2 : ∀ (h : k < l.length), m < (l[k]).2) :
    inI l m = (if h : k < l.length then decide ((l[k]).1 ≤ m) else false) := by
  unfold inI
  by_cases h : k < l.length
  · rw [dif_pos h]
    by_cases hm : (l[k]).1 ≤ m
    · rw [decide_eq_true hm, List.any_eq_true]
      exact ⟨l[k], List.getElem_mem h, by simp [hm, h2 h]⟩
    · rw [decide_eq_false hm, List.any_eq_false]
      intro x hx
      obtain ⟨t, ht, rfl⟩ := List.getElem_of_mem hx
      rcases Nat.lt_trichotomy t k with e | e | e
      · have := h1 t ht e; simp; omega
      · subst e; simp; omega
      · have := ho.asc t k ht e
        have := h2 h
        simp; omega
  · rw [dif_neg h, List.any_eq_false]
    intro x hx
    obtain ⟨t, ht, rfl⟩ := List.getElem_of_mem hx
    have := h1 t ht (by omega)
    simp; omega

end Go.Proofs.Ytkdjbiekjgeafaa.Iv

set_option linter.unusedSimpArgs false
set_option linter.unusedVariables false
namespace Go.Proofs.Ytkdjbiekjgeafaa.Iv
open Go.RowKit

set_option maxRecDepth 100000 in
theorem cell_ext {w w' : World} {b i : Nat} {v : Value} (h : w.cell? ⟨b, i, none⟩ = some v) (hE : Ext w w') : w'.cell? ⟨b, i, none⟩ = some v :=
  (hE.below.cell (p := ⟨b, i, none⟩) (World.block_lt_of_cell? w _ h)).trans h
set_option maxRecDepth 100000 in
theorem mid_eq (i j : Nat) (hi : i ≤ j) (hj : j ≤ 9223372036854775807) : wrap64 (IntKind.u64.wrap (wrap64 ((i : Int) + (j : Int))) / 2) = (((i + j) / 2 : Nat) : Int) := by
  rw [IntKind.wrap_u64]
  unfold wrap64
  omega
set_option maxRecDepth 100000 in
theorem Okay.le {l : List (Int × Int)} (h : Okay l) {i j : Nat} (hj : j < l.length) (hij : i ≤ j) : (l[i]'(by omega)).2 ≤ (l[j]).2 := by
  rcases Nat.lt_or_ge i j with e | e
  · have := h.asc j i hj e
    have := h.one j hj
    omega
  · obtain rfl : i = j := by omega
    omega

end Go.Proofs.Ytkdjbiekjgeafaa.Iv

set_option linter.unusedSimpArgs false
set_option linter.unusedVariables false
namespace Go.Proofs.Ytkdjbiekjgeafaa.Iv
open Go.RowKit

set_option maxRecDepth 100000 in
theorem findI_spec (l : List (Int × Int)) (m : Int) : findI l m ≤ l.length ∧ (∀ (t : Nat) (h : t < l.length), t < findI l m → (l[t]).2 ≤ m) ∧ (∀ (h : findI l m < l.length), m < (l[findI l m]).2) := by
  induction l with
  | nil => exact ⟨by simp [findI], fun t h => by simp at h, fun h => by simp at h⟩
  | cons a l ih =>
    obtain ⟨h1, h2, h3⟩ := ih
    by_cases ha : a.2 ≤ m
    · have e : findI (a :: l) m = findI l m + 1 := by simp [findI, List.takeWhile_cons, ha]
      rw [e]
      refine ⟨by simp only [List.length_cons]; omega, fun t h ht => ?_, fun h => ?_⟩
      · cases t with
        | zero => exact ha
        | succ t => exact h2 t (by simpa using h) (by omega)
      · exact h3 (by simpa using h)
    · have e : findI (a :: l) m = 0 := by simp [findI, List.takeWhile_cons, ha]
      refine ⟨by omega, fun t h ht => by omega, fun h => ?_⟩
      simp only [e]
      show m < a.2
      omega

set_option maxRecDepth 100000 in
theorem sl_form {w : World} {v : Value} {m n : Nat} {xs : List Value} (h : isSl w v m n xs) : ∃ a c, v = .slice a n c := by
  obtain ⟨_, ⟨a0, c0, h, h0⟩ | ⟨b, o, c, h, _⟩⟩ := h
  · exact ⟨a0, c0, by rw [h, h0]⟩
  · exact ⟨_, c, h⟩
set_option maxRecDepth 100000 in
theorem sl_max {w : World} {v : Value} {m n : Nat} {xs : List Value} (h : isSl w v m n xs) : n ≤ maxLen := by
  obtain ⟨_, ⟨_, _, _, h⟩ | ⟨b, o, c, h, h1, h2, _⟩⟩ := h
  · rw [h]; exact Nat.zero_le _
  · omega

end Go.Proofs.Ytkdjbiekjgeafaa.Iv

set_option linter.unusedSimpArgs false
set_option linter.unusedVariables false
namespace Go.Proofs.Ytkdjbiekjgeafaa.Iv
open Go.RowKit

end Go.Proofs.Ytkdjbiekjgeafaa.Iv
