/- Layer 22: Merge, Split. -/
import Derived.Test.YtohodegmkepemaaRgg
set_option linter.unusedSimpArgs false
set_option linter.unusedVariables false
namespace Go.Proofs.Ytohodegmkepemaa
open Go.RowKit

/-- A result beside an error: 'its zero value'. -/
def pk (e v : Int) : Int := if e = 0 then v else 0
def mergE (sa pa ra fa ia xa : Int) (sb pb rb fb ib xb : Int) : Int := if chkR sa pa ra fa ia xa = 0 then (if chkR sb pb rb fb ib xb = 0 then (if mergF sa pa ra fa ia xa sb pb rb fb ib xb = true then 0 else 11) else chkR sb pb rb fb ib xb) else chkR sa pa ra fa ia xa
def mergV (e : Int) (sa pa ra fa ia xa : Int) (pb : Int) : Value := .tuple #[.agg #[.int .i64 (pk e sa), .int .i64 (pk e (pa + pb)), .int .i64 (pk e ra), .int .i64 (pk e fa), .int .i64 (pk e ia), .int .i64 (pk e xa)], .int .i64 e]
theorem mergF_true {sa pa ra fa ia xa sb pb rb fb ib xb : Int} (h : mergF sa pa ra fa ia xa sb pb rb fb ib xb = true) : chkR sa pa ra fa ia xa = 0 ∧ chkR sb pb rb fb ib xb = 0 ∧ ¬ fa / 2 % 2 = 1 ∧ sb = sa + pa ∧ rb = ra ∧ fb = fa ∧ ib = ia ∧ xb = (if ia = -1 then xa else xa + pa) := by simpa [mergF] using h

set_option maxHeartbeats 1000000 in
theorem me_tt (sa pa ra fa ia xa : Int) (sb pb rb fb ib xb : Int) (hva : chkR sa pa ra fa ia xa = 0) (hvb : chkR sb pb rb fb ib xb = 0) (hm : mergF sa pa ra fa ia xa sb pb rb fb ib xb = true) (w : World) :
    Calls Try.prog 14 #[.agg #[.int .i64 sa, .int .i64 pa, .int .i64 ra, .int .i64 fa, .int .i64 ia, .int .i64 xa], .agg #[.int .i64 sb, .int .i64 pb, .int .i64 rb, .int .i64 fb, .int .i64 ib, .int .i64 xb]] w fun e w' => e = .returned (mergV (mergE sa pa ra fa ia xa sb pb rb fb ib xb) sa pa ra fa ia xa pb) ∧ Ext w w' := by
  have hba := chk_bd hva
  have hba1 : 0 ≤ sa := hba.1
  have hba2 : 1 ≤ pa := hba.2.1
  have hba3 : sa + pa ≤ 512 := hba.2.2.1
  have hbaf0 : 0 ≤ fa := hba.2.2.2.2.1
  have hbaf1 : fa ≤ 15 := hba.2.2.2.2.2.1
  have hbai : -1 ≤ ia ∧ ia ≤ 3 := ⟨hba.2.2.2.2.2.2.1, hba.2.2.2.2.2.2.2.1⟩
  have hbax : 0 ≤ xa := hba.2.2.2.2.2.2.2.2.1
  have hbay : xa ≤ 16 := by have := hba.2.2.2.2.2.2.2.2.2; omega
  have e1a : (chkR sa pa ra fa ia xa == 0) = true := by simp [hva]
  have e2a : (chkR sa pa ra fa ia xa != 0) = false := by simp [hva]
  have Ha : Hid (chkR sa pa ra fa ia xa = 0) := hva
  have HBa : Hid _ := hba
  clear hva hba
  have hbb := chk_bd hvb
  have hbb1 : 0 ≤ sb := hbb.1
  have hbb2 : 1 ≤ pb := hbb.2.1
  have hbb3 : sb + pb ≤ 512 := hbb.2.2.1
  have hbbf0 : 0 ≤ fb := hbb.2.2.2.2.1
  have hbbf1 : fb ≤ 15 := hbb.2.2.2.2.2.1
  have hbbi : -1 ≤ ib ∧ ib ≤ 3 := ⟨hbb.2.2.2.2.2.2.1, hbb.2.2.2.2.2.2.2.1⟩
  have hbbx : 0 ≤ xb := hbb.2.2.2.2.2.2.2.2.1
  have hbby : xb ≤ 16 := by have := hbb.2.2.2.2.2.2.2.2.2; omega
  have e1b : (chkR sb pb rb fb ib xb == 0) = true := by simp [hvb]
  have e2b : (chkR sb pb rb fb ib xb != 0) = false := by simp [hvb]
  have Hb : Hid (chkR sb pb rb fb ib xb = 0) := hvb
  have HBb : Hid _ := hbb
  clear hvb hbb
  have HM : Hid (mergF sa pa ra fa ia xa sb pb rb fb ib xb = true) := hm
  go_enter Try.func14, Try.ntmps14
  go_upto_region 9999 with (first | ((with_reducible (apply wp_cond_split)); rfl; (all_goals intro hcd); (all_goals (first | (exfalso; exact Bool.noConfusion hcd) | ((try simp only [hcd]); (try (have hcf := hcd; simp only [Bool.and_eq_true, Bool.or_eq_true, Bool.and_eq_false_iff, Bool.or_eq_false_iff, Bool.not_eq_true', Bool.not_eq_false', Bool.not_eq_eq_eq_not, Bool.not_true, Bool.not_false, decide_eq_true_eq, decide_eq_false_iff_not, bne_iff_ne, beq_iff_eq, beq_eq_false_iff_ne, bne_eq_false_iff_eq, ne_eq, int_eq_le, Int.not_lt, Int.not_le] at hcf)); go_prune)))) | (go_at_call 11; refine (chk_any _ _ _ _ _ _ _).mono ?_; rintro e w1 ⟨rfl, os1, n1, rfl⟩) | (go_at_call 16; refine (mg_any _ _ _ _ _ _ _ _ _ _ _ _ _).mono ?_; rintro e w1 ⟨rfl, os1, n1, rfl⟩))
  all_goals go_returns
  all_goals refine ⟨?_, by (exact Ext.of_below (by (repeat' (first | (with_reducible exact Below.refl _ _) | (with_reducible assumption) | (with_reducible refine Below.alloc ?_ ?_ _) | (with_reducible refine Below.wext ?_ ?_ _ _) | (with_reducible refine Below.drew ?_) | (with_reducible refine Below.setCell ?_ ?_ _) | (with_reducible exact Nat.le_refl _) | (simp; omega) | (simp; done)))))⟩
  all_goals (simp [mergV, mergE, pk, Ha.out, Hb.out, HM.out])

set_option maxHeartbeats 1000000 in
theorem me_tn (sa pa ra fa ia xa : Int) (sb pb rb fb ib xb : Int) (hva : chkR sa pa ra fa ia xa = 0) (hvb : chkR sb pb rb fb ib xb = 0) (hm : mergF sa pa ra fa ia xa sb pb rb fb ib xb = false) (w : World) :
    Calls Try.prog 14 #[.agg #[.int .i64 sa, .int .i64 pa, .int .i64 ra, .int .i64 fa, .int .i64 ia, .int .i64 xa], .agg #[.int .i64 sb, .int .i64 pb, .int .i64 rb, .int .i64 fb, .int .i64 ib, .int .i64 xb]] w fun e w' => e = .returned (mergV (mergE sa pa ra fa ia xa sb pb rb fb ib xb) sa pa ra fa ia xa pb) ∧ Ext w w' := by
  have hba := chk_bd hva
  have hba1 : 0 ≤ sa := hba.1
  have hba2 : 1 ≤ pa := hba.2.1
  have hba3 : sa + pa ≤ 512 := hba.2.2.1
  have hbaf0 : 0 ≤ fa := hba.2.2.2.2.1
  have hbaf1 : fa ≤ 15 := hba.2.2.2.2.2.1
  have hbai : -1 ≤ ia ∧ ia ≤ 3 := ⟨hba.2.2.2.2.2.2.1, hba.2.2.2.2.2.2.2.1⟩
  have hbax : 0 ≤ xa := hba.2.2.2.2.2.2.2.2.1
  have hbay : xa ≤ 16 := by have := hba.2.2.2.2.2.2.2.2.2; omega
  have e1a : (chkR sa pa ra fa ia xa == 0) = true := by simp [hva]
  have e2a : (chkR sa pa ra fa ia xa != 0) = false := by simp [hva]
  have Ha : Hid (chkR sa pa ra fa ia xa = 0) := hva
  have HBa : Hid _ := hba
  clear hva hba
  have hbb := chk_bd hvb
  have hbb1 : 0 ≤ sb := hbb.1
  have hbb2 : 1 ≤ pb := hbb.2.1
  have hbb3 : sb + pb ≤ 512 := hbb.2.2.1
  have hbbf0 : 0 ≤ fb := hbb.2.2.2.2.1
  have hbbf1 : fb ≤ 15 := hbb.2.2.2.2.2.1
  have hbbi : -1 ≤ ib ∧ ib ≤ 3 := ⟨hbb.2.2.2.2.2.2.1, hbb.2.2.2.2.2.2.2.1⟩
  have hbbx : 0 ≤ xb := hbb.2.2.2.2.2.2.2.2.1
  have hbby : xb ≤ 16 := by have := hbb.2.2.2.2.2.2.2.2.2; omega
  have e1b : (chkR sb pb rb fb ib xb == 0) = true := by simp [hvb]
  have e2b : (chkR sb pb rb fb ib xb != 0) = false := by simp [hvb]
  have Hb : Hid (chkR sb pb rb fb ib xb = 0) := hvb
  have HBb : Hid _ := hbb
  clear hvb hbb
  have HM : Hid (mergF sa pa ra fa ia xa sb pb rb fb ib xb = false) := hm
  go_enter Try.func14, Try.ntmps14
  go_upto_region 9999 with (first | ((with_reducible (apply wp_cond_split)); rfl; (all_goals intro hcd); (all_goals (first | (exfalso; exact Bool.noConfusion hcd) | ((try simp only [hcd]); (try (have hcf := hcd; simp only [Bool.and_eq_true, Bool.or_eq_true, Bool.and_eq_false_iff, Bool.or_eq_false_iff, Bool.not_eq_true', Bool.not_eq_false', Bool.not_eq_eq_eq_not, Bool.not_true, Bool.not_false, decide_eq_true_eq, decide_eq_false_iff_not, bne_iff_ne, beq_iff_eq, beq_eq_false_iff_ne, bne_eq_false_iff_eq, ne_eq, int_eq_le, Int.not_lt, Int.not_le] at hcf)); go_prune)))) | (go_at_call 11; refine (chk_any _ _ _ _ _ _ _).mono ?_; rintro e w1 ⟨rfl, os1, n1, rfl⟩) | (go_at_call 16; refine (mg_any _ _ _ _ _ _ _ _ _ _ _ _ _).mono ?_; rintro e w1 ⟨rfl, os1, n1, rfl⟩))
  all_goals go_returns
  all_goals refine ⟨?_, by (exact Ext.of_below (by (repeat' (first | (with_reducible exact Below.refl _ _) | (with_reducible assumption) | (with_reducible refine Below.alloc ?_ ?_ _) | (with_reducible refine Below.wext ?_ ?_ _ _) | (with_reducible refine Below.drew ?_) | (with_reducible refine Below.setCell ?_ ?_ _) | (with_reducible exact Nat.le_refl _) | (simp; omega) | (simp; done)))))⟩
  all_goals (simp [mergV, mergE, pk, Ha.out, Hb.out, HM.out])

set_option maxHeartbeats 1000000 in
theorem me_tf (sa pa ra fa ia xa : Int) (sb pb rb fb ib xb : Int) (hva : chkR sa pa ra fa ia xa = 0) (hvb : ¬ chkR sb pb rb fb ib xb = 0) (w : World) :
    Calls Try.prog 14 #[.agg #[.int .i64 sa, .int .i64 pa, .int .i64 ra, .int .i64 fa, .int .i64 ia, .int .i64 xa], .agg #[.int .i64 sb, .int .i64 pb, .int .i64 rb, .int .i64 fb, .int .i64 ib, .int .i64 xb]] w fun e w' => e = .returned (mergV (mergE sa pa ra fa ia xa sb pb rb fb ib xb) sa pa ra fa ia xa pb) ∧ Ext w w' := by
  have hba := chk_bd hva
  have hba1 : 0 ≤ sa := hba.1
  have hba2 : 1 ≤ pa := hba.2.1
  have hba3 : sa + pa ≤ 512 := hba.2.2.1
  have hbaf0 : 0 ≤ fa := hba.2.2.2.2.1
  have hbaf1 : fa ≤ 15 := hba.2.2.2.2.2.1
  have hbai : -1 ≤ ia ∧ ia ≤ 3 := ⟨hba.2.2.2.2.2.2.1, hba.2.2.2.2.2.2.2.1⟩
  have hbax : 0 ≤ xa := hba.2.2.2.2.2.2.2.2.1
  have hbay : xa ≤ 16 := by have := hba.2.2.2.2.2.2.2.2.2; omega
  have e1a : (chkR sa pa ra fa ia xa == 0) = true := by simp [hva]
  have e2a : (chkR sa pa ra fa ia xa != 0) = false := by simp [hva]
  have Ha : Hid (chkR sa pa ra fa ia xa = 0) := hva
  have HBa : Hid _ := hba
  clear hva hba
  have e1b : (chkR sb pb rb fb ib xb == 0) = false := by simp [hvb]
  have e2b : (chkR sb pb rb fb ib xb != 0) = true := by simp [hvb]
  have Hb : Hid (¬ chkR sb pb rb fb ib xb = 0) := hvb
  clear hvb
  go_enter Try.func14, Try.ntmps14
  go_upto_region 9999 with (first | ((with_reducible (apply wp_cond_split)); rfl; (all_goals intro hcd); (all_goals (first | (exfalso; exact Bool.noConfusion hcd) | ((try simp only [hcd]); (try (have hcf := hcd; simp only [Bool.and_eq_true, Bool.or_eq_true, Bool.and_eq_false_iff, Bool.or_eq_false_iff, Bool.not_eq_true', Bool.not_eq_false', Bool.not_eq_eq_eq_not, Bool.not_true, Bool.not_false, decide_eq_true_eq, decide_eq_false_iff_not, bne_iff_ne, beq_iff_eq, beq_eq_false_iff_ne, bne_eq_false_iff_eq, ne_eq, int_eq_le, Int.not_lt, Int.not_le] at hcf)); go_prune)))) | (go_at_call 11; refine (chk_any _ _ _ _ _ _ _).mono ?_; rintro e w1 ⟨rfl, os1, n1, rfl⟩) | (go_at_call 16; refine (mg_any _ _ _ _ _ _ _ _ _ _ _ _ _).mono ?_; rintro e w1 ⟨rfl, os1, n1, rfl⟩))
  all_goals go_returns
  all_goals refine ⟨?_, by (exact Ext.of_below (by (repeat' (first | (with_reducible exact Below.refl _ _) | (with_reducible assumption) | (with_reducible refine Below.alloc ?_ ?_ _) | (with_reducible refine Below.wext ?_ ?_ _ _) | (with_reducible refine Below.drew ?_) | (with_reducible refine Below.setCell ?_ ?_ _) | (with_reducible exact Nat.le_refl _) | (simp; omega) | (simp; done)))))⟩
  all_goals (simp [mergV, mergE, pk, Ha.out, Hb.out])

set_option maxHeartbeats 1000000 in
theorem me_f (sa pa ra fa ia xa : Int) (sb pb rb fb ib xb : Int) (hva : ¬ chkR sa pa ra fa ia xa = 0) (w : World) :
    Calls Try.prog 14 #[.agg #[.int .i64 sa, .int .i64 pa, .int .i64 ra, .int .i64 fa, .int .i64 ia, .int .i64 xa], .agg #[.int .i64 sb, .int .i64 pb, .int .i64 rb, .int .i64 fb, .int .i64 ib, .int .i64 xb]] w fun e w' => e = .returned (mergV (mergE sa pa ra fa ia xa sb pb rb fb ib xb) sa pa ra fa ia xa pb) ∧ Ext w w' := by
  have e1a : (chkR sa pa ra fa ia xa == 0) = false := by simp [hva]
  have e2a : (chkR sa pa ra fa ia xa != 0) = true := by simp [hva]
  have Ha : Hid (¬ chkR sa pa ra fa ia xa = 0) := hva
  clear hva
  go_enter Try.func14, Try.ntmps14
  go_upto_region 9999 with (first | ((with_reducible (apply wp_cond_split)); rfl; (all_goals intro hcd); (all_goals (first | (exfalso; exact Bool.noConfusion hcd) | ((try simp only [hcd]); (try (have hcf := hcd; simp only [Bool.and_eq_true, Bool.or_eq_true, Bool.and_eq_false_iff, Bool.or_eq_false_iff, Bool.not_eq_true', Bool.not_eq_false', Bool.not_eq_eq_eq_not, Bool.not_true, Bool.not_false, decide_eq_true_eq, decide_eq_false_iff_not, bne_iff_ne, beq_iff_eq, beq_eq_false_iff_ne, bne_eq_false_iff_eq, ne_eq, int_eq_le, Int.not_lt, Int.not_le] at hcf)); go_prune)))) | (go_at_call 11; refine (chk_any _ _ _ _ _ _ _).mono ?_; rintro e w1 ⟨rfl, os1, n1, rfl⟩) | (go_at_call 16; refine (mg_any _ _ _ _ _ _ _ _ _ _ _ _ _).mono ?_; rintro e w1 ⟨rfl, os1, n1, rfl⟩))
  all_goals go_returns
  all_goals refine ⟨?_, by (exact Ext.of_below (by (repeat' (first | (with_reducible exact Below.refl _ _) | (with_reducible assumption) | (with_reducible refine Below.alloc ?_ ?_ _) | (with_reducible refine Below.wext ?_ ?_ _ _) | (with_reducible refine Below.drew ?_) | (with_reducible refine Below.setCell ?_ ?_ _) | (with_reducible exact Nat.le_refl _) | (simp; omega) | (simp; done)))))⟩
  all_goals (simp [mergV, mergE, pk, Ha.out])

theorem me_any (sa pa ra fa ia xa : Int) (sb pb rb fb ib xb : Int) (w : World) :
    Calls Try.prog 14 #[.agg #[.int .i64 sa, .int .i64 pa, .int .i64 ra, .int .i64 fa, .int .i64 ia, .int .i64 xa], .agg #[.int .i64 sb, .int .i64 pb, .int .i64 rb, .int .i64 fb, .int .i64 ib, .int .i64 xb]] w fun e w' => e = .returned (mergV (mergE sa pa ra fa ia xa sb pb rb fb ib xb) sa pa ra fa ia xa pb) ∧ Ext w w' := by
  by_cases ha : chkR sa pa ra fa ia xa = 0
  · by_cases hb : chkR sb pb rb fb ib xb = 0
    · cases hm : mergF sa pa ra fa ia xa sb pb rb fb ib xb with
      | true => exact me_tt sa pa ra fa ia xa sb pb rb fb ib xb ha hb hm w
      | false => exact me_tn sa pa ra fa ia xa sb pb rb fb ib xb ha hb hm w
    · exact me_tf sa pa ra fa ia xa sb pb rb fb ib xb ha hb w
  · exact me_f sa pa ra fa ia xa sb pb rb fb ib xb ha w

set_option maxHeartbeats 1000000 in
theorem rme_tt (sa pa ra fa ia xa : Int) (sb pb rb fb ib xb : Int) (hva : chkR sa pa ra fa ia xa = 0) (hvb : chkR sb pb rb fb ib xb = 0) (hm : mergF sa pa ra fa ia xa sb pb rb fb ib xb = true) (w : World) :
    Calls Try.prog 15 #[.agg #[.int .i64 sa, .int .i64 pa, .int .i64 ra, .int .i64 fa, .int .i64 ia, .int .i64 xa], .agg #[.int .i64 sb, .int .i64 pb, .int .i64 rb, .int .i64 fb, .int .i64 ib, .int .i64 xb]] w fun e w' => e = .returned (mergV (mergE sa pa ra fa ia xa sb pb rb fb ib xb) sa pa ra fa ia xa pb) ∧ Ext w w' := by
  have hba := chk_bd hva
  have hba1 : 0 ≤ sa := hba.1
  have hba2 : 1 ≤ pa := hba.2.1
  have hba3 : sa + pa ≤ 512 := hba.2.2.1
  have hbaf0 : 0 ≤ fa := hba.2.2.2.2.1
  have hbaf1 : fa ≤ 15 := hba.2.2.2.2.2.1
  have hbai : -1 ≤ ia ∧ ia ≤ 3 := ⟨hba.2.2.2.2.2.2.1, hba.2.2.2.2.2.2.2.1⟩
  have hbax : 0 ≤ xa := hba.2.2.2.2.2.2.2.2.1
  have hbay : xa ≤ 16 := by have := hba.2.2.2.2.2.2.2.2.2; omega
  have e1a : (chkR sa pa ra fa ia xa == 0) = true := by simp [hva]
  have e2a : (chkR sa pa ra fa ia xa != 0) = false := by simp [hva]
  have Ha : Hid (chkR sa pa ra fa ia xa = 0) := hva
  have HBa : Hid _ := hba
  clear hva hba
  have hbb := chk_bd hvb
  have hbb1 : 0 ≤ sb := hbb.1
  have hbb2 : 1 ≤ pb := hbb.2.1
  have hbb3 : sb + pb ≤ 512 := hbb.2.2.1
  have hbbf0 : 0 ≤ fb := hbb.2.2.2.2.1
  have hbbf1 : fb ≤ 15 := hbb.2.2.2.2.2.1
  have hbbi : -1 ≤ ib ∧ ib ≤ 3 := ⟨hbb.2.2.2.2.2.2.1, hbb.2.2.2.2.2.2.2.1⟩
  have hbbx : 0 ≤ xb := hbb.2.2.2.2.2.2.2.2.1
  have hbby : xb ≤ 16 := by have := hbb.2.2.2.2.2.2.2.2.2; omega
  have e1b : (chkR sb pb rb fb ib xb == 0) = true := by simp [hvb]
  have e2b : (chkR sb pb rb fb ib xb != 0) = false := by simp [hvb]
  have Hb : Hid (chkR sb pb rb fb ib xb = 0) := hvb
  have HBb : Hid _ := hbb
  clear hvb hbb
  have HM : Hid (mergF sa pa ra fa ia xa sb pb rb fb ib xb = true) := hm
  go_enter Try.func15, Try.ntmps15
  go_upto_region 9999 with (first | ((with_reducible (apply wp_cond_split)); rfl; (all_goals intro hcd); (all_goals (first | (exfalso; exact Bool.noConfusion hcd) | ((try simp only [hcd]); (try (have hcf := hcd; simp only [Bool.and_eq_true, Bool.or_eq_true, Bool.and_eq_false_iff, Bool.or_eq_false_iff, Bool.not_eq_true', Bool.not_eq_false', Bool.not_eq_eq_eq_not, Bool.not_true, Bool.not_false, decide_eq_true_eq, decide_eq_false_iff_not, bne_iff_ne, beq_iff_eq, beq_eq_false_iff_ne, bne_eq_false_iff_eq, ne_eq, int_eq_le, Int.not_lt, Int.not_le] at hcf)); go_prune)))) | (go_at_call 12; refine (rchk2_any _ _ _ _ _ _ _).mono ?_; rintro e w1 ⟨rfl, os1, n1, rfl⟩) | (go_at_call 17; refine (rmg_any _ _ _ _ _ _ _ _ _ _ _ _ _).mono ?_; rintro e w1 ⟨rfl, os1, n1, rfl⟩))
  all_goals go_returns
  all_goals refine ⟨?_, by (exact Ext.of_below (by (repeat' (first | (with_reducible exact Below.refl _ _) | (with_reducible assumption) | (with_reducible refine Below.alloc ?_ ?_ _) | (with_reducible refine Below.wext ?_ ?_ _ _) | (with_reducible refine Below.drew ?_) | (with_reducible refine Below.setCell ?_ ?_ _) | (with_reducible exact Nat.le_refl _) | (simp; omega) | (simp; done)))))⟩
  all_goals (simp [mergV, mergE, pk, Ha.out, Hb.out, HM.out])

set_option maxHeartbeats 1000000 in
theorem rme_tn (sa pa ra fa ia xa : Int) (sb pb rb fb ib xb : Int) (hva : chkR sa pa ra fa ia xa = 0) (hvb : chkR sb pb rb fb ib xb = 0) (hm : mergF sa pa ra fa ia xa sb pb rb fb ib xb = false) (w : World) :
    Calls Try.prog 15 #[.agg #[.int .i64 sa, .int .i64 pa, .int .i64 ra, .int .i64 fa, .int .i64 ia, .int .i64 xa], .agg #[.int .i64 sb, .int .i64 pb, .int .i64 rb, .int .i64 fb, .int .i64 ib, .int .i64 xb]] w fun e w' => e = .returned (mergV (mergE sa pa ra fa ia xa sb pb rb fb ib xb) sa pa ra fa ia xa pb) ∧ Ext w w' := by
  have hba := chk_bd hva
  have hba1 : 0 ≤ sa := hba.1
  have hba2 : 1 ≤ pa := hba.2.1
  have hba3 : sa + pa ≤ 512 := hba.2.2.1
  have hbaf0 : 0 ≤ fa := hba.2.2.2.2.1
  have hbaf1 : fa ≤ 15 := hba.2.2.2.2.2.1
  have hbai : -1 ≤ ia ∧ ia ≤ 3 := ⟨hba.2.2.2.2.2.2.1, hba.2.2.2.2.2.2.2.1⟩
  have hbax : 0 ≤ xa := hba.2.2.2.2.2.2.2.2.1
  have hbay : xa ≤ 16 := by have := hba.2.2.2.2.2.2.2.2.2; omega
  have e1a : (chkR sa pa ra fa ia xa == 0) = true := by simp [hva]
  have e2a : (chkR sa pa ra fa ia xa != 0) = false := by simp [hva]
  have Ha : Hid (chkR sa pa ra fa ia xa = 0) := hva
  have HBa : Hid _ := hba
  clear hva hba
  have hbb := chk_bd hvb
  have hbb1 : 0 ≤ sb := hbb.1
  have hbb2 : 1 ≤ pb := hbb.2.1
  have hbb3 : sb + pb ≤ 512 := hbb.2.2.1
  have hbbf0 : 0 ≤ fb := hbb.2.2.2.2.1
  have hbbf1 : fb ≤ 15 := hbb.2.2.2.2.2.1
  have hbbi : -1 ≤ ib ∧ ib ≤ 3 := ⟨hbb.2.2.2.2.2.2.1, hbb.2.2.2.2.2.2.2.1⟩
  have hbbx : 0 ≤ xb := hbb.2.2.2.2.2.2.2.2.1
  have hbby : xb ≤ 16 := by have := hbb.2.2.2.2.2.2.2.2.2; omega
  have e1b : (chkR sb pb rb fb ib xb == 0) = true := by simp [hvb]
  have e2b : (chkR sb pb rb fb ib xb != 0) = false := by simp [hvb]
  have Hb : Hid (chkR sb pb rb fb ib xb = 0) := hvb
  have HBb : Hid _ := hbb
  clear hvb hbb
  have HM : Hid (mergF sa pa ra fa ia xa sb pb rb fb ib xb = false) := hm
  go_enter Try.func15, Try.ntmps15
  go_upto_region 9999 with (first | ((with_reducible (apply wp_cond_split)); rfl; (all_goals intro hcd); (all_goals (first | (exfalso; exact Bool.noConfusion hcd) | ((try simp only [hcd]); (try (have hcf := hcd; simp only [Bool.and_eq_true, Bool.or_eq_true, Bool.and_eq_false_iff, Bool.or_eq_false_iff, Bool.not_eq_true', Bool.not_eq_false', Bool.not_eq_eq_eq_not, Bool.not_true, Bool.not_false, decide_eq_true_eq, decide_eq_false_iff_not, bne_iff_ne, beq_iff_eq, beq_eq_false_iff_ne, bne_eq_false_iff_eq, ne_eq, int_eq_le, Int.not_lt, Int.not_le] at hcf)); go_prune)))) | (go_at_call 12; refine (rchk2_any _ _ _ _ _ _ _).mono ?_; rintro e w1 ⟨rfl, os1, n1, rfl⟩) | (go_at_call 17; refine (rmg_any _ _ _ _ _ _ _ _ _ _ _ _ _).mono ?_; rintro e w1 ⟨rfl, os1, n1, rfl⟩))
  all_goals go_returns
  all_goals refine ⟨?_, by (exact Ext.of_below (by (repeat' (first | (with_reducible exact Below.refl _ _) | (with_reducible assumption) | (with_reducible refine Below.alloc ?_ ?_ _) | (with_reducible refine Below.wext ?_ ?_ _ _) | (with_reducible refine Below.drew ?_) | (with_reducible refine Below.setCell ?_ ?_ _) | (with_reducible exact Nat.le_refl _) | (simp; omega) | (simp; done)))))⟩
  all_goals (simp [mergV, mergE, pk, Ha.out, Hb.out, HM.out])

set_option maxHeartbeats 1000000 in
theorem rme_tf (sa pa ra fa ia xa : Int) (sb pb rb fb ib xb : Int) (hva : chkR sa pa ra fa ia xa = 0) (hvb : ¬ chkR sb pb rb fb ib xb = 0) (w : World) :
    Calls Try.prog 15 #[.agg #[.int .i64 sa, .int .i64 pa, .int .i64 ra, .int .i64 fa, .int .i64 ia, .int .i64 xa], .agg #[.int .i64 sb, .int .i64 pb, .int .i64 rb, .int .i64 fb, .int .i64 ib, .int .i64 xb]] w fun e w' => e = .returned (mergV (mergE sa pa ra fa ia xa sb pb rb fb ib xb) sa pa ra fa ia xa pb) ∧ Ext w w' := by
  have hba := chk_bd hva
  have hba1 : 0 ≤ sa := hba.1
  have hba2 : 1 ≤ pa := hba.2.1
  have hba3 : sa + pa ≤ 512 := hba.2.2.1
  have hbaf0 : 0 ≤ fa := hba.2.2.2.2.1
  have hbaf1 : fa ≤ 15 := hba.2.2.2.2.2.1
  have hbai : -1 ≤ ia ∧ ia ≤ 3 := ⟨hba.2.2.2.2.2.2.1, hba.2.2.2.2.2.2.2.1⟩
  have hbax : 0 ≤ xa := hba.2.2.2.2.2.2.2.2.1
  have hbay : xa ≤ 16 := by have := hba.2.2.2.2.2.2.2.2.2; omega
  have e1a : (chkR sa pa ra fa ia xa == 0) = true := by simp [hva]
  have e2a : (chkR sa pa ra fa ia xa != 0) = false := by simp [hva]
  have Ha : Hid (chkR sa pa ra fa ia xa = 0) := hva
  have HBa : Hid _ := hba
  clear hva hba
  have e1b : (chkR sb pb rb fb ib xb == 0) = false := by simp [hvb]
  have e2b : (chkR sb pb rb fb ib xb != 0) = true := by simp [hvb]
  have Hb : Hid (¬ chkR sb pb rb fb ib xb = 0) := hvb
  clear hvb
  go_enter Try.func15, Try.ntmps15
  go_upto_region 9999 with (first | ((with_reducible (apply wp_cond_split)); rfl; (all_goals intro hcd); (all_goals (first | (exfalso; exact Bool.noConfusion hcd) | ((try simp only [hcd]); (try (have hcf := hcd; simp only [Bool.and_eq_true, Bool.or_eq_true, Bool.and_eq_false_iff, Bool.or_eq_false_iff, Bool.not_eq_true', Bool.not_eq_false', Bool.not_eq_eq_eq_not, Bool.not_true, Bool.not_false, decide_eq_true_eq, decide_eq_false_iff_not, bne_iff_ne, beq_iff_eq, beq_eq_false_iff_ne, bne_eq_false_iff_eq, ne_eq, int_eq_le, Int.not_lt, Int.not_le] at hcf)); go_prune)))) | (go_at_call 12; refine (rchk2_any _ _ _ _ _ _ _).mono ?_; rintro e w1 ⟨rfl, os1, n1, rfl⟩) | (go_at_call 17; refine (rmg_any _ _ _ _ _ _ _ _ _ _ _ _ _).mono ?_; rintro e w1 ⟨rfl, os1, n1, rfl⟩))
  all_goals go_returns
  all_goals refine ⟨?_, by (exact Ext.of_below (by (repeat' (first | (with_reducible exact Below.refl _ _) | (with_reducible assumption) | (with_reducible refine Below.alloc ?_ ?_ _) | (with_reducible refine Below.wext ?_ ?_ _ _) | (with_reducible refine Below.drew ?_) | (with_reducible refine Below.setCell ?_ ?_ _) | (with_reducible exact Nat.le_refl _) | (simp; omega) | (simp; done)))))⟩
  all_goals (simp [mergV, mergE, pk, Ha.out, Hb.out])

set_option maxHeartbeats 1000000 in
theorem rme_f (sa pa ra fa ia xa : Int) (sb pb rb fb ib xb : Int) (hva : ¬ chkR sa pa ra fa ia xa = 0) (w : World) :
    Calls Try.prog 15 #[.agg #[.int .i64 sa, .int .i64 pa, .int .i64 ra, .int .i64 fa, .int .i64 ia, .int .i64 xa], .agg #[.int .i64 sb, .int .i64 pb, .int .i64 rb, .int .i64 fb, .int .i64 ib, .int .i64 xb]] w fun e w' => e = .returned (mergV (mergE sa pa ra fa ia xa sb pb rb fb ib xb) sa pa ra fa ia xa pb) ∧ Ext w w' := by
  have e1a : (chkR sa pa ra fa ia xa == 0) = false := by simp [hva]
  have e2a : (chkR sa pa ra fa ia xa != 0) = true := by simp [hva]
  have Ha : Hid (¬ chkR sa pa ra fa ia xa = 0) := hva
  clear hva
  go_enter Try.func15, Try.ntmps15
  go_upto_region 9999 with (first | ((with_reducible (apply wp_cond_split)); rfl; (all_goals intro hcd); (all_goals (first | (exfalso; exact Bool.noConfusion hcd) | ((try simp only [hcd]); (try (have hcf := hcd; simp only [Bool.and_eq_true, Bool.or_eq_true, Bool.and_eq_false_iff, Bool.or_eq_false_iff, Bool.not_eq_true', Bool.not_eq_false', Bool.not_eq_eq_eq_not, Bool.not_true, Bool.not_false, decide_eq_true_eq, decide_eq_false_iff_not, bne_iff_ne, beq_iff_eq, beq_eq_false_iff_ne, bne_eq_false_iff_eq, ne_eq, int_eq_le, Int.not_lt, Int.not_le] at hcf)); go_prune)))) | (go_at_call 12; refine (rchk2_any _ _ _ _ _ _ _).mono ?_; rintro e w1 ⟨rfl, os1, n1, rfl⟩) | (go_at_call 17; refine (rmg_any _ _ _ _ _ _ _ _ _ _ _ _ _).mono ?_; rintro e w1 ⟨rfl, os1, n1, rfl⟩))
  all_goals go_returns
  all_goals refine ⟨?_, by (exact Ext.of_below (by (repeat' (first | (with_reducible exact Below.refl _ _) | (with_reducible assumption) | (with_reducible refine Below.alloc ?_ ?_ _) | (with_reducible refine Below.wext ?_ ?_ _ _) | (with_reducible refine Below.drew ?_) | (with_reducible refine Below.setCell ?_ ?_ _) | (with_reducible exact Nat.le_refl _) | (simp; omega) | (simp; done)))))⟩
  all_goals (simp [mergV, mergE, pk, Ha.out])

theorem rme_any (sa pa ra fa ia xa : Int) (sb pb rb fb ib xb : Int) (w : World) :
    Calls Try.prog 15 #[.agg #[.int .i64 sa, .int .i64 pa, .int .i64 ra, .int .i64 fa, .int .i64 ia, .int .i64 xa], .agg #[.int .i64 sb, .int .i64 pb, .int .i64 rb, .int .i64 fb, .int .i64 ib, .int .i64 xb]] w fun e w' => e = .returned (mergV (mergE sa pa ra fa ia xa sb pb rb fb ib xb) sa pa ra fa ia xa pb) ∧ Ext w w' := by
  by_cases ha : chkR sa pa ra fa ia xa = 0
  · by_cases hb : chkR sb pb rb fb ib xb = 0
    · cases hm : mergF sa pa ra fa ia xa sb pb rb fb ib xb with
      | true => exact rme_tt sa pa ra fa ia xa sb pb rb fb ib xb ha hb hm w
      | false => exact rme_tn sa pa ra fa ia xa sb pb rb fb ib xb ha hb hm w
    · exact rme_tf sa pa ra fa ia xa sb pb rb fb ib xb ha hb w
  · exact rme_f sa pa ra fa ia xa sb pb rb fb ib xb ha w

end Go.Proofs.Ytohodegmkepemaa
