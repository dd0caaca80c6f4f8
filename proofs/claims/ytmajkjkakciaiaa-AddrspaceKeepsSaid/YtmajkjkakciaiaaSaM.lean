/- Regions as data; layer 22: Check on both sides. -/
import Derived.Test.YtmajkjkakciaiaaQc
import Derived.Test.YtmajkjkakciaiaaRtaM
set_option linter.unusedSimpArgs false
set_option linter.unusedVariables false
namespace Go.Proofs.Ytmajkjkakciaiaa
open Go.RowKit
attribute [local irreducible] Wp WL WO fin finB rnd Exit.then Exit.inBlock G GD LT Rd Fn FnB FvB Iter

def RV.row (x : RV) : List D := [.s (.int .i64 x.s), .s (.int .i64 x.p), .s (.int .i64 x.r), .s (.int .i64 x.f), .s (.int .i64 x.i), .s (.int .i64 x.x)]
theorem RV.row_len (x : RV) : x.row.length = 6 := rfl
def RV.z : RV := ⟨0, 0, 0, 0, 0, 0⟩
/-- A cell of a region in a variable is changed. -/
instance {x : RV} {n : Nat} {u : AV} {l : List AV} [i : LSet [.d (.s (.int .i64 x.s)), .d (.s (.int .i64 x.p)), .d (.s (.int .i64 x.r)), .d (.s (.int .i64 x.f)), .d (.s (.int .i64 x.i)), .d (.s (.int .i64 x.x))] n u l] : LSet (x.row.map .d) n u l := ⟨i.h⟩

theorem has_F (x : RV) (k : Int) : Fn Try.prog 54 [.st x.row, .s (.int .i64 k)] (· = .s (.bool (bits .and .i64 x.f k != 0))) := by
  refine Fn.of Try.func54 Try.ntmps54 rfl (by kernel_rfl) (fun w o => ?_)
  (repeat (first | ((repeat (revert hK; revert K)); refine wk ?_; repeat intro K hK) | refine wkg ?_))
  refine G.fin1 (by first | exact rvOk.tmp | exact rvOk.cellS | exact rvOk.cell1 | fail) rfl ?_
  rfl

/-- What Check answers. -/
def chkR (st pg pr fl fi ix : Int) : Int :=
  bif decide (pg < 1) then 1 else bif pr != 1 && pr != 3 then 1 else bif decide (fl < 0) || decide (15 < fl) then 1 else bif decide (fi < -1) || decide (4 ≤ fi) then 1
  else bif bits .and .i64 fl 1 != 0 && fi == -1 then 1 else bif bits .and .i64 fl 10 != 0 && fi != -1 then 1
  else bif decide (st < 0) || decide (512 < st) || decide (512 - st < pg) then 2 else bif decide (ix < 0) then 2 else bif ix != 0 && fi == -1 then 2 else bif fi != -1 && (decide (16 < ix) || decide (16 - ix < pg)) then 2 else 0
def chkV (x : RV) : Int := chkR x.s x.p x.r x.f x.i x.x

set_option maxRecDepth 100000 in
set_option maxHeartbeats 4000000 in
theorem chk_F (x : RV) : Fn Try.prog 26 [.st x.row] (· = .s (.int .i64 (chkV x))) := by
  refine Fn.of Try.func26 Try.ntmps26 rfl (by kernel_rfl) (fun w o => ?_)
  (repeat' (first | (first | refine G.cW (has_F _ _) ?_ | refine G.cgW (has_F _ _) ?_ | refine GD.cW (has_F _ _) ?_ | refine GD.cgW (has_F _ _) ?_ | ((repeat (revert hK; revert K)); refine wk ?_; repeat intro K hK) | refine wkg ?_) | (show G _ _ _ _ (Wp _ _ (Go.Code.cond _ _ _) _); refine G.ifS (fun hb => ?_) (fun hb => ?_) <;> (have hg := hb; try simp only [Bool.and_eq_true, Bool.or_eq_true, Bool.and_eq_false_iff, Bool.or_eq_false_iff, decide_eq_true_eq, decide_eq_false_iff_not, Bool.not_eq_true', Bool.not_eq_false', bne_iff_ne, beq_iff_eq, bne_eq_false_iff_eq, beq_eq_false_iff_ne, ne_eq, Int.not_lt, Int.not_le] at hg)) | fail))
  all_goals refine G.fin1 (by first | exact rvOk.tmp | exact rvOk.cellS | exact rvOk.cell1 | fail) rfl ?_
  all_goals ((repeat clear hg); (simp only [chkV, chkR, *, cond_true, cond_false] <;> rfl))

/-- What the reference's Check answers. -/
def rchkR (st pg pr fl fi ix : Int) : Int :=
  bif decide (pg < 1) || pr != 1 && pr != 3 then 1 else bif decide (fl < 0) || decide (15 < fl) || decide (fi < -1) || decide (4 ≤ fi) then 1
  else bif decide (fi < 0) && fl / 1 % 2 == 1 || decide (0 ≤ fi) && (fl / 2 % 2 == 1 || fl / 8 % 2 == 1) then 1
  else bif decide (st < 0) || decide (512 < pg) || decide (512 - pg < st) || decide (ix < 0) then 2
  else bif decide (fi < 0) && decide (0 < ix) || decide (0 ≤ fi) && (decide (16 < pg) || decide (16 - pg < ix)) then 2 else 0

theorem fl_cases {f : Int} (h0 : 0 ≤ f) (h1 : f ≤ 15) : f = 0 ∨ f = 1 ∨ f = 2 ∨ f = 3 ∨ f = 4 ∨ f = 5 ∨ f = 6 ∨ f = 7 ∨ f = 8 ∨ f = 9 ∨ f = 10 ∨ f = 11 ∨ f = 12 ∨ f = 13 ∨ f = 14 ∨ f = 15 := by omega
/-- The flags' bits, as the reference asks them. -/
theorem bit1 {f : Int} (h0 : 0 ≤ f) (h1 : f ≤ 15) : (bits .and .i64 f 1 != 0) = (f / 1 % 2 == 1) := by
  rcases fl_cases h0 h1 with h | h | h | h | h | h | h | h | h | h | h | h | h | h | h | h <;> subst h <;> decide
theorem bit2 {f : Int} (h0 : 0 ≤ f) (h1 : f ≤ 15) : (bits .and .i64 f 2 != 0) = (f / 2 % 2 == 1) := by
  rcases fl_cases h0 h1 with h | h | h | h | h | h | h | h | h | h | h | h | h | h | h | h <;> subst h <;> decide
theorem bit10 {f : Int} (h0 : 0 ≤ f) (h1 : f ≤ 15) : (bits .and .i64 f 10 != 0) = (f / 2 % 2 == 1 || f / 8 % 2 == 1) := by
  rcases fl_cases h0 h1 with h | h | h | h | h | h | h | h | h | h | h | h | h | h | h | h <;> subst h <;> decide

theorem cond_or2 {α : Type} (a b : Bool) (x y : α) : (bif a || b then x else y) = bif a then x else bif b then x else y := by cases a <;> rfl
def argB (s p r f i x : Int) : Bool := decide (p < 1) || (r != 1 && r != 3 || ((decide (f < 0) || decide (15 < f)) || ((decide (i < -1) || decide (4 ≤ i)) || (bits .and .i64 f 1 != 0 && i == -1 || bits .and .i64 f 10 != 0 && i != -1))))
def rngB (s p r f i x : Int) : Bool := (decide (s < 0) || decide (512 < s) || decide (512 - s < p)) || (decide (x < 0) || (x != 0 && i == -1 || i != -1 && (decide (16 < x) || decide (16 - x < p))))
theorem chkR_def (s p r f i x : Int) : chkR s p r f i x = bif argB s p r f i x then 1 else bif rngB s p r f i x then 2 else 0 := by
  unfold argB rngB chkR
  simp only [cond_or2]
def rargB (s p r f i x : Int) : Bool := (decide (p < 1) || r != 1 && r != 3) || ((decide (f < 0) || decide (15 < f) || decide (i < -1) || decide (4 ≤ i)) || (decide (i < 0) && f / 1 % 2 == 1 || decide (0 ≤ i) && (f / 2 % 2 == 1 || f / 8 % 2 == 1)))
def rrngB (s p r f i x : Int) : Bool := (decide (s < 0) || decide (512 < p) || decide (512 - p < s) || decide (x < 0)) || (decide (i < 0) && decide (0 < x) || decide (0 ≤ i) && (decide (16 < p) || decide (16 - p < x)))
theorem rchkR_def (s p r f i x : Int) : rchkR s p r f i x = bif rargB s p r f i x then 1 else bif rrngB s p r f i x then 2 else 0 := by
  unfold rargB rrngB rchkR
  simp only [cond_or2]
theorem argB_eq (s p r f i x : Int) : rargB s p r f i x = argB s p r f i x := by
  by_cases hf : 0 ≤ f ∧ f ≤ 15
  · unfold rargB argB
    rw [bit1 hf.1 hf.2, bit10 hf.1 hf.2]
    generalize (f / 1 % 2 == 1) = b1
    generalize (f / 2 % 2 == 1) = b2
    generalize (f / 8 % 2 == 1) = b8
    rw [Bool.eq_iff_iff]
    cases b1 <;> cases b2 <;> cases b8 <;> simp only [Bool.or_eq_true, Bool.and_eq_true, bne_iff_ne, beq_iff_eq, decide_eq_true_eq, ne_eq, Bool.true_or, Bool.or_true, Bool.false_or, Bool.or_false, Bool.and_true, Bool.and_false, Bool.false_and, Bool.true_and, Bool.false_eq_true] <;> omega
  · have h1 : argB s p r f i x = true := by
      unfold argB
      have : (decide (f < 0) || decide (15 < f)) = true := by simp; omega
      simp [this]
    have h2 : rargB s p r f i x = true := by
      unfold rargB
      simp
      omega
    rw [h1, h2]
theorem arg_bd (s p r f i x : Int) (h : argB s p r f i x = false) : 1 ≤ p ∧ (r = 1 ∨ r = 3) ∧ 0 ≤ f ∧ f ≤ 15 ∧ -1 ≤ i ∧ i ≤ 3 := by
  unfold argB at h
  simp only [Bool.or_eq_false_iff, Bool.and_eq_false_iff, decide_eq_false_iff_not, bne_eq_false_iff_eq] at h
  omega
theorem rngB_eq (s p r f i x : Int) (h : argB s p r f i x = false) : rrngB s p r f i x = rngB s p r f i x := by
  have := arg_bd s p r f i x h
  unfold rrngB rngB
  rw [Bool.eq_iff_iff]
  simp only [Bool.or_eq_true, Bool.and_eq_true, bne_iff_ne, beq_iff_eq, decide_eq_true_eq, ne_eq]
  omega
theorem rchkR_eq (s p r f i x : Int) : rchkR s p r f i x = chkR s p r f i x := by
  rw [rchkR_def, chkR_def, argB_eq]
  cases h : argB s p r f i x with
  | true => rfl
  | false => rw [rngB_eq s p r f i x h]

/-- What a valid region's numbers are like. -/
theorem chk_bd {s p r f i x : Int} (h : chkR s p r f i x = 0) : 0 ≤ s ∧ 1 ≤ p ∧ s + p ≤ 512 ∧ (r = 1 ∨ r = 3) ∧ 0 ≤ f ∧ f ≤ 15 ∧ -1 ≤ i ∧ i ≤ 3 ∧ 0 ≤ x ∧ (i = -1 → x = 0) ∧ (i ≠ -1 → x + p ≤ 16) := by
  rw [chkR_def] at h
  cases ha : argB s p r f i x with
  | true => rw [ha] at h; simp at h
  | false =>
    have hb := arg_bd s p r f i x ha
    rw [ha] at h
    cases hr : rngB s p r f i x with
    | true => rw [hr] at h; simp at h
    | false =>
      unfold rngB at hr
      simp only [Bool.or_eq_false_iff, Bool.and_eq_false_iff, decide_eq_false_iff_not, bne_eq_false_iff_eq, beq_eq_false_iff_ne] at hr
      omega
theorem chk_012 (s p r f i x : Int) : chkR s p r f i x = 0 ∨ chkR s p r f i x = 1 ∨ chkR s p r f i x = 2 := by
  rw [chkR_def]
  cases argB s p r f i x <;> cases rngB s p r f i x <;> simp

def chkW (x : RV) : Int := rchkR x.s x.p x.r x.f x.i x.x
theorem chkW_eq (x : RV) : chkW x = chkV x := rchkR_eq _ _ _ _ _ _
/-- What a valid region is like. -/
theorem chkV_bd {x : RV} (h : chkV x = 0) : 0 ≤ x.s ∧ 1 ≤ x.p ∧ x.s + x.p ≤ 512 ∧ (x.r = 1 ∨ x.r = 3) ∧ 0 ≤ x.f ∧ x.f ≤ 15 ∧ -1 ≤ x.i ∧ x.i ≤ 3 ∧ 0 ≤ x.x ∧ (x.i = -1 → x.x = 0) ∧ (x.i ≠ -1 → x.x + x.p ≤ 16) := chk_bd h

end Go.Proofs.Ytmajkjkakciaiaa
