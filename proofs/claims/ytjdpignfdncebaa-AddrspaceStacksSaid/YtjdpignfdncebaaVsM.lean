/- What is seen of pages, compared. -/
import Derived.Test.YtjdpignfdncebaaVkM
set_option linter.unusedSimpArgs false
set_option linter.unusedVariables false
namespace Go.Proofs.Ytjdpignfdncebaa
open Go.RowKit

def S5.cs (s : S5) : List Value := [.int .i64 s.a, .int .i64 s.b, .int .i64 s.c, .int .i64 s.d, .int .i64 s.e]
def eq5 (s t : S5) : Bool := s.a == t.a && s.b == t.b && s.c == t.c && s.d == t.d && s.e == t.e
theorem eq5_iff (s t : S5) : eq5 s t = true ↔ s = t := by
  obtain ⟨a, b, c, d, e⟩ := s
  obtain ⟨a', b', c', d', e'⟩ := t
  simp [eq5, and_assoc]
theorem run_eq5 (x y : S5) (w : World) : (Op.equalIn 10000 53 (.agg x.cs.toArray) (.agg y.cs.toArray)).run Try.prog w = .ok (eq5 x y) w := by
  have hT : TAr Try.prog 53 5 3 [(0, 1), (1, 1), (2, 1), (3, 1), (4, 1)] := inferInstance
  obtain ⟨hu, f, hf, hfs⟩ := hT.get
  have hi : ∀ m n : Int, (Op.equalIn 9999 3 (.int .i64 m) (.int .i64 n)).run Try.prog w = .ok (m == n) w := fun m n => run_equalIn_int w _ _ _ .i64 _ _ (by kernel_rfl)
  have hp : ∀ (cs : Array Value) (i : Nat) (v : Value), cs[i]? = some v → (Go.part 3 cs i).run Try.prog w = .ok v w := fun cs i v h => by
    obtain ⟨td, hu2, hd2⟩ := (inferInstance : TSc Try.prog 3).get
    have hq2 : (isAgg 3).run Try.prog w = .ok false w := isAgg_false hu2 hd2
    simp [Go.part, hq2, h]
  rw [show (10000 : Nat) = 9999 + 1 from rfl]
  unfold Op.equalIn
  simp only [Sem.run_bind, run_underlying hu, Result.andThen_ok]
  have hsz : (sizeOf 3).run Try.prog w = .ok 1 w := by simp [sizeOf, typeInfo, hf, hfs]
  have p0 : ∀ s : S5, (Go.part 3 s.cs.toArray (0 * 1)).run Try.prog w = .ok (.int .i64 s.a) w := fun s => hp _ _ _ rfl
  have p1 : ∀ s : S5, (Go.part 3 s.cs.toArray (1 * 1)).run Try.prog w = .ok (.int .i64 s.b) w := fun s => hp _ _ _ rfl
  have p2 : ∀ s : S5, (Go.part 3 s.cs.toArray (2 * 1)).run Try.prog w = .ok (.int .i64 s.c) w := fun s => hp _ _ _ rfl
  have p3 : ∀ s : S5, (Go.part 3 s.cs.toArray (3 * 1)).run Try.prog w = .ok (.int .i64 s.d) w := fun s => hp _ _ _ rfl
  have p4 : ∀ s : S5, (Go.part 3 s.cs.toArray (4 * 1)).run Try.prog w = .ok (.int .i64 s.e) w := fun s => hp _ _ _ rfl
  rw [hsz]
  simp only [Result.andThen_ok]
  rw [Std.Legacy.Range.forIn_eq_forIn_range']
  show ((forIn [0, 1, 2, 3, 4] _ _ : Sem _).run _ _).andThen _ = _
  simp only [List.forIn_cons, List.forIn_nil, Sem.run_bind, p0, hi, Result.andThen_ok, eq5]
  cases x.a == y.a
  · simp
  · simp only [Bool.not_true, Bool.false_eq_true, if_false, Sem.run_pure, Result.andThen_ok, Sem.run_bind, p1, hi, Bool.true_and]
    cases x.b == y.b
    · simp
    · simp only [Bool.not_true, Bool.false_eq_true, if_false, Sem.run_pure, Result.andThen_ok, Sem.run_bind, p2, hi, Bool.true_and]
      cases x.c == y.c
      · simp
      · simp only [Bool.not_true, Bool.false_eq_true, if_false, Sem.run_pure, Result.andThen_ok, Sem.run_bind, p3, hi, Bool.true_and]
        cases x.d == y.d
        · simp
        · simp only [Bool.not_true, Bool.false_eq_true, if_false, Sem.run_pure, Result.andThen_ok, Sem.run_bind, p4, hi, Bool.true_and]
          cases x.e == y.e <;> simp
theorem RL.ints_eq {own : Nat → Prop} {W : World} {vs us : List Value} (h : RL own W vs (us.map .s)) : vs = us := by
  induction vs generalizing us with
  | nil => cases us with
    | nil => rfl
    | cons u us => cases h
  | cons v vs ih =>
    cases us with
    | nil => cases h
    | cons u us =>
      cases h with
      | cons h t =>
        cases h with
        | s h => rw [ih t]
theorem RL.s5 {own : Nat → Prop} {W : World} {vs : List Value} {s : S5} (h : RL own W vs s.row) : vs = s.cs := RL.ints_eq (us := s.cs) h
theorem LT.neA {X : Cx} {al : List (Nat × AV)} {bs : Bs} {x y : Operand} {d : Nat} {ds es : List D} (u v : S5) (hx : Evd al x (.d (.st ds)) := by exact ⟨_, rfl, by (try (apply Und.gd; assumption; try (apply Und.gd; assumption; try (apply Und.gd; assumption)))); exact Und.refl _⟩) (hy : Evd al y (.d (.st es)) := by exact ⟨_, rfl, by (try (apply Und.gd; assumption; try (apply Und.gd; assumption; try (apply Und.gd; assumption)))); exact Und.refl _⟩) (hu : ds = u.row := by rfl) (hv : es = v.row := by rfl) (hd : Nat.blt d X.N = true := by rfl) : LT Try.prog X al bs (.binOp .neq 53 x y 53) (some d) [] [(d, .d (.s (.bool (!(eq5 u v)))))] [] := by
  subst hu
  subst hv
  refine LT.rd (fun al2 bs2 hl hB E a W h => ?_) hd
  have h1 := h.evd (hl.evd hx (by simp [Op.operands]))
  have h2 := h.evd (hl.evd hy (by simp [Op.operands]))
  refine ⟨_, .d (.s rfl), ?_⟩
  intro op ho
  have hG : Try.prog.eqGuardType Try.prog.depth 53 = false := by kernel_rfl
  generalize hp : a.eval x = p at h1
  generalize hq : a.eval y = q at h2
  cases h1 with
  | d h1 =>
    cases h2 with
    | d h2 =>
      cases h1 with
      | st h1 =>
        cases h2 with
        | st h2 =>
          rw [h1.s5] at hp
          rw [h2.s5] at hq
          unfold execOp
          simp only [ho, hp, hq, Sem.run_bind, run_eqGuard_agg W .neq 53 _ _ _ _ hG, Result.andThen_ok, run_neq_struct, run_eq5, Sem.run_pure]
end Go.Proofs.Ytjdpignfdncebaa
