/- Two numbers compared; what the laws' steps do to a device. -/
import Derived.Test.YtohkigillmlinaaDvg
set_option linter.unusedSimpArgs false
set_option linter.unusedVariables false
namespace Go.Proofs.Ytohkigillmlinaa
open Go.RowKit

instance : TAr Try.prog 36 2 3 [(0, 1), (1, 1)] := ⟨by kernel_rfl, rfl⟩
def w2C (x : Int × Int) : List Value := [.int .i64 x.1, .int .i64 x.2]
def w2R (x : Int × Int) : List D := [.s (.int .i64 x.1), .s (.int .i64 x.2)]
def w2s (l : List (Int × Int)) : List (List D) := l.map w2R
theorem w2s_len (l : List (Int × Int)) : (w2s l).length = l.length := by simp [w2s]
theorem w2s_row (l : List (Int × Int)) : ∀ r ∈ w2s l, r.length = 2 := by
  intro r hr
  obtain ⟨v, _, rfl⟩ := List.mem_map.1 hr
  rfl
def eq2 (s t : Int × Int) : Bool := s.1 == t.1 && s.2 == t.2
theorem run_eq2 (x y : Int × Int) (w : World) : (Op.equalIn 10000 36 (.agg (w2C x).toArray) (.agg (w2C y).toArray)).run Try.prog w = .ok (eq2 x y) w := by
  have hT : TAr Try.prog 36 2 3 [(0, 1), (1, 1)] := inferInstance
  obtain ⟨hu, f, hf, hfs⟩ := hT.get
  have hi : ∀ m n : Int, (Op.equalIn 9999 3 (.int .i64 m) (.int .i64 n)).run Try.prog w = .ok (m == n) w := fun m n => run_equalIn_int w _ _ _ .i64 _ _ (by kernel_rfl)
  have hp : ∀ (cs : Array Value) (i : Nat) (v : Value), cs[i]? = some v → (Go.part 3 cs i).run Try.prog w = .ok v w := fun cs i v h => by
    obtain ⟨td, hu2, hd2⟩ := (inferInstance : TSc Try.prog 3).get
    have hq2 : (isAgg 3).run Try.prog w = .ok false w := isAgg_false hu2 hd2
    simp [Go.part, hq2, h]
  rw [show (10000 : Nat) = 9999 + 1 from rfl]
  unfold Op.equalIn
  simp only [Sem.run_bind, run_underlying hu, Result.andThen_ok]
  have hsz : (sizeOf 3).run Try.prog w = .ok 1 w := by simp [sizeOf, typeInfo, hf, hfs]
  have p0 : ∀ s : Int × Int, (Go.part 3 (w2C s).toArray (0 * 1)).run Try.prog w = .ok (.int .i64 s.1) w := fun s => hp _ _ _ rfl
  have p1 : ∀ s : Int × Int, (Go.part 3 (w2C s).toArray (1 * 1)).run Try.prog w = .ok (.int .i64 s.2) w := fun s => hp _ _ _ rfl
  rw [hsz]
  simp only [Result.andThen_ok]
  rw [Std.Legacy.Range.forIn_eq_forIn_range']
  show ((forIn [0, 1] _ _ : Sem _).run _ _).andThen _ = _
  simp only [List.forIn_cons, List.forIn_nil, Sem.run_bind, p0, hi, Result.andThen_ok, eq2]
  cases x.1 == y.1
  · simp
  · simp only [Bool.not_true, Bool.false_eq_true, if_false, Sem.run_pure, Result.andThen_ok, Sem.run_bind, p1, hi, Bool.true_and]
    cases x.2 == y.2 <;> simp
theorem RL.eqS {own : Nat → Prop} {W : World} {vs us : List Value} (h : RL own W vs (us.map .s)) : vs = us := by
  induction vs generalizing us with
  | nil => cases us with
    | nil => rfl
    | cons u us => cases h
  | cons v vs ih =>
    cases us with
    | nil => cases h
    | cons u us =>
      cases h with
      | cons h t =>
        cases h with
        | s h => rw [ih t]
theorem RL.w2 {own : Nat → Prop} {W : World} {vs : List Value} {s : Int × Int} (h : RL own W vs (w2R s)) : vs = w2C s := RL.eqS (us := w2C s) h
theorem LT.eqA2 {X : Cx} {al : List (Nat × AV)} {bs : Bs} {x y : Operand} {d : Nat} {ds es : List D} (u v : Int × Int) (hx : Evd al x (.d (.st ds)) := by exact ⟨_, rfl, by (try (apply Und.gd; assumption; try (apply Und.gd; assumption; try (apply Und.gd; assumption)))); exact Und.refl _⟩) (hy : Evd al y (.d (.st es)) := by exact ⟨_, rfl, by (try (apply Und.gd; assumption; try (apply Und.gd; assumption; try (apply Und.gd; assumption)))); exact Und.refl _⟩) (hu : ds = w2R u := by rfl) (hv : es = w2R v := by rfl) (hd : Nat.blt d X.N = true := by rfl) : LT Try.prog X al bs (.binOp .eql 36 x y 36) (some d) [] [(d, .d (.s (.bool (eq2 u v))))] [] := by
  subst hu
  subst hv
  refine LT.rd (fun al2 bs2 hl hB E a W h => ?_) hd
  have h1 := h.evd (hl.evd hx (by simp [Op.operands]))
  have h2 := h.evd (hl.evd hy (by simp [Op.operands]))
  refine ⟨_, .d (.s rfl), ?_⟩
  intro op ho
  have hG : Try.prog.eqGuardType Try.prog.depth 36 = false := by kernel_rfl
  generalize hp : a.eval x = p at h1
  generalize hq : a.eval y = q at h2
  cases h1 with
  | d h1 =>
    cases h2 with
    | d h2 =>
      cases h1 with
      | st h1 =>
        cases h2 with
        | st h2 =>
          rw [h1.w2] at hp
          rw [h2.w2] at hq
          unfold execOp
          simp only [ho, hp, hq, Sem.run_bind, run_eqGuard_agg W .eql 36 _ _ _ _ hG, Result.andThen_ok, run_eql_struct, run_eq2, Sem.run_pure]

/-! ### What the steps do -/
theorem lastQ_app (l : List QV) (x : QV) (i : Nat) (h : i ≤ l.length) : lastQ (l ++ [x]) i = lastQ l i := by
  cases i with
  | zero => rfl
  | succ i =>
    show (((l ++ [x])[i]?).map QV.id).getD (-1) = ((l[i]?).map QV.id).getD (-1)
    rw [List.getElem?_append_left (by omega)]
theorem lastQ_lt {d : DV} (h : d.ok) : lastQ d.q d.q.length < d.nxt := by
  cases hq : d.q.length with
  | zero => show (-1 : Int) < _; have := h.nxt; omega
  | succ n =>
    rw [lastQ_s d.q n (by omega)]
    exact (h.q n (by omega)).2.2
theorem q_app {n : Nat} {nx : Int} {l : List QV} {y : QV} (h : ∀ (i : Nat) (hi : i < l.length), l[i].ok n ∧ lastQ l i < l[i].id ∧ l[i].id < nx) (hy : y.ok n) (hl : lastQ l l.length < y.id) (hid : y.id < nx + 1) : ∀ (i : Nat) (hi : i < (l ++ [y]).length), (l ++ [y])[i].ok n ∧ lastQ (l ++ [y]) i < (l ++ [y])[i].id ∧ (l ++ [y])[i].id < nx + 1 := by
  intro i hi
  have hi' : i < l.length + 1 := by simpa using hi
  rw [lastQ_app _ _ _ (by omega)]
  by_cases hil : i < l.length
  · rw [List.getElem_append_left hil]
    have := h i hil
    exact ⟨this.1, this.2.1, by omega⟩
  · have e : i = l.length := by omega
    subst e
    rw [List.getElem_append_right (Nat.le_refl _)]
    simp only [Nat.sub_self, List.getElem_cons_zero]
    exact ⟨hy, hl, hid⟩
theorem subV_ok {d : DV} (h : d.ok) (k b : Int) (p : List Int) (hx : (⟨d.nxt, k, b, p⟩ : QV).ok d.bs.length) (hn : d.nxt < 100000) (hl : (d.q.length : Int) < d.dep) : (subV d k b p).ok :=
  ⟨h.dep, ⟨by have := h.nxt; show (0 : Int) ≤ d.nxt + 1; omega, by show d.nxt + 1 ≤ _; omega⟩, h.nb, h.bs, h.ch, h.nc, by show ((d.q ++ [_]).length : Int) ≤ d.dep; simp; omega, q_app h.q hx (lastQ_lt h) (by show d.nxt < d.nxt + 1; omega)⟩
theorem lastQ_pre (l : List QV) (x : QV) (i : Nat) (h : i ≤ l.length) : lastQ l i = lastQ (l ++ [x]) i := (lastQ_app l x i h).symm
theorem q_pre {d : DV} (h : d.ok) {l : List QV} {x : QV} (hq : d.q = l ++ [x]) : (l.length : Int) ≤ d.dep ∧ ∀ (i : Nat) (hi : i < l.length), l[i].ok d.bs.length ∧ lastQ l i < l[i].id ∧ l[i].id < d.nxt := by
  have h1 := h.nq
  have hlen : d.q.length = l.length + 1 := by rw [hq]; simp
  refine ⟨by omega, fun i hi => ?_⟩
  have h2 := h.q i (by omega)
  simp only [hq] at h2
  rw [List.getElem_append_left hi, lastQ_app _ _ _ (by omega)] at h2
  exact h2
theorem cmpV_ok {d : DV} (h : d.ok) {l : List QV} {x : QV} (hq : d.q = l ++ [x]) (ok : Bool) : (cmpV d l x ok).ok := by
  obtain ⟨h1, h2⟩ := q_pre h hq
  have hxo : x.ok d.bs.length := by
    have := (h.q l.length (by rw [hq]; simp)).1
    simpa [hq] using this
  unfold cmpV
  cases ok
  · exact ⟨h.dep, h.nxt, h.nb, h.bs, h.ch, h.nc, h1, h2⟩
  · simp only [if_true]
    split
    · rename_i hk
      have hp := hxo.resolve_right (fun h => by omega)
      refine ⟨h.dep, h.nxt, h.nb, h.bs, fun i hi => ?_, by show (1 : Nat) ≤ 256; decide, h1, h2⟩
      have : i = 0 := by simpa [cmpC] using hi
      subst this
      exact ⟨by show (-1 : Int) < x.b; omega, hp.2.2.1, hp.2.2.2⟩
    · have hb : ∀ (i : Nat) (hi : i < (flsB d.bs d.ch).length), (flsB d.bs d.ch)[i].length = 32 := by
        have key : ∀ (l : List CV) (bs : List (List Int)), (∀ c ∈ l, c.p.length = 32) → (∀ b ∈ bs, b.length = 32) → ∀ b ∈ flsB bs l, b.length = 32 := by
          intro l
          induction l with
          | nil => intro bs _ hb; exact hb
          | cons c l ih =>
            intro bs hc hb
            refine ih (bs.set c.b.toNat c.p) (fun c' h' => hc c' (List.mem_cons_of_mem _ h')) (fun b hb' => ?_)
            rcases List.mem_or_eq_of_mem_set hb' with h | h
            · exact hb b h
            · rw [h]; exact hc c (List.mem_cons_self ..)
        intro i hi
        refine key d.ch d.bs (fun c hc => ?_) (fun b hb => ?_) _ (List.getElem_mem hi)
        · obtain ⟨j, hj, rfl⟩ := List.getElem_of_mem hc
          exact (h.ch j hj).2.2
        · obtain ⟨j, hj, rfl⟩ := List.getElem_of_mem hb
          exact h.bs j hj
      exact ⟨h.dep, h.nxt, by show 1 ≤ (flsB d.bs d.ch).length ∧ (flsB d.bs d.ch).length ≤ 256; rw [flsB_len]; exact h.nb, hb, fun i hi => by simp at hi, Nat.zero_le _, h1, by show ∀ (i : Nat) (hi : i < l.length), l[i].ok (flsB d.bs d.ch).length ∧ _; rw [flsB_len]; exact h2⟩
theorem crV_ok {d : DV} (h : d.ok) (picks : List Bool) : (crV d picks).ok := by
  have hl := (cr2_b d picks d.q.length (Nat.le_refl _)).1
  have kp : ∀ (s : List (List Int) × Nat) (b : Int) (p : List Int), (∀ x ∈ s.1, x.length = 32) → p.length = 32 → ∀ x ∈ (kpV picks s b p).1, x.length = 32 := by
    intro s b p hs hp x hx
    unfold kpV at hx
    dsimp only at hx
    split at hx
    · rcases List.mem_or_eq_of_mem_set hx with h | h
      · exact hs x h
      · rw [h]; exact hp
    · exact hs x hx
  have k1 : ∀ i, i ≤ d.ch.length → ∀ x ∈ (cr1 d picks i).1, x.length = 32 := by
    intro i
    induction i with
    | zero =>
      intro _ x hx
      obtain ⟨j, hj, rfl⟩ := List.getElem_of_mem (show x ∈ d.bs from hx)
      exact h.bs j hj
    | succ i ih =>
      intro hi
      rw [cr1_s d picks i (by omega)]
      exact kp _ _ _ (ih (by omega)) (h.ch i (by omega)).2.2
  have k2 : ∀ i, i ≤ d.q.length → ∀ x ∈ (cr2 d picks i).1, x.length = 32 := by
    intro i
    induction i with
    | zero => intro _; exact k1 _ (Nat.le_refl _)
    | succ i ih =>
      intro hi
      rw [cr2_s d picks i (by omega)]
      split
      · rename_i hk
        have := (h.q i (by omega)).1.resolve_right (fun h => by omega)
        exact kp _ _ _ (ih (by omega)) this.2.2.2
      · exact ih (by omega)
  refine ⟨h.dep, h.nxt, by show 1 ≤ (cr2 d picks d.q.length).1.length ∧ (cr2 d picks d.q.length).1.length ≤ 256; rw [hl]; exact h.nb, fun i hi => k2 _ (Nat.le_refl _) _ (List.getElem_mem _), fun i hi => by simp [crV] at hi, Nat.zero_le _, ?_, fun i hi => by simp [crV] at hi⟩
  show ((0 : Nat) : Int) ≤ d.dep
  have := h.dep
  omega

end Go.Proofs.Ytohkigillmlinaa
