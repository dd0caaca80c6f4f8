/- Parts of rows of one's own: taken, lengthened, cleared, told as rows again. -/
import Derived.Test.YtohpbfcechbngaaAvq
set_option linter.unusedSimpArgs false
set_option linter.unusedVariables false
namespace Go.Proofs.Ytohpbfcechbngaa
open Go.RowKit

section
variable {P : Program} {a : Act} {W : World} {T : TypeId} {e sz : Nat} {x : Operand}
theorem yl_sliceC {p : Option Addr} {n c : Nat} {lo hi : Option Operand} {l h : Nat} (hT : TSl P T e sz) (hx : a.eval x = .slice p n c) (hl : (lo = none ∧ l = 0) ∨ ∃ y, lo = some y ∧ a.eval y = .int .i64 l) (hh : (hi = none ∧ h = n) ∨ ∃ y, hi = some y ∧ a.eval y = .int .i64 h) (h1 : l ≤ h) (h2 : h ≤ c) :
    Yld P a W (.slice T x lo hi none) (.slice (if c = l then p else p.map (·.add (l * sz))) (h - l) (c - l)) := by
  intro op ho
  obtain ⟨inf, hu, hi', hs⟩ := hT.get
  unfold execOp
  rcases hl with ⟨rfl, rfl⟩ | ⟨y, rfl, hy⟩ <;> rcases hh with ⟨rfl, rfl⟩ | ⟨z, rfl, hz⟩
  · simp [ho, hx, Instr.sliceAt, run_underlying hu, Instr.slice, Instr.sliceBounds, sizeOf, typeInfo, hi', hs]
  · simp [ho, hx, hz, h2, Instr.sliceAt, run_underlying hu, Instr.slice, Instr.sliceBounds, Instr.sliceBound, asIntOf, sizeOf, typeInfo, hi', hs]
  · simp [ho, hx, hy, h1, Instr.sliceAt, run_underlying hu, Instr.slice, Instr.sliceBounds, Instr.sliceBound, asIntOf, sizeOf, typeInfo, hi', hs]
  · simp [ho, hx, hy, hz, show h ≤ c by omega, h1, Instr.sliceAt, run_underlying hu, Instr.slice, Instr.sliceBounds, Instr.sliceBound, asIntOf, sizeOf, typeInfo, hi', hs]
theorem yl_slice3 {p : Option Addr} {n c : Nat} {lo hi mx : Operand} {l h m : Nat} (hT : TSl P T e sz) (hx : a.eval x = .slice p n c) (hl : a.eval lo = .int .i64 l) (hh : a.eval hi = .int .i64 h) (hm : a.eval mx = .int .i64 m) (h1 : l ≤ h) (h2 : h ≤ m) (h3 : m ≤ c) :
    Yld P a W (.slice T x (some lo) (some hi) (some mx)) (.slice (if m = l then p else p.map (·.add (l * sz))) (h - l) (m - l)) := by
  intro op ho
  obtain ⟨inf, hu, hi', hs⟩ := hT.get
  unfold execOp
  simp [ho, hx, hl, hh, hm, h1, h2, h3, Instr.sliceAt, run_underlying hu, Instr.slice, Instr.sliceBounds, Instr.sliceBound, asIntOf, sizeOf, typeInfo, hi', hs]
end
/-- A bound of a slice expression. -/
def BdE (al : List (Nat × AV)) (lo : Option Operand) (d l : Nat) : Prop := (lo = none ∧ l = d) ∨ ∃ y v, lo = some y ∧ Evd al y (.d (.s (.int .i64 v))) ∧ v = (l : Int)
section
variable {P : Program} {X : Cx} {al : List (Nat × AV)} {bs : Bs} {T T' d b k n l h : Nat} {x y : Operand} {e sz : Nat} {lo hi : Option Operand}
theorem BdE.at {E : Env} {a : Act} {W : World} {al2 : List (Nat × AV)} {bs2 : Bs} {op : Op} {dd : Nat} (hb : BdE al lo dd l) (hl : Loc op al al2) (hh : HdE P X al2 bs2 E a W) (hm : ∀ y, lo = some y → y ∈ op.operands.toList) : (lo = none ∧ l = dd) ∨ ∃ y, lo = some y ∧ a.eval y = .int .i64 l := by
  rcases hb with h | ⟨y, v, h1, h2, h3⟩
  · exact .inl h
  · refine .inr ⟨y, h1, ?_⟩
    have := hh.evs (hl.evd h2 (hm y h1))
    rw [this, h3]
theorem slOps {T : TypeId} {x : Operand} {lo hi mx : Option Operand} : x ∈ (Op.slice T x lo hi mx).operands.toList ∧ (∀ y, lo = some y → y ∈ (Op.slice T x lo hi mx).operands.toList) ∧ (∀ y, hi = some y → y ∈ (Op.slice T x lo hi mx).operands.toList) ∧ (∀ y, mx = some y → y ∈ (Op.slice T x lo hi mx).operands.toList) := by
  refine ⟨?_, ?_, ?_, ?_⟩ <;> (try (intro y hy; subst hy)) <;> simp [Op.operands]
theorem flat_take {α : Type} {m : Nat} : ∀ (rows : List (List α)) (n : Nat), (∀ r ∈ rows, r.length = m) → rows.flatten.take (n * m) = (rows.take n).flatten
  | [], n, _ => by simp
  | r :: rows, 0, _ => by simp
  | r :: rows, n + 1, h => by
    have h1 := h r (List.mem_cons_self ..)
    have h2 := flat_take rows n (fun x hx => h x (List.mem_cons_of_mem _ hx))
    rw [List.flatten_cons, List.take_succ_cons, List.flatten_cons, List.take_append, ← h2, h1]
    congr 1
    · rw [List.take_of_length_le]
      rw [h1, Nat.add_mul, Nat.one_mul]; omega
    · congr 1
      rw [Nat.add_mul, Nat.one_mul]; omega
/-- A part of a row of one's own. -/
theorem Rd.slO (l h : Nat) {cs : List AV} [hT : TSl P T e sz] (hx : Evd al x (.o b n) := by exact ⟨_, rfl, by (try (apply Und.gd; assumption; try (apply Und.gd; assumption; try (apply Und.gd; assumption)))); exact Und.refl _⟩) (hb : lk bs b = some (some (T', cs)) := by rfl) (hlo : BdE al lo 0 l := by first | exact .inl ⟨rfl, rfl⟩ | exact .inr ⟨_, _, rfl, ⟨_, rfl, Und.refl _⟩, by first | rfl | (push_cast; omega)⟩) (hhi : BdE al hi n h := by first | exact .inl ⟨rfl, rfl⟩ | exact .inr ⟨_, _, rfl, ⟨_, rfl, Und.refl _⟩, by first | rfl | (push_cast; omega)⟩) (hlh : l < h ∨ l = 0 := by omega) (hn : 0 < n := by omega) (h2 : h ≤ n := by omega) (hsz : 0 < sz := by decide) :
    Rd P X al bs [b] (.slice T x lo hi none) (.vw b (l * sz) (h - l) true) := fun al2 bs2 hl hB E a W hh => by
  have hv := hh.evd (hl.evd hx slOps.1)
  generalize hq : a.eval x = q at hv
  cases hv with
  | @o _ _ c p hb' hv =>
    have e1 := hlo.at hl hh slOps.2.1
    have e2 := hhi.at hl hh slOps.2.2.1
    rcases hh.bk b T' cs (hB.at hb (List.mem_cons_self ..)) with ⟨h0, h1, h2⟩ | ⟨h0, vs, sp, m, n', c', h1, g2, h3, h4, h5, h6, h7, h8⟩
    · rw [hv] at h2
      cases h2
      omega
    · rw [hv] at h4
      cases h4
      have := yl_sliceC (P := P) (W := W) hT hq e1 e2 (by omega) (by omega)
      refine ⟨_, ?_, this⟩
      rw [if_neg (by omega)]
      have := RA.vw (E := E) (dm := dom bs2) (own := ownS E X.o bs2) (W := W) (b := b) (off := l * sz) (n := h - l) (c := c - l) (f := true) hb' h0 (by omega) (by omega) (fun _ h00 q m d hV => by
        rw [hv] at hV
        cases hV
        rcases Nat.mul_eq_zero.1 h00 with h00 | h00 <;> omega)
      rw [Option.map_some, Addr.add_mid, Nat.zero_add]
      exact this
/-- A part of a part that begins where the row begins. -/
theorem Rd.slV (l k : Nat) {rows : List (List D)} (h2 : l + k ≤ rows.length) (hm : ∀ r ∈ rows, r.length = sz) [hT : TSl P T e sz] [hZ : TZs P e sz] (hx : Evd al x (.vw b 0 n true) := by exact ⟨_, rfl, by (try (apply Und.gd; assumption; try (apply Und.gd; assumption; try (apply Und.gd; assumption)))); exact Und.refl _⟩) (hb : lk bs b = some (some (e, rows.flatten.map .d)) := by rfl) (hlo : BdE al lo 0 l := by first | exact .inl ⟨rfl, rfl⟩ | exact .inr ⟨_, _, rfl, ⟨_, rfl, Und.refl _⟩, by first | rfl | (push_cast; omega)⟩) (hhi : BdE al hi n (l + k) := by first | exact .inl ⟨rfl, rfl⟩ | exact .inr ⟨_, _, rfl, ⟨_, rfl, Und.refl _⟩, by first | rfl | (push_cast; omega)⟩) (hlh : 0 < k := by omega) (hsz : 0 < sz := by decide) :
    Rd P X al bs [b] (.slice T x lo hi none) (.vw b (l * sz) k true) := fun al2 bs2 hl hB E a W hh => by
  have hv := hh.evd (hl.evd hx slOps.1)
  generalize hq : a.eval x = q at hv
  cases hv with
  | @vw _ _ _ c _ hb' hn hc hmx hz =>
    have e1 := hlo.at hl hh slOps.2.1
    have e2 := hhi.at hl hh slOps.2.2.1
    obtain ⟨vs, sp, m, n', c', h1, g2, h3, h4, h5, h6, h7, h8⟩ := hh.blk (hB.at hb (List.mem_cons_self ..)) hn
    have hcc := hz rfl rfl _ _ _ h4
    subst hcc
    have hmm : m = sz := by have := hZ.h; rw [h3] at this; exact Option.some.inj this
    subst hmm
    have hlen : vs.length = rows.length * m := by rw [g2.len, List.length_map, flat_len rows hm]
    have hnr : n' = rows.length := Nat.eq_of_mul_eq_mul_right hsz (h7.symm.trans hlen)
    have := yl_sliceC (P := P) (W := W) hT hq e1 e2 (by omega) (by omega)
    refine ⟨_, ?_, this⟩
    rw [if_neg (by omega), Nat.add_sub_cancel_left]
    have := RA.vw (E := E) (dm := dom bs2) (own := ownS E X.o bs2) (W := W) (b := b) (off := l * m) (n := k) (c := c - l) (f := true) hb' hn (by omega) (by omega) (fun _ h00 q mm dd hV => by
      rw [h4] at hV
      cases hV
      rcases Nat.mul_eq_zero.1 h00 with h00 | h00 <;> omega)
    rw [Option.map_some, Addr.add_mid, Nat.zero_add]
    exact this
/-- An empty part. -/
theorem Rd.slE (l : Nat) [hT : TSl P T e sz] {cs : List AV} (hx : Evd al x (.o b n) := by exact ⟨_, rfl, by (try (apply Und.gd; assumption; try (apply Und.gd; assumption; try (apply Und.gd; assumption)))); exact Und.refl _⟩) (hb : lk bs b = some (some (T', cs)) := by rfl) (hlo : BdE al lo 0 l := by first | exact .inl ⟨rfl, rfl⟩ | exact .inr ⟨_, _, rfl, ⟨_, rfl, Und.refl _⟩, by first | rfl | (push_cast; omega)⟩) (hhi : BdE al hi n l := by first | exact .inl ⟨rfl, rfl⟩ | exact .inr ⟨_, _, rfl, ⟨_, rfl, Und.refl _⟩, by first | rfl | (push_cast; omega)⟩) (h2 : l ≤ n := by omega) :
    Rd P X al bs [b] (.slice T x lo hi none) (.d (.l [])) := fun al2 bs2 hl hB E a W hh => by
  have hv := hh.evd (hl.evd hx slOps.1)
  generalize hq : a.eval x = q at hv
  cases hv with
  | @o _ _ c p hb' hv =>
    have e1 := hlo.at hl hh slOps.2.1
    have e2 := hhi.at hl hh slOps.2.2.1
    have hnc : n ≤ c := by
      rcases hh.bk b T' cs (hB.at hb (List.mem_cons_self ..)) with ⟨h0, h1, h2⟩ | ⟨h0, vs, sp, m, n', c, h1, g2, h3, h4, h5, h6, h7, h8⟩
      · rw [hv] at h2
        cases h2
        exact Nat.le_refl _
      · rw [hv] at h4
        cases h4
        exact h5
    have := yl_sliceC (P := P) (W := W) hT hq e1 e2 (Nat.le_refl _) (by omega)
    refine ⟨_, ?_, this⟩
    rw [Nat.sub_self]
    exact .d .nl
/-- A part of a row of one's own that nobody looks at. -/
theorem Rd.slA (l h : Nat) [hT : TSl P T e sz] {cs : List AV} (hx : Evd al x (.o b n) := by exact ⟨_, rfl, by (try (apply Und.gd; assumption; try (apply Und.gd; assumption; try (apply Und.gd; assumption)))); exact Und.refl _⟩) (hb : lk bs b = some (some (T', cs)) := by rfl) (hlo : BdE al lo 0 l := by first | exact .inl ⟨rfl, rfl⟩ | exact .inr ⟨_, _, rfl, ⟨_, rfl, Und.refl _⟩, by first | rfl | (push_cast; omega)⟩) (hhi : BdE al hi n h := by first | exact .inl ⟨rfl, rfl⟩ | exact .inr ⟨_, _, rfl, ⟨_, rfl, Und.refl _⟩, by first | rfl | (push_cast; omega)⟩) (h1 : l ≤ h := by omega) (h2 : h ≤ n := by omega) :
    Rd P X al bs [b] (.slice T x lo hi none) .any := fun al2 bs2 hl hB E a W hh => by
  have hv := hh.evd (hl.evd hx slOps.1)
  generalize hq : a.eval x = q at hv
  cases hv with
  | @o _ _ c p hb' hv =>
    have e1 := hlo.at hl hh slOps.2.1
    have e2 := hhi.at hl hh slOps.2.2.1
    have hnc : n ≤ c := by
      rcases hh.bk b T' cs (hB.at hb (List.mem_cons_self ..)) with ⟨h0, h1, h2⟩ | ⟨h0, vs, sp, m, n', c, h1, g2, h3, h4, h5, h6, h7, h8⟩
      · rw [hv] at h2
        cases h2
        exact Nat.le_refl _
      · rw [hv] at h4
        cases h4
        exact h5
    exact ⟨_, .any, yl_sliceC (P := P) (W := W) hT hq e1 e2 h1 (by omega)⟩
theorem Rd.sl3 (l h m : Nat) {lo hi mx : Operand} {v1 v2 v3 : Int} [hT : TSl P T e sz] {cs : List AV} (hx : Evd al x (.o b n) := by exact ⟨_, rfl, by (try (apply Und.gd; assumption; try (apply Und.gd; assumption; try (apply Und.gd; assumption)))); exact Und.refl _⟩) (hb : lk bs b = some (some (T', cs)) := by rfl) (hlo : Evd al lo (.d (.s (.int .i64 v1))) := by exact ⟨_, rfl, by (try (apply Und.gd; assumption; try (apply Und.gd; assumption; try (apply Und.gd; assumption)))); exact Und.refl _⟩) (hhi : Evd al hi (.d (.s (.int .i64 v2))) := by exact ⟨_, rfl, by (try (apply Und.gd; assumption; try (apply Und.gd; assumption; try (apply Und.gd; assumption)))); exact Und.refl _⟩) (hmx : Evd al mx (.d (.s (.int .i64 v3))) := by exact ⟨_, rfl, by (try (apply Und.gd; assumption; try (apply Und.gd; assumption; try (apply Und.gd; assumption)))); exact Und.refl _⟩) (e1 : v1 = (l : Int) := by first | rfl | (push_cast; omega)) (e2 : v2 = (h : Int) := by first | rfl | (push_cast; omega)) (e3 : v3 = (m : Int) := by first | rfl | (push_cast; omega)) (h1 : l ≤ h := by omega) (h2 : h ≤ m := by omega) (h3 : m ≤ n := by omega) :
    Rd P X al bs [b] (.slice T x (some lo) (some hi) (some mx)) .any := fun al2 bs2 hl hB E a W hh => by
  subst e1 e2 e3
  have hv := hh.evd (hl.evd hx slOps.1)
  have f1 := hh.evs (hl.evd hlo (slOps.2.1 _ rfl))
  have f2 := hh.evs (hl.evd hhi (slOps.2.2.1 _ rfl))
  have f3 := hh.evs (hl.evd hmx (slOps.2.2.2 _ rfl))
  generalize hq : a.eval x = q at hv
  cases hv with
  | @o _ _ c p hb' hv =>
    have hnc : n ≤ c := by
      rcases hh.bk b T' cs (hB.at hb (List.mem_cons_self ..)) with ⟨h0, h1, h2⟩ | ⟨h0, vs, sp, m, n', c, h1, g2, h3, h4, h5, h6, h7, h8⟩
      · rw [hv] at h2
        cases h2
        exact Nat.le_refl _
      · rw [hv] at h4
        cases h4
        exact h5
    exact ⟨_, .any, yl_slice3 (P := P) (W := W) hT hq f1 f2 f3 h1 h2 (by omega)⟩
theorem Rd.lenV [hT : TSl P T e sz] {off : Nat} {f : Bool} (hx : Evd al x (.vw b off n f) := by exact ⟨_, rfl, by (try (apply Und.gd; assumption; try (apply Und.gd; assumption; try (apply Und.gd; assumption)))); exact Und.refl _⟩) : Rd P X al bs [] (.call { callee := .builtin .len, args := #[x], argTypes := #[T] }) (.d (.s (.int .i64 n))) := fun al2 bs2 hl hB E a W h => by
  have hv := h.evd (hl.evd hx (by simp [Op.operands, Call.operands]))
  generalize hq : a.eval x = q at hv
  cases hv with
  | vw => exact ⟨_, .d (.s rfl), yl_len hT hq⟩
/-- An element of a part. -/
theorem Rd.ixV {k : IntKind} {off : Nat} {f : Bool} {i : Int} (j : Nat) [hT : TSl P T e sz] (hx : Evd al x (.vw b off n f) := by exact ⟨_, rfl, by (try (apply Und.gd; assumption; try (apply Und.gd; assumption; try (apply Und.gd; assumption)))); exact Und.refl _⟩) (hy : Evd al y (.d (.s (.int k i))) := by exact ⟨_, rfl, by (try (apply Und.gd; assumption; try (apply Und.gd; assumption; try (apply Und.gd; assumption)))); exact Und.refl _⟩) (hi : i = j := by first | rfl | omega) (hj : j < n := by omega) :
    Rd P X al bs [] (.indexAddr T x y) (.p b (off + j * sz)) := fun al2 bs2 hl hB E a W h => by
  subst hi
  have hv := h.evd (hl.evd hx (by simp [Op.operands, Call.operands]))
  generalize hq : a.eval x = q at hv
  cases hv with
  | vw h1 h2 h3 h4 h5 =>
    refine ⟨_, .p h1 h2, ?_⟩
    have := yl_indexAddr (P := P) (W := W) hT hq (h.evs (hl.evd hy (by simp [Op.operands, Call.operands]))) (by omega) (by omega)
    simpa using this
/-- append of nothing. -/
theorem LT.apV0 {size bytes t : Nat} {f : Bool} [hT : TAp P t e size bytes] (hx : Evd al x (.vw b 0 n f) := by exact ⟨_, rfl, by (try (apply Und.gd; assumption; try (apply Und.gd; assumption; try (apply Und.gd; assumption)))); exact Und.refl _⟩) (hy : Evd al y (.d (.l [])) := by exact ⟨_, rfl, by (try (apply Und.gd; assumption; try (apply Und.gd; assumption; try (apply Und.gd; assumption)))); exact Und.refl _⟩) (hd : Nat.blt d X.N = true := by rfl) :
    LT P X al bs (.call { callee := .builtin .append, args := #[x, y], argTypes := #[t, t] }) (some d) [] [(d, .vw b 0 n f)] [] := LT.rd (fun al2 bs2 hL hB E a W hh => by
  obtain ⟨i0, z, hu, hie, hz, hsz, hbs, hzs, hpos⟩ := hT.h
  have h1 := hh.evd (hL.evd hx (by simp [Op.operands, Call.operands]))
  have h2 := hh.evd (hL.evd hy (by simp [Op.operands, Call.operands]))
  refine ⟨_, h1, fun o ho => ?_⟩
  generalize hq : a.eval x = q at h1
  generalize hr : a.eval y = r at h2
  cases h1 with
  | vw f1 f2 f3 f4 f5 =>
    have hsrc : Src P i0.size t r 0 [] W := by
      cases h2 with
      | d h2 =>
        cases h2 with
        | @nl ad c =>
          cases ad with
          | none => exact Src.ofNil W hu c
          | some ad => exact Src.ofSlice W hu ad 0 c [] (by simp) (fun j u h => by simp at h) (fun u h => by cases h)
        | l f g1 g2 g3 g4 g5 g6 g7 g8 =>
          simp only [List.length_nil] at g1
          subst g1
          exact Src.ofSlice W hu _ 0 _ [] (by simp) (fun j u h => by simp at h) (fun u h => by cases h)
    have hrun := run_append_nothing (P := P) W t t o.type e i0 hu hie (some ⟨E.A b, 0, none⟩) n _ f3 r hsrc
    unfold execOp
    simp only [ho]
    simp [resolve, invoke, builtin, hrun, hq, hr]) hd
/-- A part's one element is cleared. -/
theorem LT.clr {rows : List (List D)} {zs : List AV} {zr : List D} (j : Nat) (hj : j < rows.length) (hm : ∀ r ∈ rows, r.length = sz) [hT : TSl P T e sz] [hZ : TZc P e sz zs] [hp : Pl zs zr] {off : Nat} {f : Bool} (ho : off = j * sz) (hx : Evd al x (.vw b off 1 f) := by exact ⟨_, rfl, by (try (apply Und.gd; assumption; try (apply Und.gd; assumption; try (apply Und.gd; assumption)))); exact Und.refl _⟩) (hb : lk bs b = some (some (e, rows.flatten.map .d)) := by rfl) :
    LT P X al bs (.call { callee := .builtin .clear, args := #[x], argTypes := #[T] }) none [b] [] [(b, some (e, (rows.set j zr).flatten.map .d))] := fun ro al2 bs2 hL hB E a W hh o hoo hdst K Q hK => by
  subst ho
  obtain ⟨i, z, vs, z1, z2, z3, z4, z5, z6, rfl⟩ := hZ.h
  obtain ⟨inf, hu, hi', hs⟩ := hT.get
  have h1 := hh.evd (hL.evd hx (by simp [Op.operands, Call.operands]))
  generalize hq : a.eval x = q at h1
  cases h1 with
  | @vw _ _ _ cc _ f1 f2 f3 f4 f5 =>
    have hbb := hB.at hb (List.mem_cons_self ..)
    obtain ⟨us, sp, m, n', c', g1, g2, g3, g4, g5, g6, g7, g8⟩ := hh.blk hbb f2
    have hmm : m = sz := by rw [z1, Option.map_some] at g3; exact (Option.some.inj g3).symm.trans z4
    subst hmm
    have hul : us.length = rows.length * m := by rw [g2.len, List.length_map, flat_len rows hm]
    have hjm : j * m + m ≤ us.length := by
      rw [hul]
      have : (j + 1) * m ≤ rows.length * m := Nat.mul_le_mul_right m hj
      rw [Nat.add_mul, Nat.one_mul] at this
      exact this
    have he : us ++ sp = us.take (j * m) ++ ((us.drop (j * m)).take m ++ (us.drop (j * m + m) ++ sp)) := by
      rw [← List.append_assoc ((us.drop (j * m)).take m), ← List.drop_drop, List.take_append_drop, ← List.append_assoc, List.take_append_drop]
    have g1' := g1
    rw [he] at g1'
    have hlo : (us.take (j * m)).length = j * m := by simp; omega
    have hl2 : ((us.drop (j * m)).take m).length = vs.length := by rw [z5]; simp; omega
    have hs2 := Blk.splice vs W _ _ g1' hl2
    rw [hlo] at hs2
    have hst := run_storeCells_cells (P := P) (E.A b) (j * m) vs 0 W (fun k hk => by rw [Nat.add_zero, g1.cell, List.getElem?_eq_getElem (by simp only [List.length_append]; omega)]; rfl) (fun k hk => g1.frozen _) (fun v hv => (List.all_eq_true.1 z6) v hv)
    simp only [Nat.add_zero] at hst
    have hv0 : (zeroValue e).run P W = .ok z W := by simp [zeroValue, typeInfo, z1, z2]
    have hzc : Builtin.zeroCells z.cells 1 = vs.toArray := by
      unfold Builtin.zeroCells
      rw [z3]
      apply Array.ext'
      simp only [Nat.one_mul, Array.toList_map, Array.toList_range, List.size_toArray]
      apply List.ext_getElem
      · simp
      · intro k hk1 hk2
        simp only [List.getElem_map, List.getElem_range]
        rw [Nat.mod_eq_of_lt hk2]
        simp [hk2]
    have hrun : (Builtin.clear_ #[T] o.type #[.slice (some ⟨E.A b, j * m, none⟩) 1 cc]).run P W = .ok (.tuple #[]) (W.setCells (E.A b) (j * m) vs) := by
      simp [Builtin.clear_, run_underlying hu, hv0, hzc, hst]
    refine WO.of (by rw [hoo]; intro c h; cases h) ?_
    unfold execOp
    have : (do let dd ← resolve a.eval { callee := .builtin .clear, args := #[x], argTypes := #[T] } o.type; invoke dd.target dd.args : Sem Next).run P W = .ok (.value (.tuple #[])) (W.setCells (E.A b) (j * m) vs) := by
      simp [resolve, invoke, builtin, hrun, hq]
    simp only [hoo]
    rw [this]
    dsimp only [Oper.uponIn]
    rw [hdst]
    have hzr : zr.length = m := by
      have := congrArg List.length hp.h
      simp only [List.length_map] at this
      omega
    have hnew := hh.store (vs := us) (vs' := us.take (j * m) ++ (vs ++ us.drop (j * m + m))) (sp := sp) (cs' := ((rows.set j zr).flatten.map .d)) (b := b) hbb f2 hs2.2 (by simpa using hs2.1) ?_ ?_ g3 g4 g5 g6 g7 g8
    · exact hK _ _ _ hnew
    · have := RAL.split (j * m) g2 (RAL.zeros (E := E) (dm := dom bs2) (own := ownS E X.o bs2) (W := W) z6)
      rw [z5, List.length_map, z5, hp.h] at this
      rw [← flat_set rows j zr hm hj hzr]
      simpa using this
    · simp only [List.length_append, List.length_take, List.length_drop]
      omega
/-- A part that begins where the row begins is a row again. -/
theorem G.vwO {c : Act → World → Prop} {m : Nat} {rows : List (List D)} (q i n : Nat) [hT : TZs P T m] (h : G P X ((q, .o i n) :: al) ((i, some (T, (rows.take n).flatten.map .d)) :: (b, none) :: bs) c) (hm : ∀ r ∈ rows, r.length = m) (hpos : 0 < m) (hn : n ≤ rows.length) (hq : lk al q = some (.vw b 0 n true) := by rfl) (hb : lk bs b = some (some (T, rows.flatten.map .d)) := by rfl) (hf : lk bs i = none := by rfl) : G P X al bs c := fun E a W hh => by
  obtain ⟨v, e1, e2⟩ := hh.sl q _ hq
  generalize hcs : rows.flatten.map AV.d = cs at hb
  cases e2 with
  | @vw _ _ _ cc _ f1 f2 f3 f4 f5 =>
    obtain ⟨us, sp, m', n', c', g1, g2, g3, g4, g5, g6, g7, g8⟩ := hh.blk hb f2
    have hmm : m' = m := by have := hT.h; rw [g3] at this; exact Option.some.inj this
    subst hmm
    have hcc := f5 rfl rfl _ _ _ g4
    subst hcc
    have hul : us.length = rows.length * m' := by rw [g2.len, ← hcs, List.length_map, flat_len rows hm]
    have hnr : n' = rows.length := Nat.eq_of_mul_eq_mul_right hpos (g7.symm.trans hul)
    have hnm : n * m' ≤ us.length := by rw [hul]; exact Nat.mul_le_mul_right _ hn
    have hd : ¬ dom bs i := fun ⟨o, ho⟩ => by rw [hf] at ho; cases ho
    have hl : live E bs b := ⟨⟨_, hb⟩, f2⟩
    have hnw := hh.newDrop (q := i) (b := b) (E' := E.set i (E.A b) (.slice (some ⟨E.A b, 0, none⟩) n cc) false) (W' := W) (T := T) (cs := (rows.take n).flatten.map .d) (row := some (E.A b)) hf ⟨_, hb⟩ (Env.le_set _ hd _ _ _) ⟨rfl, rfl, rfl, Nat.le_refl _, fun _ _ _ => rfl⟩ (fun r hr => by cases hr; exact ⟨hl, rfl⟩) (fun _ => .inr ⟨hl, by rw [Env.set_A]⟩) (fun own' ho => .inr ⟨Env.set_nl _ _ _ _ _, us.take (n * m'), us.drop (n * m') ++ sp, m', n, cc, ?_, ?_, g3, ?_, f3, f4, ?_, ?_⟩)
    · exact G.slots (al' := al) hnw e1 (.o ⟨_, lk_self _ _ _⟩ (by rw [Env.set_V])) h
    · rw [Env.set_A, ← List.append_assoc, List.take_append_drop]
      exact g1
    · have k : Keeps (ownS E X.o bs) own' W W := .of (fun _ _ _ => rfl) (Nat.le_refl _) ho
      have := (g2.take (n * m')).keeps (dm' := dom ((i, some (T, (rows.take n).flatten.map .d)) :: (b, none) :: bs)) (E' := E.set i (E.A b) (.slice (some ⟨E.A b, 0, none⟩) n cc) false) k (Env.le_set _ hd _ _ _) (fun b' hb' => dom_cons b' (dom_cons b' hb'))
      rw [← hcs, ← List.map_take, flat_take rows n hm] at this
      exact this
    · rw [Env.set_V, Env.set_A]
    · rw [List.length_take, Nat.min_eq_left hnm]
    · rw [← List.append_assoc, List.take_append_drop]
      exact g8
/-- What a cell holds is forgotten. -/
theorem G.anyAt {c : Act → World → Prop} (b i : Nat) {T0 : Nat} {cs cs' : List AV} [hL : LSet cs i .any cs'] (h : G P X al ((b, some (T0, cs')) :: bs) c) (hb : lk bs b = some (some (T0, cs)) := by rfl) (hi : Nat.blt i cs.length = true := by rfl) : G P X al bs c := fun E a W hh => by
  refine h _ a W (hh.tellB (T := T0) (cs := cs) hb (fun e => by subst e; simp at hi) (fun vs hr => ?_))
  have hi : i < cs.length := by simpa using hi
  obtain ⟨v, g1, g2⟩ := hr.get i _ (List.getElem?_eq_getElem hi)
  have := hr.set i (v := v) (d := .any) .any
  rw [hL.h] at this
  have e2 : vs.set i v = vs := by
    apply List.ext_getElem?
    intro k
    by_cases hk : i = k
    · subst hk
      rw [List.getElem?_set_self (List.getElem?_eq_some_iff.1 g1).1, g1]
    · rw [List.getElem?_set_ne hk]
  rwa [e2] at this
/-- A part of a part. -/
theorem Rd.slW (l h : Nat) {off : Nat} {f : Bool} [hT : TSl P T e sz] (hx : Evd al x (.vw b off n f) := by exact ⟨_, rfl, by (try (apply Und.gd; assumption; try (apply Und.gd; assumption; try (apply Und.gd; assumption)))); exact Und.refl _⟩) (hlo : BdE al lo 0 l := by first | exact .inl ⟨rfl, rfl⟩ | exact .inr ⟨_, _, rfl, ⟨_, rfl, Und.refl _⟩, by first | rfl | (push_cast; omega)⟩) (hhi : BdE al hi n h := by first | exact .inl ⟨rfl, rfl⟩ | exact .inr ⟨_, _, rfl, ⟨_, rfl, Und.refl _⟩, by first | rfl | (push_cast; omega)⟩) (hlh : l < h := by omega) (h2 : h ≤ n := by omega) :
    Rd P X al bs [] (.slice T x lo hi none) (.vw b (off + l * sz) (h - l) false) := fun al2 bs2 hl hB E a W hh => by
  have hv := hh.evd (hl.evd hx slOps.1)
  generalize hq : a.eval x = q at hv
  cases hv with
  | @vw _ _ _ c _ hb' hn hc hmx hz =>
    have e1 := hlo.at hl hh slOps.2.1
    have e2 := hhi.at hl hh slOps.2.2.1
    have := yl_sliceC (P := P) (W := W) hT hq e1 e2 (by omega) (by omega)
    refine ⟨_, ?_, this⟩
    rw [if_neg (by omega)]
    have := RA.vw (E := E) (dm := dom bs2) (own := ownS E X.o bs2) (W := W) (b := b) (off := off + l * sz) (n := h - l) (c := c - l) (f := false) hb' hn (by omega) (by omega) (fun h => by cases h)
    rw [Option.map_some, Addr.add_mid]
    exact this
theorem yl_slice3b {P : Program} {a : Act} {W : World} {T : TypeId} {e sz : Nat} {x : Operand} {p : Option Addr} {n c : Nat} {hi mx : Operand} {h m : Nat} (hT : TSl P T e sz) (hx : a.eval x = .slice p n c) (hh : a.eval hi = .int .i64 h) (hm : a.eval mx = .int .i64 m) (h2 : h ≤ m) (h3 : m ≤ c) :
    Yld P a W (.slice T x none (some hi) (some mx)) (.slice (if m = 0 then p else p.map (·.add (0 * sz))) h m) := by
  intro op ho
  obtain ⟨inf, hu, hi', hs⟩ := hT.get
  unfold execOp
  simp [ho, hx, hh, hm, h2, h3, Instr.sliceAt, run_underlying hu, Instr.slice, Instr.sliceBounds, Instr.sliceBound, asIntOf, sizeOf, typeInfo, hi', hs]
/-- All of a row of one's own, without the room behind it. -/
theorem Rd.slM {hi mx : Operand} {v2 v3 : Int} [hT : TSl P T e sz] {cs : List AV} (hx : Evd al x (.o b n) := by exact ⟨_, rfl, by (try (apply Und.gd; assumption; try (apply Und.gd; assumption; try (apply Und.gd; assumption)))); exact Und.refl _⟩) (hb : lk bs b = some (some (T', cs)) := by rfl) (hhi : Evd al hi (.d (.s (.int .i64 v2))) := by exact ⟨_, rfl, by (try (apply Und.gd; assumption; try (apply Und.gd; assumption; try (apply Und.gd; assumption)))); exact Und.refl _⟩) (hmx : Evd al mx (.d (.s (.int .i64 v3))) := by exact ⟨_, rfl, by (try (apply Und.gd; assumption; try (apply Und.gd; assumption; try (apply Und.gd; assumption)))); exact Und.refl _⟩) (e2 : v2 = (n : Int) := by first | rfl | (push_cast; omega)) (e3 : v3 = (n : Int) := by first | rfl | (push_cast; omega)) (hn : 0 < n := by omega) :
    Rd P X al bs [b] (.slice T x none (some hi) (some mx)) (.vw b 0 n false) := fun al2 bs2 hl hB E a W hh => by
  subst e2 e3
  have hv := hh.evd (hl.evd hx slOps.1)
  have f2 := hh.evs (hl.evd hhi (slOps.2.2.1 _ rfl))
  have f3 := hh.evs (hl.evd hmx (slOps.2.2.2 _ rfl))
  generalize hq : a.eval x = q at hv
  cases hv with
  | @o _ _ c p hb' hv =>
    rcases hh.bk b T' cs (hB.at hb (List.mem_cons_self ..)) with ⟨h0, h1, h2⟩ | ⟨h0, vs, sp, m, n', c', h1, g2, h3, h4, h5, h6, h7, h8⟩
    · rw [hv] at h2
      cases h2
      omega
    · rw [hv] at h4
      cases h4
      have := yl_slice3b (P := P) (W := W) hT hq f2 f3 (Nat.le_refl _) (by omega)
      refine ⟨_, ?_, this⟩
      rw [if_neg (by omega), Nat.zero_mul, Option.map_some, Addr.add_mid]
      exact .vw hb' h0 (Nat.le_refl _) (by omega) (fun h => by cases h)
/-- A part that begins where the row begins is not changed any more. -/
theorem G.frzV {c : Act → World → Prop} {m : Nat} {f : Bool} {rows : List (List D)} (q b n : Nat) [hT : TZs P T m] (h : G P X ((q, .d (.l rows)) :: al) ((b, none) :: bs) c) (hm : ∀ r ∈ rows, r.length = m) (hpos : 0 < m) (hn : n = rows.length) (hq : lk al q = some (.vw b 0 n f) := by rfl) (hb : lk bs b = some (some (T, rows.flatten.map .d)) := by rfl) : G P X al bs c := fun E a W hh => by
  obtain ⟨v, e1, e2⟩ := hh.sl q _ hq
  cases e2 with
  | @vw _ _ _ cc _ f1 f2 f3 f4 f5 =>
    -- the row itself, told as data
    obtain ⟨us, sp, m', n', c', g1, g2, g3, g4, g5, g6, g7, g8⟩ := hh.blk hb f2
    have hmm : m' = m := by have := hT.h; rw [g3] at this; exact Option.some.inj this
    subst hmm
    have hul : us.length = rows.length * m' := by rw [g2.len, List.length_map, flat_len rows hm]
    have hnr : n' = rows.length := Nat.eq_of_mul_eq_mul_right hpos (g7.symm.trans hul)
    subst hnr
    have hd := hh.data (v := .slice (some ⟨E.A b, 0, none⟩) rows.length c') hb hm g3 (k := rows.length) rfl (.o f1 g4)
    subst hn
    refine G.slots (al' := al) (hh.drop b) e1 (.d ?_) h
    generalize hz : rows.length = z at hd f3 ⊢
    cases hd with
    | nl => exact .nl
    | l f hn hc hm hr ho h1 h2 h3 => exact .l f hn f3 f4 hr ho h1 h2 h3
/-- A function's end: the first result lies in a variable, the second in a slot. -/
theorem G.finBc2 {fn : Func} {bs' : Bs} {n b N T T' m : Nat} {cs : List AV} {y : AV} [hT : TRw P T N] (h : lk al n = some (.p b 0)) (hb : lk bs b = some (some (T', cs))) (hN : cs.length = N) (hy : lk al m = some y) (hr : fn.results = #[.cell n T, .tmp m]) (hn : AV.numsL (inB bs') [.st cs, y] = true) (hs : SubB bs bs') (hcl : ClB (inB bs') bs') (hk : X.k.all (inB bs') = true) : G P X al bs (finB P fn X (.tup [.st cs, y]) bs' .ret) := fun E a W hh => hh.leave fun a' W' _ hh => by
  obtain ⟨v, h1, h2⟩ := hh.sl n _ h
  obtain ⟨u, g1, g2⟩ := hh.sl m y hy
  cases h2 with
  | p hb' hnl =>
    obtain ⟨vs, sp, mm, k, c, q1, q2, _⟩ := hh.blk hb hnl
    have hl := q2.len
    obtain ⟨dd, hu, hd, hi⟩ := hT.get
    obtain ⟨h3, h4⟩ := hh.hb.res hs hcl hk
    simp only [AV.numsL, Bool.and_eq_true, Bool.and_true] at hn
    refine ⟨.tuple #[.agg vs.toArray, u], ?_, _, E, rfl, h3, .tup (.cons (h4 _ _ (.st q2) hn.1) (.cons (h4 u y g2 hn.2) .nil))⟩
    have h5 : a'.tmps.getD n undef = .pointer (some ⟨E.A b, 0, none⟩) := by rw [Array.getD_eq_getD_getElem?, h1]; rfl
    have h6 := run_loadVar_mid (P := P) W' (E.A b) 0 T vs dd (q1.rangeIn 0 vs (fun j hj => by rw [Nat.zero_add, List.getElem?_append_left hj])) hu hd (by rw [hi, hl, hN])
    have h7 : a'.tmps.getD m undef = u := by rw [Array.getD_eq_getD_getElem?, g1]; rfl
    simp [results_rdv, hr, rdv, h5, asAddr, h6, h7]
/-- A new block that a call has left. -/
theorem HdE.newX {E : Env} {a : Act} {W : World} (h : HdE P X al bs E a W) {E' : Env} {W' : World} {k : Nat} {T : TypeId} {cs : List AV} (hf : lk bs k = none) (hE : Env.le (dom bs) E E') (hx : Ext W W') (hA : E'.nl k = false → W.heap.size ≤ E'.A k)
    (hk : EnOk P E' (dom ((k, some (T, cs)) :: bs)) (ownS E' X.o ((k, some (T, cs)) :: bs)) W' k T cs) : HdE P X al ((k, some (T, cs)) :: bs) E' a W' := by
  have hb := hx.below
  have hd : ¬ dom bs k := fun ⟨o, ho⟩ => by rw [hf] at ho; cases ho
  have ho : ∀ r, r < W.heap.size → ownS E' X.o ((k, some (T, cs)) :: bs) r → ownS E X.o bs r := by
    rintro r hr (ho | ⟨b, hl, rfl⟩)
    · exact .inl ho
    · by_cases he : k = b
      · subst he
        have := hA hl.2
        omega
      · have h1 := (live_ne hE he).1 hl
        exact .inr ⟨b, h1, (hE.A b h1.dom).symm⟩
  have kk : Keeps (ownS E X.o bs) (ownS E' X.o ((k, some (T, cs)) :: bs)) W W' := .of (fun r hr _ => hb.block r hr) hb.size ho
  refine ⟨h.ext.trans hx, h.o0, h.df.grow (grown_ext hx none) (fun r e => by cases e) rfl, h.sz, h.en.step hE dom_cons, fun n x hn => ?_, fun b T' cs' hc => ?_, fun b hl => ?_, fun b b' hl hl' he => ?_⟩
  · obtain ⟨v, h1, h2⟩ := h.sl n x hn
    exact ⟨v, h1, h2.keeps kk hE dom_cons⟩
  · by_cases he : k = b
    · subst he
      rw [lk_self] at hc
      simp only [Option.some.injEq, Prod.mk.injEq] at hc
      obtain ⟨rfl, rfl⟩ := hc
      exact hk
    · rw [lk_ne _ _ he] at hc
      exact (h.bk b T' cs' hc).keeps kk hE dom_cons ⟨_, hc⟩ (fun hn => hb.block _ (h.live_lt ⟨⟨_, hc⟩, hn⟩))
  · by_cases he : k = b
    · subst he
      exact .inl (Nat.le_trans h.ext.size (hA hl.2))
    · have h1 := (live_ne hE he).1 hl
      rw [hE.A b h1.dom]
      exact h.lo b h1
  · by_cases h1 : k = b <;> by_cases h2 : k = b'
    · omega
    · subst h1
      have h3 := (live_ne hE h2).1 hl'
      have h4 := h.live_lt h3
      have h5 := hA hl.2
      rw [hE.A b' h3.dom] at he
      omega
    · subst h2
      have h3 := (live_ne hE h1).1 hl
      have h4 := h.live_lt h3
      have h5 := hA hl'.2
      rw [hE.A b h3.dom] at he
      omega
    · have h3 := (live_ne hE h1).1 hl
      have h4 := (live_ne hE h2).1 hl'
      rw [hE.A b h3.dom, hE.A b' h4.dom] at he
      exact h.nd b b' h3 h4 he
/-- A call of a function that takes data and answers with a row of its own: in any region; nothing else is forgotten. -/
theorem LT.cvK {K : Nat} {args : List Operand} {ats : Array TypeId} {xs : List AV} {ds es : List D} {z y' : AV} (hf : FnB P CT K xs [(101, none)] z [(101, some (T, es.map .d))]) (he : EvL al args xs) (hp : Pl xs ds) (hk : bs.length = k) (hfr : lk bs k = none) (hy : AV.ren [(101, k)] z = y') (hz : AV.ren [(k, 101)] y' = z) (hzk : y'.kb [(k, 101)] = true) (hd : Nat.blt d X.N = true) :
    LT P X al bs (.call { callee := .value (.func K), args := args.toArray, argTypes := ats }) (some d) [k] [(d, y')] [(k, some (T, es.map .d))] := fun ro al2 bs2 hL hB E a W hh o ho hdst Kc Q hK => by
  clear hy
  have hf2 : lk bs2 k = none := (hB k (List.mem_cons_self ..)).trans hfr
  have hr := hh.evsOk (EvL.loc hL (fun x hx => by simp [Op.operands, Call.operands, hx]) he)
  rw [hp.h] at hr
  let X' : Cx := ⟨W, ownS E X.o bs2, X.N, fun _ => False, E, []⟩
  have hno : ∀ b, ¬ live E [(101, none)] b := fun b ⟨⟨en, h⟩, _⟩ => by
    simp only [lk_cons] at h
    split at h
    · cases h
    · simp [lk] at h
  have hb : HB P X' [(101, none)] E W := ⟨ExtM.refl _ _, fun r h => ⟨hh.own_lt h, id⟩, EnK.nil, fun b T cs h => by
    simp only [lk_cons] at h
    split at h
    · cases h
    · simp [lk] at h, fun b h => absurd h (hno b), fun b b' h => absurd h (hno b)⟩
  have ho0 : ∀ r, ownS E X'.o [(101, none)] r → ownS E X.o bs2 r := by
    rintro r (h | ⟨b, h, _⟩)
    · exact h
    · exact absurd h (hno b)
  have ha : RAL E (dom [(101, none)]) (ownS E X'.o [(101, none)]) W (args.map a.eval) (ds.map .d) := RAL.map (hr.unmap.keeps (.of (fun _ _ _ => rfl) (Nat.le_refl _) (fun r _ h => ho0 r h)))
  rw [← hp.h] at ha
  have hcall := hf.2 X' _ trivial (kns_eq (l := [101]) (ks := []) rfl (by decide)).symm hb ha
  refine WO.of (by rw [ho]; intro c h; cases h) ?_
  unfold execOp
  have hrun : (do let dd ← resolve a.eval { callee := .value (.func K), args := args.toArray, argTypes := ats } o.type; invoke dd.target dd.args : Sem Next).run P W = .ok (.enter K (args.map a.eval).toArray) W := by
    simp [resolve, Deferred.ofValue, Act.eval, invoke, callFunc_enter hf.1]
  simp only [ho]
  rw [hrun]
  rw [Oper.uponIn_enter]
  refine ⟨(fun hq => by cases hq), (callsIn_wide (n := 0)).2 (hcall.mono ?_)⟩
  rintro e W' ⟨u, E1, rfl, h1, h2⟩
  dsimp only
  rw [hdst]
  have hd2 : ¬ dom bs2 k := fun ⟨o, ho⟩ => by rw [hf2] at ho; cases ho
  have hE : Ext W W' := h1.ext.ext
  let E2 := E.set k (E1.A 101) (E1.V 101) (E1.nl 101)
  have hle : Env.le (dom bs2) E E2 := Env.le_set _ hd2 _ _ _
  have l101 : E1.nl 101 = false → live E1 [(101, some (T, es.map .d))] 101 := fun h => ⟨⟨_, lk_self _ _ _⟩, h⟩
  have how : ∀ r, ownS E2 X.o ((k, some (T, es.map .d)) :: bs2) r → ownS E1 X'.o [(101, some (T, es.map .d))] r := by
    rintro r (h | ⟨b, h, rfl⟩)
    · exact .inl (.inl h)
    · by_cases hbk : k = b
      · subst hbk
        have h3 : E1.nl 101 = false := by
          have := h.2
          simp only [E2, Env.set_nl] at this
          exact this
        exact .inr ⟨101, l101 h3, by simp only [E2, Env.set_A]⟩
      · have h3 := (live_ne hle hbk).1 h
        exact .inl (.inr ⟨b, h3, (hle.A b h3.dom).symm⟩)
  have kk : Keeps (ownS E1 X'.o [(101, some (T, es.map .d))]) (ownS E2 X.o ((k, some (T, es.map .d)) :: bs2)) W' W' := .of (fun _ _ _ => rfl) (Nat.le_refl _) (fun r _ h => how r h)
  have hnew := hh.newX (k := k) (T := T) (cs := es.map .d) (E' := E2) hf2 hle hE (fun h => by
    simp only [E2, Env.set_nl, Env.set_A] at h ⊢
    rcases h1.lo 101 (l101 h) with h | h
    · exact h
    · exact h.elim) (by
    rcases h1.bk 101 T _ (lk_self _ _ _) with ⟨g0, g1, g2⟩ | ⟨g0, vs, sp, m, n, c, g1, g2, g3, g4, g5, g6, g7, g8⟩
    · exact .inl ⟨by simp only [E2, Env.set_nl]; exact g0, g1, by simp only [E2, Env.set_V]; exact g2⟩
    · exact .inr ⟨by simp only [E2, Env.set_nl]; exact g0, vs, sp, m, n, c, by simp only [E2, Env.set_A]; exact g1, RAL.map (g2.unmap.keeps kk), g3, by simp only [E2, Env.set_V, Env.set_A]; exact g4, g5, g6, g7, g8⟩)
  refine hK _ _ _ (hnew.put ?_ (by simpa using hd))
  rw [← hz] at h2
  have h3 := RA.ren (π := [(k, 101)]) (own' := ownS E2 X.o ((k, some (T, es.map .d)) :: bs2)) kk y' h2 hzk
  refine h3.keeps (.of (fun _ _ _ => rfl) (Nat.le_refl _) (fun r _ h => h)) ⟨fun b hb => ?_, fun b hb => ?_, fun b hb => ?_⟩ (fun b hb => ?_)
  all_goals
    have hbk : b = k := by
      unfold dmR at hb
      simp only [lk_cons] at hb
      split at hb
      · rename_i h; exact h.symm
      · simp [lk] at hb
    subst hbk
  · simp only [E2, Env.set_A, Env.ren, lk_self, Option.getD_some]
  · simp only [E2, Env.set_V, Env.ren, lk_self, Option.getD_some]
  · simp only [E2, Env.set_nl, Env.ren, lk_self, Option.getD_some]
  · exact ⟨_, lk_self _ _ _⟩
end

end Go.Proofs.Ytohpbfcechbngaa
