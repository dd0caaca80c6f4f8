/- Bits, remainders with the value told; places and elements of arrays at an index that is not written. -/
import Derived.Test.YtohpbfcechbngaaAvt
import Derived.Test.YtohpbfcechbngaaAvp
set_option linter.unusedSimpArgs false
set_option linter.unusedVariables false
namespace Go.Proofs.Ytohpbfcechbngaa
open Go.RowKit

section
variable {P : Program} {X : Cx} {al : List (Nat × AV)} {bs : Bs} {T T' n e d : Nat} {pl : List (Nat × Nat)} {x y : Operand}
theorem LT.xor {k : IntKind} {m i : Int} (z : Int) (hx : Evd al x (.d (.s (.int k m))) := by exact ⟨_, rfl, by (try (apply Und.gd; assumption; try (apply Und.gd; assumption; try (apply Und.gd; assumption)))); exact Und.refl _⟩) (hy : Evd al y (.d (.s (.int k i))) := by exact ⟨_, rfl, by (try (apply Und.gd; assumption; try (apply Und.gd; assumption; try (apply Und.gd; assumption)))); exact Und.refl _⟩) (hz : bits .xor k m i = z := by first | assumption | decide) (hd : Nat.blt d X.N = true := by rfl) : LT P X al bs (.binOp .xor T x y T') (some d) [] [(d, .d (.s (.int k z)))] [] :=
  LT.rd (fun al2 bs2 hl hB E a W h => ⟨_, .d (.s rfl), by rw [← hz]; exact yl_xor (h.evs (hl.evd hx (by simp [Op.operands]))) (h.evs (hl.evd hy (by simp [Op.operands])))⟩) hd
theorem LT.remz {k : IntKind} {m i : Int} (z : Int) (hx : Evd al x (.d (.s (.int k m))) := by exact ⟨_, rfl, by (try (apply Und.gd; assumption; try (apply Und.gd; assumption; try (apply Und.gd; assumption)))); exact Und.refl _⟩) (hy : Evd al y (.d (.s (.int k i))) := by exact ⟨_, rfl, by (try (apply Und.gd; assumption; try (apply Und.gd; assumption; try (apply Und.gd; assumption)))); exact Und.refl _⟩) (h0 : i ≠ 0 := by first | assumption | decide | omega) (hz : m.tmod i = z := by first | assumption | decide) (hd : Nat.blt d X.N = true := by rfl) : LT P X al bs (.binOp .rem T x y T') (some d) [] [(d, .d (.s (.int k z)))] [] :=
  LT.rd (fun al2 bs2 hl hB E a W h => ⟨_, .d (.s rfl), by rw [← hz]; exact yl_rem (h.evs (hl.evd hx (by simp [Op.operands]))) (h.evs (hl.evd hy (by simp [Op.operands]))) h0⟩) hd
theorem Rd.ixY {k : IntKind} {i : Int} {b off : Nat} (j : Nat) [hT : TAr P T n e pl] (hx : Evd al x (.p b off) := by exact ⟨_, rfl, by (try (apply Und.gd; assumption; try (apply Und.gd; assumption; try (apply Und.gd; assumption)))); exact Und.refl _⟩) (hy : Evd al y (.d (.s (.int k i))) := by exact ⟨_, rfl, by (try (apply Und.gd; assumption; try (apply Und.gd; assumption; try (apply Und.gd; assumption)))); exact Und.refl _⟩) (hi : i = j := by first | rfl | omega) (hj : j < n := by first | decide | omega) : Rd P X al bs [] (.indexAddr T x y) (.p b (off + j)) := fun al2 bs2 hl hB E a W hh => by
  subst hi
  have hv := hh.evd (hl.evd hx (by simp [Op.operands]))
  have h2 := hh.evs (hl.evd hy (by simp [Op.operands]))
  generalize hq : a.eval x = q at hv
  cases hv with
  | p hb' hn =>
    have := yl_ixN (P := P) (W := W) hT hq h2 (Int.natCast_nonneg j) (by exact_mod_cast hj)
    rw [Int.toNat_natCast] at this
    exact ⟨_, .p hb' hn, this⟩
theorem Rd.elY {k : IntKind} {i : Int} {ds : List D} {z : D} (j : Nat) (hd : ds[j]? = some z) [hT : TAr P T n e pl] [hS : TSc P e] (hx : Evd al x (.d (.st ds)) := by exact ⟨_, rfl, by (try (apply Und.gd; assumption; try (apply Und.gd; assumption; try (apply Und.gd; assumption)))); exact Und.refl _⟩) (hy : Evd al y (.d (.s (.int k i))) := by exact ⟨_, rfl, by (try (apply Und.gd; assumption; try (apply Und.gd; assumption; try (apply Und.gd; assumption)))); exact Und.refl _⟩) (hi : i = j := by first | rfl | omega) (hj : j < n := by first | decide | omega) : Rd P X al bs [] (.index T x y) (.d z) := fun al2 bs2 hl hB E a W hh => by
  subst hi
  have hv := hh.evd (hl.evd hx (by simp [Op.operands]))
  have h2 := hh.evs (hl.evd hy (by simp [Op.operands]))
  generalize hq : a.eval x = q at hv
  cases hv with
  | d h' =>
    cases h' with
    | st h3 =>
      obtain ⟨v, h5, h4⟩ := h3.get _ z hd
      refine ⟨v, .d h4, ?_⟩
      intro op ho
      obtain ⟨hu, f, hf, hfs⟩ := hT.get
      obtain ⟨td, hu2, hd2⟩ := hS.get
      have hq2 : (isAgg e).run P W = .ok false W := isAgg_false hu2 hd2
      have hj' : ((j : Nat) : Int) < (n : Int) := by exact_mod_cast hj
      unfold execOp
      simp [ho, hq, h2, Instr.index, asIntOf, run_underlying hu, sizeOf, typeInfo, hf, hfs, hj', Go.part, hq2, h5]
      intro h
      exact absurd hj (Nat.not_lt.2 h)
/-- A part of a row of data. -/
theorem Rd.slD (l h : Nat) {e sz : Nat} {rows rows' : List (List D)} {lo hi : Option Operand} [hT : TSl P T e sz] (hm : ∀ r ∈ rows, r.length = sz) (he : (rows.drop l).take (h - l) = rows') (hlh : l ≤ h) (h2 : h ≤ rows.length) (hx : Evd al x (.d (.l rows)) := by exact ⟨_, rfl, by (try (apply Und.gd; assumption; try (apply Und.gd; assumption; try (apply Und.gd; assumption)))); exact Und.refl _⟩) (hlo : BdE al lo 0 l := by first | exact .inl ⟨rfl, rfl⟩ | exact .inr ⟨_, _, rfl, ⟨_, rfl, Und.refl _⟩, by first | rfl | (push_cast; omega)⟩) (hhi : BdE al hi rows.length h := by first | exact .inl ⟨rfl, rfl⟩ | exact .inr ⟨_, _, rfl, ⟨_, rfl, Und.refl _⟩, by first | rfl | (push_cast; omega)⟩) :
    Rd P X al bs [] (.slice T x lo hi none) (.d (.l rows')) := fun al2 bs2 hl hB E a W hh => by
  subst he
  have hv := hh.evd (hl.evd hx slOps.1)
  generalize hq : a.eval x = q at hv
  cases hv with
  | d hv =>
    have hsh : ∃ p c, q = .slice p rows.length c ∧ rows.length ≤ c := by
      cases hv with
      | nl => exact ⟨_, _, rfl, Nat.zero_le _⟩
      | l f hn hc hm hr ho h1 h2 h3 => subst hn; exact ⟨_, _, rfl, hc⟩
    obtain ⟨p, c, rfl, hc⟩ := hsh
    exact ⟨_, .d (hv.part sz hlh h2 hm), yl_slice hT hq (hlo.at hl hh slOps.2.1) (hhi.at hl hh slOps.2.2.1) hlh h2 hc⟩
/-- The first elements of an array that lies behind a pointer to data. -/
theorem Rd.slAr {k : IntKind} {i : Int} {e off : Nat} {row : List D} {rows' : List (List D)} {hi : Operand} (h : Nat) (he : ((row.drop off).take h).map (fun d => [d]) = rows') (h0 : 0 < h) (hle : off + h ≤ row.length) [hT : TAr P T n e pl] (hx : Evd al x (.e row off) := by exact ⟨_, rfl, by (try (apply Und.gd; assumption; try (apply Und.gd; assumption; try (apply Und.gd; assumption)))); exact Und.refl _⟩) (hy : Evd al hi (.d (.s (.int k i))) := by exact ⟨_, rfl, by (try (apply Und.gd; assumption; try (apply Und.gd; assumption; try (apply Und.gd; assumption)))); exact Und.refl _⟩) (hii : i = h := by first | rfl | omega) (hn : h ≤ n := by first | decide | omega) (hn2 : n ≤ maxLen := by decide) :
    Rd P X al bs [] (.slice T x none (some hi) none) (.d (.l rows')) := fun al2 bs2 hl hB E a W hh => by
  subst he hii
  have hv := hh.evd (hl.evd hx (by simp [Op.operands]))
  have h2 := hh.evs (hl.evd hy (by simp [Op.operands]))
  generalize hq : a.eval x = q at hv
  cases hv with
  | d hv =>
    cases hv with
    | @pe r o off' vs _ hr ho hra hrl =>
      obtain ⟨hu, f, hf, hfs⟩ := hT.get
      have hlen := hrl.len
      have hget : ∀ (j : Nat) (rw' : List D), (((row.drop off).take h).map (fun d => [d]))[j]? = some rw' → ∃ d, rw' = [d] ∧ j < h ∧ row[off + j]? = some d := by
        intro j rw' hj
        rw [List.getElem?_map] at hj
        cases hd : ((row.drop off).take h)[j]? with
        | none => rw [hd] at hj; cases hj
        | some d =>
          rw [hd] at hj
          cases hj
          have hlt : j < h := by
            have := (List.getElem?_eq_some_iff.1 hd).1
            rw [List.length_take] at this
            omega
          rw [List.getElem?_take_of_lt hlt, List.getElem?_drop] at hd
          exact ⟨d, rfl, hlt, hd⟩
      refine ⟨.slice (some ⟨r, o + off, none⟩) h n, .d (.l (m := 1) (fun j => [vs.getD (off + j) undef]) (by rw [List.length_map, List.length_take, List.length_drop]; omega) hn hn2 hr ho (fun j rw' hj => ?_) (fun j rw' hj => ?_) (fun j rw' hj => ?_)), ?_⟩
      · obtain ⟨d, rfl, _⟩ := hget j rw' hj; rfl
      · obtain ⟨d, rfl, hj1, hj2⟩ := hget j rw' hj
        obtain ⟨v, hv1, _⟩ := hrl.get _ d hj2
        intro t v' hv'
        cases t with
        | zero =>
          simp only [List.getElem?_cons_zero, Option.some.injEq] at hv'
          have := hra (off + j) v hv1
          rw [List.getD_eq_getElem?_getD, hv1] at hv'
          simp only [Option.getD_some] at hv'
          subst hv'
          rw [Nat.mul_one, Nat.add_zero, Nat.add_assoc]
          exact this
        | succ t => simp at hv'
      · obtain ⟨d, rfl, hj1, hj2⟩ := hget j rw' hj
        obtain ⟨v, hv1, hv2⟩ := hrl.get _ d hj2
        rw [List.getD_eq_getElem?_getD, hv1]
        exact .cons hv2 .nil
      · intro op ho
        have hh1 : h ≤ n := hn
        unfold execOp
        simp [ho, hq, h2, Instr.sliceAt, Instr.sureAddr, run_underlying hu, Instr.sliceBounds, Instr.sliceBound, asIntOf, sizeOf, typeInfo, hf, hfs, hh1]
        intro _
        rfl
end
end Go.Proofs.Ytohpbfcechbngaa
