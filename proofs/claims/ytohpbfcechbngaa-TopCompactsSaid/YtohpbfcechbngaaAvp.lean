/- Arrays of cells: literals, places, elements. -/
import Derived.Test.YtohpbfcechbngaaAvo
set_option linter.unusedSimpArgs false
set_option linter.unusedVariables false
namespace Go.Proofs.Ytohpbfcechbngaa
open Go.RowKit

def tar (P : Program) (T : Nat) : Option (Nat × Nat) := match P.underlying T with
  | some (.array n e) => match P.info? e with
    | some i => if Nat.beq i.size 1 then some (n, e) else none
    | none => none
  | _ => none
/-- An array of n elements of one cell. -/
class TAr (P : Program) (T : TypeId) (n e : outParam Nat) (pl : outParam (List (Nat × Nat))) : Prop where
  h : tar P T = some (n, e)
  p : pl = (List.range n).map (fun i => (i, 1))
theorem TAr.get {P : Program} {T n e : Nat} {pl : List (Nat × Nat)} (i : TAr P T n e pl) : P.underlying T = some (.array n e) ∧ ∃ f, P.info? e = some f ∧ f.size = 1 := by
  have h := i.h
  unfold tar at h
  split at h
  · rename_i n' e' hu
    split at h
    · rename_i f hf
      split at h
      · rename_i hs
        simp only [Option.some.injEq, Prod.mk.injEq] at h
        obtain ⟨rfl, rfl⟩ := h
        exact ⟨hu, f, hf, Nat.eq_of_beq_eq_true hs⟩
      · cases h
    · cases h
  · cases h
theorem fill_mono {f g : Nat → Option (Nat × Nat)} (hfg : ∀ i p, f i = some p → g i = some p) : ∀ (parts : List (Nat × Value)) (cs r : Array Value), Instr.fill f cs parts = some r → Instr.fill g cs parts = some r
  | [], cs, r, h => by simpa [Instr.fill] using h
  | (i, v) :: rest, cs, r, h => by
    simp only [Instr.fill] at h ⊢
    cases hf : f i with
    | none => rw [hf] at h; cases h
    | some p =>
      rw [hf] at h
      rw [hfg i p hf]
      obtain ⟨off, size⟩ := p
      dsimp only at h ⊢
      split at h
      · cases h
      · rename_i hc
        rw [if_neg hc]
        exact fill_mono hfg rest _ r h
section
variable {P : Program} {a : Act} {W : World} {X : Cx} {al : List (Nat × AV)} {bs : Bs} {T : TypeId} {n e : Nat} {pl : List (Nat × Nat)}
theorem Rd.bldN {s : Nat} {zs : List AV} {parts : List (Nat × Operand)} {qs : List (Nat × List AV)} {cs : List AV} {ds : List D} [hT : TAr P T n e pl] [hZ : TZc P T s zs] (hp : EvP al parts qs) (hb : bldC pl zs qs = some cs) (hd : Pl cs ds) : Rd P X al bs [] (.build T parts.toArray) (.d (.st ds)) := fun al2 bs2 hl hB E a W h => by
  obtain ⟨inf, z, vs, hi, hz, hzc, _, _, hvc, hzs⟩ := hZ.h
  subst hzs
  have hpa := (EvP.loc hl (fun p hp => by simp [Op.operands]; exact ⟨_, hp⟩) hp).pal h
  obtain ⟨zs', h1, h2⟩ := hpa.bld (RAL.zeros hvc) hb
  refine ⟨.agg zs'.toArray, .d (.st ?_), ?_⟩
  · rw [hd.h] at h2
    exact h2.unmap
  · intro op ho
    obtain ⟨hu, f, hf, hfs⟩ := hT.get
    have hfe := fill_eq pl (parts.map (fun p => (p.1, a.eval p.2))) vs.toArray
    simp only [List.map_map, Function.comp_def] at h1 hfe
    rw [h1] at hfe
    have hg := fill_mono (f := fun x => pl[x]?) (g := fun i => some (i * 1, 1)) (fun i p hp => by
      rw [hT.p, List.getElem?_map] at hp
      cases hr : (List.range n)[i]? with
      | none => rw [hr] at hp; cases hp
      | some j =>
        rw [hr] at hp
        simp only [Option.map_some, Option.some.injEq] at hp
        subst hp
        rw [List.getElem?_range (by have := (List.getElem?_eq_some_iff.1 hr).1; simpa using this)] at hr
        cases hr
        simp) _ _ _ hfe
    unfold execOp
    simp [ho, Instr.build, zeroValue, typeInfo, hi, hz, hzc, run_underlying hu, sizeOf, hf, hfs, hg, Function.comp_def] at hg ⊢
    simp [hg]
theorem yl_ixN {x y : Operand} {b o : Nat} {k : IntKind} {i : Int} (hT : TAr P T n e pl) (hx : a.eval x = .pointer (some ⟨b, o, none⟩)) (hy : a.eval y = .int k i) (h0 : 0 ≤ i) (h1 : i < n) : Yld P a W (.indexAddr T x y) (.pointer (some ⟨b, o + i.toNat, none⟩)) := by
  intro op ho
  obtain ⟨hu, f, hf, hfs⟩ := hT.get
  unfold execOp
  simp [ho, hx, hy, Instr.indexAt, Instr.sureAddr, asIntOf, run_underlying hu, sizeOf, typeInfo, hf, hfs, h0, h1, Addr.add_mid]
/-- An element's place. -/
theorem Rd.ixN {k : IntKind} {i : Int} {x : Operand} {b off o' : Nat} [hT : TAr P T n e pl] (hx : Evd al x (.p b off)) (h : decide (0 ≤ i) && decide (i < n) = true) (ho : off + i.toNat = o') : Rd P X al bs [] (.indexAddr T x (.const (.int k i))) (.p b o') := fun al2 bs2 hl hB E a W hh => by
  subst ho
  simp only [Bool.and_eq_true, decide_eq_true_eq] at h
  have hv := hh.evd (hl.evd hx (by simp [Op.operands, Call.operands]))
  generalize hq : a.eval x = q at hv
  cases hv with
  | p hb' hn => exact ⟨_, .p hb' hn, yl_ixN hT hq rfl h.1 h.2⟩
/-- An element. -/
theorem Rd.elN {k : IntKind} {i : Int} {x : Operand} {ds : List D} {d : D} [hT : TAr P T n e pl] [hS : TSc P e] (hx : Evd al x (.d (.st ds))) (h : decide (0 ≤ i) && decide (i < n) = true) (hd : ds[i.toNat]? = some d) : Rd P X al bs [] (.index T x (.const (.int k i))) (.d d) := fun al2 bs2 hl hB E a W hh => by
  simp only [Bool.and_eq_true, decide_eq_true_eq] at h
  have hv := hh.evd (hl.evd hx (by simp [Op.operands, Call.operands]))
  generalize hq : a.eval x = q at hv
  cases hv with
  | d h' =>
    cases h' with
    | st h2 =>
      obtain ⟨v, h3, h4⟩ := h2.get _ d hd
      refine ⟨v, .d h4, ?_⟩
      intro op ho
      obtain ⟨hu, f, hf, hfs⟩ := hT.get
      obtain ⟨td, hu2, hd2⟩ := hS.get
      have hq2 : (isAgg e).run P W = .ok false W := isAgg_false hu2 hd2
      have hy : a.eval (.const (.int k i)) = .int k i := rfl
      unfold execOp
      simp [ho, hq, hy, Instr.index, asIntOf, run_underlying hu, sizeOf, typeInfo, hf, hfs, h.1, h.2, Go.part, hq2, h3]
variable {d : Nat}
theorem LT.arB {s : Nat} {zs : List AV} {parts : List (Nat × Operand)} {qs : List (Nat × List AV)} {cs : List AV} {ds : List D} [hT : TAr P T n e pl] [hZ : TZc P T s zs] (hp : EvP al parts qs := by repeat (first | exact EvP.nil | (apply EvP.cs; exact ⟨_, rfl, by (try (apply Und.gd; assumption; try (apply Und.gd; assumption; try (apply Und.gd; assumption)))); exact Und.refl _⟩; exact rfl) | (apply EvP.cA; exact ⟨_, rfl, by (try (apply Und.gd; assumption; try (apply Und.gd; assumption; try (apply Und.gd; assumption)))); exact Und.refl _⟩; exact rfl) | (apply EvP.one; exact ⟨_, rfl, by (try (apply Und.gd; assumption; try (apply Und.gd; assumption; try (apply Und.gd; assumption)))); exact Und.refl _⟩; exact rfl; exact rfl))) (hb : bldC pl zs qs = some cs := by simp only [go_sem, bldC, spl, List.map_cons, List.map_nil, List.length_cons, List.length_nil, List.getElem?_cons_zero, List.getElem?_cons_succ, Nat.zero_add, Nat.add_zero, Nat.reduceAdd, Nat.reduceLeDiff, Nat.reduceLT, Nat.reduceEqDiff, and_self, true_and, and_true, if_true, ite_true, Nat.le_refl] <;> rfl) (hd : Pl cs ds := by first | infer_instance | fail) (hdd : Nat.blt d X.N = true := by rfl) : LT P X al bs (.build T parts.toArray) (some d) [] [(d, .d (.st ds))] [] := LT.rd (Rd.bldN hp hb hd) hdd
theorem LT.arI {k : IntKind} {i : Int} {x : Operand} {b off o' : Nat} [hT : TAr P T n e pl] (hx : Evd al x (.p b off) := by exact ⟨_, rfl, by (try (apply Und.gd; assumption; try (apply Und.gd; assumption; try (apply Und.gd; assumption)))); exact Und.refl _⟩) (h : decide (0 ≤ i) && decide (i < n) = true := by rfl) (ho : off + i.toNat = o' := by first | (simp only [Int.reduceToNat, Nat.zero_add, Nat.reduceAdd] <;> rfl) | rfl) (hdd : Nat.blt d X.N = true := by rfl) : LT P X al bs (.indexAddr T x (.const (.int k i))) (some d) [] [(d, .p b o')] [] := LT.rd (Rd.ixN hx h ho) hdd
theorem LT.arE {k : IntKind} {i : Int} {x : Operand} {ds : List D} {y : D} [hT : TAr P T n e pl] [hS : TSc P e] (hx : Evd al x (.d (.st ds)) := by exact ⟨_, rfl, by (try (apply Und.gd; assumption; try (apply Und.gd; assumption; try (apply Und.gd; assumption)))); exact Und.refl _⟩) (h : decide (0 ≤ i) && decide (i < n) = true := by rfl) (hd : ds[i.toNat]? = some y := by rfl) (hdd : Nat.blt d X.N = true := by rfl) : LT P X al bs (.index T x (.const (.int k i))) (some d) [] [(d, .d y)] [] := LT.rd (Rd.elN hx h hd) hdd
end
end Go.Proofs.Ytohpbfcechbngaa
