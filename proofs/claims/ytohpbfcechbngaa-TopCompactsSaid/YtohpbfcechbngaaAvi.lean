/- Literals of structs: parts laid over the cells of a zero value. -/
import Derived.Test.YtohpbfcechbngaaTy
set_option linter.unusedSimpArgs false
set_option linter.unusedVariables false
namespace Go.Proofs.Ytohpbfcechbngaa
open Go.RowKit

/-! ### Literals of structs -/
def spl {α : Type} : Nat → List α → List α → List α
  | 0, [], cs => cs
  | 0, u :: us, _ :: cs => u :: spl 0 us cs
  | 0, _ :: _, [] => []
  | n + 1, us, c :: cs => c :: spl n us cs
  | _ + 1, _, [] => []
def bldC {α : Type} (pl : List (Nat × Nat)) : List α → List (Nat × List α) → Option (List α)
  | cs, [] => some cs
  | cs, (i, us) :: rest => match pl[i]? with
    | some (off, size) => if us.length = size ∧ off + us.length ≤ cs.length then bldC pl (spl off us cs) rest else none
    | none => none
theorem spl_len {α : Type} : ∀ (n : Nat) (us cs : List α), (spl n us cs).length = cs.length
  | 0, [], cs => by cases cs <;> rfl
  | 0, u :: us, c :: cs => by simp only [spl, List.length_cons, spl_len 0 us cs]
  | 0, _ :: _, [] => rfl
  | n + 1, us, c :: cs => by simp only [spl, List.length_cons, spl_len n us cs]
  | _ + 1, _, [] => rfl
theorem spl_set {α : Type} : ∀ (n : Nat) (u : α) (us cs : List α), n < cs.length → spl n (u :: us) cs = spl (n + 1) us (cs.set n u)
  | 0, u, us, c :: cs, _ => rfl
  | n + 1, u, us, c :: cs, h => by
    simp only [spl, List.set_cons_succ]
    rw [spl_set n u us cs (by simpa using h)]
  | _, _, _, [], h => by simp at h
theorem spl_nil {α : Type} : ∀ (n : Nat) (cs : List α), spl n [] cs = cs
  | 0, cs => by cases cs <;> rfl
  | n + 1, c :: cs => by simp only [spl, spl_nil n cs]
  | _ + 1, [] => rfl
theorem fold_spl : ∀ (us : List Value) (k off : Nat) (cs : Array Value), off + k + us.length ≤ cs.size → ((us.zipIdx k).foldl (fun cs p => cs.setIfInBounds (off + p.2) p.1) cs).toList = spl (off + k) us cs.toList
  | [], k, off, cs, _ => by simp [spl_nil]
  | u :: us, k, off, cs, h => by
    simp only [List.zipIdx_cons, List.foldl_cons]
    simp only [List.length_cons] at h
    rw [fold_spl us (k + 1) off _ (by simp; omega), Array.toList_setIfInBounds, spl_set _ _ _ _ (by simp; omega)]
    rfl
theorem fill_eq (pl : List (Nat × Nat)) : ∀ (parts : List (Nat × Value)) (cs : Array Value), Instr.fill (fun x => pl[x]?) cs parts = (bldC pl cs.toList (parts.map (fun p => (p.1, p.2.cells.toList)))).map List.toArray
  | [], cs => by simp [Instr.fill, bldC]
  | (i, v) :: rest, cs => by
    simp only [Instr.fill, bldC, List.map_cons, List.getElem?_toArray]
    cases pl[i]? with
    | none => rfl
    | some p =>
      obtain ⟨off, size⟩ := p
      simp only [Array.length_toList]
      by_cases h : v.cells.size = size ∧ off + v.cells.size ≤ cs.size
      · rw [if_pos h, if_neg (by simp; omega)]
        rw [fill_eq pl rest]
        have e : (Array.foldl (fun cs x => cs.setIfInBounds (off + x.2) x.1) cs v.cells.zipIdx).toList = spl off v.cells.toList cs.toList := by
          rw [← Array.foldl_toList, Array.toList_zipIdx]
          have := fold_spl v.cells.toList 0 off cs (by simpa using h.2)
          simpa using this
        rw [← e]
      · rw [if_neg h, if_pos (by simp; omega)]
        rfl
section
variable {E : Env} {dm own : Nat → Prop} {W : World}
theorem RAL.spl : ∀ (n : Nat) {us cs : List AV} {vs zs : List Value}, RAL E dm own W vs us → RAL E dm own W zs cs → RAL E dm own W (Proofs.Ytohpbfcechbngaa.spl n vs zs) (Proofs.Ytohpbfcechbngaa.spl n us cs)
  | 0, _, _, _, _, .nil, h => by rw [spl_nil, spl_nil]; exact h
  | 0, _, _, _, _, .cons _ _, .nil => .nil
  | 0, _, _, _, _, .cons h t, .cons _ t' => .cons h (RAL.spl 0 t t')
  | n + 1, [], _, _, _, .nil, .nil => .nil
  | n + 1, _ :: _, _, _, _, .cons _ _, .nil => .nil
  | n + 1, _, _, _, _, h, .cons h' t' => .cons h' (RAL.spl n h t')
/-- Parts, value by value. -/
inductive PaL (E : Env) (dm own : Nat → Prop) (W : World) : List (Nat × Value) → List (Nat × List AV) → Prop
  | nil : PaL E dm own W [] []
  | cons {i : Nat} {v : Value} {us : List AV} {ps : List (Nat × Value)} {qs : List (Nat × List AV)} (h : RAL E dm own W v.cells.toList us) (t : PaL E dm own W ps qs) : PaL E dm own W ((i, v) :: ps) ((i, us) :: qs)
theorem PaL.bld {pl : List (Nat × Nat)} : ∀ {ps : List (Nat × Value)} {qs : List (Nat × List AV)} {zs : List Value} {cs cs' : List AV}, PaL E dm own W ps qs → RAL E dm own W zs cs → bldC pl cs qs = some cs' → ∃ zs', bldC pl zs (ps.map (fun p => (p.1, p.2.cells.toList))) = some zs' ∧ RAL E dm own W zs' cs'
  | [], _, zs, cs, cs', .nil, h, e => by
    simp only [bldC, Option.some.injEq] at e
    subst e
    exact ⟨zs, rfl, h⟩
  | (i, v) :: ps, _, zs, cs, cs', .cons (us := us) hv t, h, e => by
    simp only [bldC, List.map_cons] at e ⊢
    cases hp : pl[i]? with
    | none => rw [hp] at e; cases e
    | some p =>
      obtain ⟨off, size⟩ := p
      rw [hp] at e
      dsimp only at e ⊢
      have h1 := hv.len
      have h2 := h.len
      split at e
      · rename_i hc
        rw [if_pos (by rw [h1, h2]; exact hc)]
        exact PaL.bld t (RAL.spl off hv h) e
      · cases e
end
section
variable {P : Program} {a : Act} {W : World} {X : Cx} {al : List (Nat × AV)} {bs : Bs} {T : TypeId}
theorem run_places {fs : List Field} {g : Field → Nat} (hg : ∀ f ∈ fs, (P.info? f.type).map (fun i => i.size) = some (g f)) : (fs.mapM (fun f => (do pure (f.offset, ← sizeOf f.type) : Sem (Nat × Nat)))).run P W = .ok (fs.map (fun f => (f.offset, g f))) W := by
  induction fs with
  | nil => simp
  | cons f fs ih =>
    have h1 := hg f (List.mem_cons_self ..)
    cases hi : P.info? f.type with
    | none => rw [hi] at h1; cases h1
    | some inf =>
      rw [hi] at h1
      simp only [Option.map_some, Option.some.injEq] at h1
      have hs : (do pure (f.offset, ← sizeOf f.type) : Sem (Nat × Nat)).run P W = .ok (f.offset, g f) W := by
        simp [sizeOf, typeInfo, hi, h1]
      have ih' := ih (fun f' hf => hg f' (List.mem_cons_of_mem _ hf))
      rw [List.mapM_cons, Sem.run_bind, hs]
      simp only [Result.andThen]
      rw [Sem.run_bind, ih']
      simp
/-- The parts' operands. -/
inductive EvP (al : List (Nat × AV)) : List (Nat × Operand) → List (Nat × List AV) → Prop
  | nil : EvP al [] []
  | cons {i : Nat} {x : Operand} {u : AV} {us : List AV} {xs : List (Nat × Operand)} {qs : List (Nat × List AV)} (h : Evd al x u) (hu : u.cells = us) (hc : us.all AV.cell = true) (t : EvP al xs qs) : EvP al ((i, x) :: xs) ((i, us) :: qs)
theorem EvP.cs {i : Nat} {x : Operand} {ds : List D} {xs : List (Nat × Operand)} {qs : List (Nat × List AV)} (h : Evd al x (.d (.st ds))) (hc : ds.all D.cell = true) (t : EvP al xs qs) : EvP al ((i, x) :: xs) ((i, ds.map .d) :: qs) := .cons h rfl (by rw [List.all_map]; exact hc) t
theorem EvP.cA {i : Nat} {x : Operand} {cs : List AV} {xs : List (Nat × Operand)} {qs : List (Nat × List AV)} (h : Evd al x (.st cs)) (hc : cs.all AV.cell = true) (t : EvP al xs qs) : EvP al ((i, x) :: xs) ((i, cs) :: qs) := .cons h rfl hc t
theorem EvP.one {i : Nat} {x : Operand} {u : AV} {xs : List (Nat × Operand)} {qs : List (Nat × List AV)} (h : Evd al x u) (h1 : u.cells = [u]) (hc : u.cell = true) (t : EvP al xs qs) : EvP al ((i, x) :: xs) ((i, [u]) :: qs) := .cons h h1 (by rw [List.all_cons, List.all_nil, Bool.and_true]; exact hc) t
theorem EvP.pal {E : Env} (h : HdE P X al bs E a W) : ∀ {xs : List (Nat × Operand)} {qs : List (Nat × List AV)}, EvP al xs qs → PaL E (dom bs) (ownS E X.o bs) W (xs.map (fun p => (p.1, a.eval p.2))) qs
  | [], _, .nil => .nil
  | (i, x) :: xs, _, .cons hx hu hc t => .cons (by subst hu; exact ((h.evd hx).cellsOf hc).1) (EvP.pal h t)
theorem EvP.loc {op : Op} {al2 : List (Nat × AV)} (hL : Loc op al al2) : ∀ {xs : List (Nat × Operand)} {qs : List (Nat × List AV)}, (∀ p ∈ xs, p.2 ∈ op.operands.toList) → EvP al xs qs → EvP al2 xs qs
  | [], _, _, .nil => .nil
  | (i, x) :: xs, _, hm, .cons h hu hc t => .cons (hL.evd h (hm (i, x) (List.mem_cons_self ..))) hu hc (EvP.loc hL (fun p hp => hm p (List.mem_cons_of_mem _ hp)) t)
theorem Rd.bldA {zs : List Value} {pl : List (Nat × Nat)} {parts : List (Nat × Operand)} {qs : List (Nat × List AV)} {cs : List AV} [hT : TBd P T zs pl] (hp : EvP al parts qs) (hb : bldC pl (zs.map (fun v => AV.d (.s v))) qs = some cs) : Rd P X al bs [] (.build T parts.toArray) (.st cs) := fun al2 bs2 hl hB E a W h => by
  have hpa := (EvP.loc hl (fun p hp => by simp [Op.operands]; exact ⟨_, hp⟩) hp).pal h
  obtain ⟨zs', h1, h2⟩ := hpa.bld (RAL.zeros hT.c) hb
  refine ⟨_, .st h2, ?_⟩
  intro op ho
  have hz := hT.z
  cases hi : P.info? T with
  | none => rw [hi] at hz; cases hz
  | some inf =>
    rw [hi] at hz
    simp only [Option.bind_some] at hz
    have hpl := hT.p
    unfold tbd at hpl
    split at hpl
    · rename_i fs hu
      simp only [Option.some.injEq] at hpl
      have hlen : fs.toList.length = pl.length := by
        have := congrArg List.length hpl
        simpa using this
      have hrun : (fs.mapM (fun f => (do pure (f.offset, ← sizeOf f.type) : Sem (Nat × Nat)))).run P W = .ok pl.toArray W := by
        rw [Array.mapM_eq_mapM_toList]
        have hg : ∀ f ∈ fs.toList, (P.info? f.type).map (fun i => i.size) = some (((P.info? f.type).map (fun i => i.size)).getD 0) := by
          intro f hf
          have : (f.offset, (P.info? f.type).map (fun i => i.size)) ∈ fs.toList.map (fun f => (f.offset, (P.info? f.type).map (fun i => i.size))) := List.mem_map_of_mem hf
          rw [hpl] at this
          obtain ⟨p, _, hp⟩ := List.mem_map.1 this
          have := congrArg Prod.snd hp
          dsimp only at this
          rw [← this]
          rfl
        have e : fs.toList.map (fun f => (f.offset, ((P.info? f.type).map (fun i => i.size)).getD 0)) = pl := by
          have := congrArg (List.map (fun p : Nat × Option Nat => (p.1, p.2.getD 0))) hpl
          simpa [Function.comp_def] using this
        have := run_places (P := P) (W := W) hg
        rw [e] at this
        rw [Sem.run_map, this]
        rfl
      unfold execOp
      have hparts : (List.map (fun (p : Nat × Operand) => (p.1, a.eval p.2)) parts) = List.map (fun p => (p.1, a.eval p.2)) parts := rfl
      simp only [bind_pure_comp] at hrun
      simp only [ho, Instr.build, zeroValue, typeInfo, Sem.run_bind]
      simp only [List.map_map, Function.comp_def] at h1
      have hc : (Value.agg zs.toArray).cells = zs.toArray := rfl
      simp [hi, hz, run_underlying hu, hrun, hc, fill_eq, h1, Function.comp_def]
    · cases hpl
/-- A literal of a struct of data. -/
theorem Rd.bld {zs : List Value} {pl : List (Nat × Nat)} {parts : List (Nat × Operand)} {qs : List (Nat × List AV)} {cs : List AV} {ds : List D} [hT : TBd P T zs pl] (hp : EvP al parts qs) (hb : bldC pl (zs.map (fun v => AV.d (.s v))) qs = some cs) (hd : Pl cs ds) : Rd P X al bs [] (.build T parts.toArray) (.d (.st ds)) := fun al2 bs2 hl hB E a W h => by
  obtain ⟨v, h1, h2⟩ := Rd.bldA (hT := hT) hp hb al2 bs2 hl hB E a W h
  refine ⟨v, ?_, h2⟩
  cases h1 with
  | st h1 =>
    rw [hd.h] at h1
    exact .d (.st h1.unmap)
end


end Go.Proofs.Ytohpbfcechbngaa
