/- The walk's rules for calls that may write, function values, frozen variables, other numbers. -/
import Derived.Test.YtohpbfcechbngaaAvk
set_option linter.unusedSimpArgs false
set_option linter.unusedVariables false
namespace Go.Proofs.Ytohpbfcechbngaa
open Go.RowKit

section
variable {P : Program} {ro : Option Nat} {X : Cx} {al al' : List (Nat × AV)} {bs bsC bs' bsF bs2 : Bs} {E : Env} {a : Act} {W : World} {fv x : AV} {xs : List AV} {C : Cx → Prop}
/-! ### Function values, nil checks -/
theorem Rd.mkf {K : Nat} {caps : List Operand} {cs : List AV} {ds : List D} (he : EvL al caps cs) [hp : Pl cs ds] : Rd P X al bs [] (.makeFunc (.func K) #[] caps.toArray) (.d (.fn K ds)) := fun al2 bs2 hl hB E a W h => by
  have hr := h.evsOk (EvL.loc hl (fun x hx => by simp [Op.operands, hx]) he)
  rw [hp.h] at hr
  refine ⟨_, .d (.fn hr.unmap), fun o ho => ?_⟩
  unfold execOp
  simp [ho, Instr.makeFunc]
theorem Rd.mkfA {K : Nat} {caps : List Operand} {cs : List AV} (he : EvL al caps cs) : Rd P X al bs [] (.makeFunc (.func K) #[] caps.toArray) (.fn K cs) := fun al2 bs2 hl hB E a W h => by
  have hr := h.evsOk (EvL.loc hl (fun x hx => by simp [Op.operands, hx]) he)
  refine ⟨_, .fn hr, fun o ho => ?_⟩
  unfold execOp
  simp [ho, Instr.makeFunc]
theorem Rd.nckP {y : Operand} {b off : Nat} (hx : Evd al y (.p b off)) : Rd P X al bs [] (.nilCheck y) (.p b off) := fun al2 bs2 hl hB E a W h => by
  have hv := h.evd (hl.evd hx (by simp [Op.operands]))
  generalize hq : a.eval y = q at hv
  cases hv with
  | p hb hn => exact ⟨_, .p hb hn, fun o ho => by unfold execOp; simp [ho, hq]⟩
theorem Rd.nckE {y : Operand} {row : List D} {off : Nat} (hx : Evd al y (.e row off)) : Rd P X al bs [] (.nilCheck y) (.e row off) := fun al2 bs2 hl hB E a W h => by
  have hv := h.evd (hl.evd hx (by simp [Op.operands]))
  generalize hq : a.eval y = q at hv
  cases hv with
  | d hv =>
    cases hv with
    | pe h1 h2 h3 h4 => exact ⟨_, .d (.pe h1 h2 h3 h4), fun o ho => by unfold execOp; simp [ho, hq]⟩

/-! ### Slots and blocks told otherwise -/
/-- A variable that is not changed any more is data. -/
theorem HdE.pdata (h : HdE P X al bs E a W) {b : Nat} {T : TypeId} {ds : List D} {v : Value} {off : Nat} (hb : lk bs b = some (some (T, ds.map .d))) (hv : RA E (dom bs) (ownS E X.o bs) W v (.p b off)) : RD (ownS E X.o ((b, none) :: bs)) W v (.pe ds off) := by
  cases hv with
  | p hb' hn =>
    rcases h.bk b T _ hb with ⟨h0, h1, h2⟩ | ⟨h0, vs, sp, m', n, c', h1, h2, h3, h4, h5, h6, h7, h8⟩
    · rw [hn] at h0; cases h0
    · have hl : live E bs b := ⟨⟨_, hb⟩, h0⟩
      have ho : ∀ r, ownS E X.o ((b, none) :: bs) r → ownS E X.o bs r := by
        rintro r (ho | ⟨b', hl, rfl⟩)
        · exact .inl ho
        · exact .inr ⟨b', (live_none hl).1, rfl⟩
      have kk : Keeps (ownS E X.o bs) (ownS E X.o ((b, none) :: bs)) W W := .of (fun r _ _ => rfl) (Nat.le_refl _) (fun r _ h => ho r h)
      have := RD.pe (own := ownS E X.o ((b, none) :: bs)) (W := W) (r := E.A b) (o := 0) (off := off) (vs := vs) (row := ds) h1.lt ?_ (h1.rangeIn 0 vs (fun j hj => by rw [Nat.zero_add, List.getElem?_append_left hj])) (h2.unmap.keeps kk)
      · rw [Nat.zero_add] at this
        exact this
      · rintro (hh | ⟨b', hl', he⟩)
        · have h6 := h.o0 _ hh
          rcases h.lo b hl with h7 | h7
          · omega
          · exact h6.2 h7
        · exact (live_none hl').2 (h.nd b' b (live_none hl').1 hl he)
theorem G.frzP {c : Act → World → Prop} {b : Nat} {T : TypeId} {ds : List D} (n : Nat) (h : G P X ((n, .d (.pe ds 0)) :: al) ((b, none) :: bs) c) (hx : lk al n = some (.p b 0) := by rfl) (hb : lk bs b = some (some (T, ds.map .d)) := by rfl) : G P X al bs c := fun E a W hh => by
  obtain ⟨v, e1, e2⟩ := hh.sl n _ hx
  exact G.slots (al' := al) (hh.drop b) e1 (.d (hh.pdata hb e2)) h
/-- Other numbers. -/
theorem G.ren {c : Act → World → Prop} (π : List (Nat × Nat)) (h : G P X al' bs' c) (hs : SubR π al al') (hb : BsR bs π π bs') (hd : (π.map (·.2)).Nodup) (hk : X.k.all (fun b => (lk bs' b).isSome && Nat.beq ((lk π b).getD 0) b) = true) : G P X al bs c := fun E a W hh => h _ a W (hh.ren π hs hb hd hk)
/-- Fewer blocks, fewer slots. -/
def SubA (p : Nat → Bool) (al : List (Nat × AV)) : List (Nat × AV) → Prop
  | [] => True
  | (n, x) :: l => (lk al n = some x ∧ x.nums p = true) ∧ SubA p al l
theorem SubA.get {p : Nat → Bool} : ∀ {al' : List (Nat × AV)}, SubA p al al' → ∀ {n : Nat} {x : AV}, lk al' n = some x → lk al n = some x ∧ x.nums p = true
  | [], _, n, x, h => by simp [lk] at h
  | (m, y) :: l, ⟨h1, h2⟩, n, x, h => by
    rw [lk_cons] at h
    split at h
    · rename_i he
      subst he
      simp only [Option.some.injEq] at h
      subst h
      exact h1
    · exact SubA.get h2 h
theorem HB.res (h : HB P X bs E W) (hs : SubB bs bs') (hcl : ClB (inB bs') bs') (hk : X.k.all (inB bs') = true) : HB P X bs' E W ∧ (∀ v y, RA E (dom bs) (ownS E X.o bs) W v y → y.nums (inB bs') = true → RA E (dom bs') (ownS E X.o bs') W v y) := by
  have hl : ∀ b, live E bs' b → live E bs b := fun b ⟨⟨q, h1⟩, h2⟩ => ⟨⟨q, hs.get h1⟩, h2⟩
  have ho : ∀ r, ownS E X.o bs' r → ownS E X.o bs r := by
    rintro r (h1 | ⟨b, h1, rfl⟩)
    · exact .inl h1
    · exact .inr ⟨b, hl b h1, rfl⟩
  have k : Keeps (ownS E X.o bs) (ownS E X.o bs') W W := .of (fun _ _ _ => rfl) (Nat.le_refl _) (fun r _ h => ho r h)
  refine ⟨⟨h.ext, h.o0, ⟨fun b hb => inB_iff.1 (List.all_eq_true.1 hk b hb), h.en.A, h.en.V, h.en.nl⟩, fun b T cs hb => ?_, fun b hb => h.lo b (hl b hb), fun b b' h1 h2 => h.nd b b' (hl b h1) (hl b' h2)⟩, fun v y hr hy => (hr.nums (dm' := dom bs') (fun b _ hb => inB_iff.1 hb) hy).keeps k (Env.le.refl _ _) (fun _ h => h)⟩
  refine (h.bk b T cs (hs.get hb)).turn rfl rfl rfl (fun _ => rfl) (fun vs hr => ?_)
  exact (hr.nums (dm' := dom bs') (fun b _ hb => inB_iff.1 hb) (hcl.get hb)).keeps k (Env.le.refl _ _) (fun _ h => h)
theorem HdE.res (h : HdE P X al bs E a W) (hs : SubB bs bs') (hcl : ClB (inB bs') bs') (hk : X.k.all (inB bs') = true) (ha : SubA (inB bs') al al') : HdE P X al' bs' E a W := by
  obtain ⟨h1, h2⟩ := h.hb.res hs hcl hk
  exact h1.hd h.df h.sz (fun n x hn => let ⟨g1, g2⟩ := ha.get hn; let ⟨v, e1, e2⟩ := h.sl n x g1; ⟨v, e1, h2 v x e2 g2⟩)
theorem G.res {c : Act → World → Prop} (h : G P X al' bs' c) (hs : SubB bs bs') (hcl : ClB (inB bs') bs') (hk : X.k.all (inB bs') = true) (ha : SubA (inB bs') al al') : G P X al bs c := fun E a W hh => h E a W (hh.res hs hcl hk ha)
/-- At the end of a loop's round: the state is a member of the family, with fewer words. -/
theorem G.atR {α : Type} {I : α → List (Nat × AV) × Bs} {Φ : α → Prop} (z : α) (hΦ : Φ z) (hs : SubB bs (I z).2) (hcl : ClB (inB (I z).2) (I z).2) (hk : X.k.all (inB (I z).2) = true) (ha : SubA (inB (I z).2) al (I z).1) : G P X al bs (At P X I Φ) := fun E a W hh => ⟨z, E, hΦ, hh.res hs hcl hk ha⟩

/-! ### Calls -/
theorem HdE.cv {ops : Array Oper} {args : List Operand} {ats : Array TypeId} {y : Operand} {Q : Exit → Act → World → Prop} {d : Nat} (hh : HdE P X al bs E a W) (hf : FvB P C fv xs bsC x bs') (hC : C (subx X bs bsC E W)) (hfx : Evd al y fv) (hax : EvL al args xs) (hnf : fv.nums (inB bsC) = true) (hna : AV.numsL (inB bsC) xs = true) (hs : SubB bs bsC) (hcl : ClB (inB bsC) bsC) (hdm : bs'.map (·.1) = bsC.map (·.1)) (hF : FkB bs bsF) (hA : Fk al al') (hk : X.k.all kn = true)
    (o : Oper) (ho : o.op = .call { callee := .value y, args := args.toArray, argTypes := ats }) (hdst : o.dst = some d) (hd : Nat.blt d X.N = true) (K : Act → World → Prop) (hK : ∀ E' a' W', HdE P X ((d, x) :: al') (bs' ++ bsF) E' a' W' → K a' W') : WO P ro o a W K Q := by
  refine WO.of (by rw [ho]; intro c h; cases h) ?_
  have hent := hh.hb.enter hs hcl
  have ho' : ∀ r, ownS E (subx X bs bsC E W).o bsC r → ownS E X.o bs r := by
    rintro r (h1 | ⟨b, ⟨⟨q, h1⟩, h2⟩, rfl⟩)
    · exact h1.1
    · exact .inr ⟨b, ⟨⟨q, hs.get h1⟩, h2⟩, rfl⟩
  have k0 : Keeps (ownS E X.o bs) (ownS E (subx X bs bsC E W).o bsC) W W := .of (fun _ _ _ => rfl) (Nat.le_refl _) (fun r _ h => ho' r h)
  have hrf := ((hh.evd hfx).nums (dm' := dom bsC) (fun b _ hb => inB_iff.1 hb) hnf).keeps k0 (Env.le.refl _ _) (fun _ h => h)
  have hra := ((hh.evsOk hax).nums (dm' := dom bsC) (fun b _ hb => inB_iff.1 hb) hna).keeps k0 (Env.le.refl _ _) (fun _ h => h)
  have hcall := hf (subx X bs bsC E W) (a.eval y) (args.map a.eval) hC rfl hent hrf hra
  have key : ∀ {e : Ending} {W' : World}, Left P (subx X bs bsC E W) x bs' e W' → ∃ u, e = .returned u ∧ K (a.put (some d) u) W' := by
    rintro e W' ⟨u, E', rfl, h1, h2⟩
    obtain ⟨g1, g2, g3, g4, g5⟩ := hh.hb.back hs hdm h1 hF hk
    refine ⟨u, rfl, hK _ _ W' (HdE.put (g1.hd (al := al') (a := a) ?_ hh.sz (fun n z hn => ?_)) (g2 u x h2) (by simpa using hd))⟩
    · obtain ⟨Ds, d1, d2, d3⟩ := hh.df
      exact ⟨Ds, d1, d2, fun D hD => ⟨(d3 D hD).1, g5 _ _ (d3 D hD).2 rfl⟩⟩
    · obtain ⟨z', hz1, hz2⟩ := hA.get hn
      obtain ⟨v, hv1, hv2⟩ := hh.sl n z' hz1
      rcases hz2 with rfl | ⟨rfl, hz3⟩
      · exact ⟨v, hv1, .any⟩
      · exact ⟨v, hv1, g3 v z hv2 hz3⟩
  unfold execOp
  simp only [ho]
  rcases hcall with ⟨K', caps, hq, hbd, hcalls⟩ | ⟨l, hq, fn, tmps, asg, body, hy, hR⟩
  · have hrun : (do let dd ← resolve a.eval { callee := .value y, args := args.toArray, argTypes := ats } o.type; invoke dd.target dd.args : Sem Next).run P W = .ok (.enter K' ((args.map a.eval).toArray ++ caps)) W := by
      simp [resolve, Deferred.ofValue, hq, invoke, callFunc_enter hbd]
    rw [hrun, Oper.uponIn_enter]
    refine ⟨(fun hq => by cases hq), (callsIn_wide (n := 0)).2 (hcalls.mono fun e W' hl => ?_)⟩
    obtain ⟨u, rfl, hu⟩ := key hl
    dsimp only
    rw [hdst]
    exact hu
  · have hrun : (do let dd ← resolve a.eval { callee := .value y, args := args.toArray, argTypes := ats } o.type; invoke dd.target dd.args : Sem Next).run P W = .ok (.round l fn tmps asg body) W := by
      have hy' : (Instr.yield l (args.map a.eval).toArray).run P W = .ok (.round l fn tmps asg body) W := hy
      simp [resolve, Deferred.ofValue, hq, invoke]
      exact hy'
    rw [hrun, Oper.uponIn_round]
    refine ⟨(fun hq => by cases hq), ⟨trivial, fun c cs hr => ?_⟩⟩
    obtain ⟨e, W', hl, hs⟩ := hR.2 c cs hr
    refine ⟨e, W', ?_, hs⟩
    obtain ⟨u, rfl, hu⟩ := key hl
    dsimp only
    rw [hdst]
    exact hu
section
variable {ops : Array Oper} {Q : Exit → Act → World → Prop} {rest : List Oper} {d ty : Nat} {ps : String} {af : Array Edge} {args : List Operand} {ats : Array TypeId} {y : Operand}
theorem G.cvC (hf : FvB P C fv xs bsC x bs') (hCc : Cc C) (hC : C X) (h : G P X ((d, x) :: al') bs2 (WL P ro ops Q rest)) (hfx : Evd al y fv) (hax : EvL al args xs) (hs : SubB bs bsC) (hcl : ClB (inB bsC) bsC) (hF : FkB bs bsF) (hA : Fk al al') (hb2 : bs' ++ bsF = bs2) (hnf : fv.nums (inB bsC) = true) (hna : AV.numsL (inB bsC) xs = true) (hdm : bs'.map (·.1) = bsC.map (·.1)) (hk : X.k.all (fun b => kn b && (!(Nat.ble 100 b) || inB bsC b)) = true) (hd : Nat.blt d X.N = true) :
    G P X al bs (WL P ro ops Q ({ dst := some d, op := .call { callee := .value y, args := args.toArray, argTypes := ats }, type := ty, pos := ps, after := af, guard := none } :: rest)) := fun E a W hh => by
  subst hb2
  have hk1 : X.k.all kn = true := by
    rw [List.all_eq_true] at hk ⊢
    intro b hb
    have := hk b hb
    simp only [Bool.and_eq_true] at this
    exact this.1
  refine WL.plain rfl (fun K hK => hh.cv (ops := ops) hf ?_ hfx hax hnf hna hs hcl hdm hF hA hk1 _ rfl rfl hd K (fun E' a' W' h' => hK _ _ (h E' a' W' h')))
  refine hCc.sub P X _ bs E W hC hh.hb ⟨rfl, rfl, fun r ⟨b, h1, h2⟩ => ?_, fun r hr => hr.1, fun b hb h1 => ?_⟩
  · obtain ⟨⟨q, h3⟩, h4⟩ := h1
    exact ⟨b, ⟨⟨q, hs.get h3⟩, h4⟩, h2⟩
  · have := List.all_eq_true.1 hk b hb
    simp only [Bool.and_eq_true, Bool.or_eq_true, Bool.not_eq_true', h1, Bool.true_eq_false, false_or] at this
    exact kns_iff.2 ⟨inB_iff.1 this.2, this.1⟩
theorem G.cv (hf : FvB P CT fv xs bsC x bs') (h : G P X ((d, x) :: al') bs2 (WL P ro ops Q rest)) (hfx : Evd al y fv) (hax : EvL al args xs) (hs : SubB bs bsC) (hcl : ClB (inB bsC) bsC) (hF : FkB bs bsF) (hA : Fk al al') (hb2 : bs' ++ bsF = bs2) (hnf : fv.nums (inB bsC) = true) (hna : AV.numsL (inB bsC) xs = true) (hdm : bs'.map (·.1) = bsC.map (·.1)) (hk : X.k.all kn = true) (hd : Nat.blt d X.N = true) :
    G P X al bs (WL P ro ops Q ({ dst := some d, op := .call { callee := .value y, args := args.toArray, argTypes := ats }, type := ty, pos := ps, after := af, guard := none } :: rest)) := fun E a W hh => by
  subst hb2
  exact WL.plain rfl (fun K hK => hh.cv (ops := ops) hf trivial hfx hax hnf hna hs hcl hdm hF hA hk _ rfl rfl hd K (fun E' a' W' h' => hK _ _ (h E' a' W' h')))
/-- A call of a function value that is data and takes data: in any region. -/
theorem LT.cd {K : Nat} {ds es : List D} {r : D} (hf : Fn P K (ds ++ es) (· = r)) (hfx : Evd al y (.d (.fn K es))) (he : EvL al args xs) (hp : Pl xs ds) (hd : Nat.blt d X.N = true) : LT P X al bs (.call { callee := .value y, args := args.toArray, argTypes := ats }) (some d) [] [(d, .d r)] [] := fun ro al2 bs2 hL hB E a W hh o ho hdst K' Q hK => by
  refine WO.of (by rw [ho]; intro c h; cases h) ?_
  have hm : ∀ z ∈ args, z ∈ (Op.call { callee := .value y, args := args.toArray, argTypes := ats }).operands.toList := fun z hz => by simp [Op.operands, Call.operands, hz]
  have hv := hh.evd (hL.evd hfx (by simp [Op.operands, Call.operands]))
  have hr := hh.evsOk (EvL.loc hL hm he)
  rw [hp.h] at hr
  generalize hq : a.eval y = q at hv
  cases hv with
  | d hv =>
    cases hv with
    | @fn _ us _ hc =>
      unfold execOp
      have hrun : (do let dd ← resolve a.eval { callee := .value y, args := args.toArray, argTypes := ats } o.type; invoke dd.target dd.args : Sem Next).run P W = .ok (.enter K ((args.map a.eval) ++ us).toArray) W := by
        simp [resolve, Deferred.ofValue, hq, invoke, callFunc_enter hf.1]
      simp only [ho]
      rw [hrun, Oper.uponIn_enter]
      refine ⟨(fun hq => by cases hq), (callsIn_wide (n := 0)).2 ((hf.2 (ownS E X.o bs2) W _ (fun r ho => hh.own_lt ho) (hr.unmap.app hc)).mono ?_)⟩
      rintro e W' ⟨v, z, rfl, rfl, hE, hv⟩
      dsimp only
      rw [hdst]
      exact hK E _ W' ((hh.grow hE).put (.d hv) (by simpa using hd))
end

/-! ### Functions that are given blocks -/
def alA : Nat → List AV → List (Nat × AV)
  | _, [] => []
  | n, x :: xs => (n, x) :: alA (n + 1) xs
theorem lk_alA {k : Nat} {x : AV} : ∀ (xs : List AV) (m : Nat), lk (alA m xs) k = some x → m ≤ k ∧ xs[k - m]? = some x
  | [], m, h => by simp [alA, lk] at h
  | y :: xs, m, h => by
    simp only [alA] at h
    rw [lk_cons] at h
    split at h
    · rename_i he
      subst he
      simp only [Option.some.injEq] at h
      subst h
      exact ⟨Nat.le_refl _, by simp⟩
    · rename_i he
      obtain ⟨h1, h2⟩ := lk_alA xs (m + 1) h
      refine ⟨by omega, ?_⟩
      rw [show k - m = (k - (m + 1)) + 1 by omega, List.getElem?_cons_succ]
      exact h2
/-- What such a function owes where it ends. -/
def finB (P : Program) (fn : Func) (X : Cx) (x : AV) (bs' : Bs) : Exit → Act → World → Prop := bodyPostM (FR none) 0 P fn (Left P X x bs')
theorem HB.cN (h : HB P X bs E W) (N : Nat) : HB P { X with N := N } bs E W := ⟨h.ext, h.o0, h.en, h.bk, h.lo, h.nd⟩
theorem HB.unN {N : Nat} (h : HB P { X with N := N } bs E W) : HB P X bs E W := ⟨h.ext, h.o0, h.en, h.bk, h.lo, h.nd⟩
theorem FnB.of {K : Nat} {fn : Func} {c : Code} {N : Nat} {ks : List Nat} (hCc : Cc C) (hf : P.funcs[K]? = some fn) (hN : fn.ntmps = N) (hb : fn.body = some c) (hn : fbody P K = true)
    (h : ∀ w o m E0, C ⟨w, o, N, m, E0, ks⟩ → G P ⟨w, o, N, m, E0, ks⟩ al bs (Wp P none c (finB P fn ⟨w, o, N, m, E0, ks⟩ x bs'))) (hl : Nat.ble xs.length N = true := by rfl) (hal : alA 0 xs = al := by simp only [alA, Nat.reduceAdd]; rfl) (hks : kns bs = ks := by rfl) : FnB P C K xs bs x bs' := by
  subst hN
  subst hal
  subst hks
  simp only [Nat.ble_eq] at hl
  refine ⟨hn, fun X vs hC hk hh hv => ?_⟩
  have hlen := hv.len
  have h0 := h X.w X.o X.m X.E0 (by have := hCc.N X fn.ntmps hC; rw [← hk]; exact this)
  have hX : ({ X with N := fn.ntmps } : Cx) = ⟨X.w, X.o, fn.ntmps, X.m, X.E0, kns bs⟩ := by rw [← hk]
  rw [← hX] at h0
  refine Calls.mono (R := Left P { X with N := fn.ntmps } x bs') ((callsIn_wide (n := 0)).1 (callsIn_of_wp_marks (F := FR none) hf hb trivial ?_)) (fun e W' ⟨u, E', h1, h2, h3⟩ => ⟨u, E', h1, h2.unN, h3⟩)
  refine h0 X.E0 _ X.w ((hh.cN fn.ntmps).hd (.nil rfl) ?_ (fun n y hy => ?_))
  · simp only [Array.size_append, List.size_toArray, Array.size_replicate]
    omega
  · obtain ⟨_, h1⟩ := lk_alA xs 0 hy
    rw [Nat.sub_zero] at h1
    obtain ⟨v, h2, h3⟩ := hv.get _ y h1
    refine ⟨v, ?_, h3⟩
    have h4 := (List.getElem?_eq_some_iff.1 h2).1
    rw [Array.getElem?_append_left (by simpa using h4)]
    simpa using h2
section
variable {fn : Func}
theorem G.finB0 (hr : fn.results = #[]) (hs : SubB bs bs') (hcl : ClB (inB bs') bs') (hk : X.k.all (inB bs') = true) : G P X al bs (finB P fn X .any bs' .ret) := fun E a W hh => hh.leave fun a' W' _ hh => by
  refine ⟨.tuple #[], ?_, _, E, rfl, (hh.hb.res hs hcl hk).1, .any⟩
  simp [results_rdv, hr]
theorem G.finB1 {n : Nat} (hx : lk al n = some x) (hr : fn.results = #[.tmp n]) (hn : x.nums (inB bs') = true) (hs : SubB bs bs') (hcl : ClB (inB bs') bs') (hk : X.k.all (inB bs') = true) : G P X al bs (finB P fn X x bs' .ret) := fun E a W hh => hh.leave fun a' W' _ hh => by
  obtain ⟨v, h1, h2⟩ := hh.sl n x hx
  obtain ⟨h3, h4⟩ := hh.hb.res hs hcl hk
  refine ⟨v, ?_, _, E, rfl, h3, h4 v x h2 hn⟩
  have : a'.tmps.getD n undef = v := by rw [Array.getD_eq_getD_getElem?, h1]; rfl
  simp [results_rdv, hr, rdv, this]
theorem G.finB2 {n m : Nat} {y : AV} (hx : lk al n = some x) (hy : lk al m = some y) (hr : fn.results = #[.tmp n, .tmp m]) (hn : AV.numsL (inB bs') [x, y] = true) (hs : SubB bs bs') (hcl : ClB (inB bs') bs') (hk : X.k.all (inB bs') = true) : G P X al bs (finB P fn X (.tup [x, y]) bs' .ret) := fun E a W hh => hh.leave fun a' W' _ hh => by
  obtain ⟨v, h1, h2⟩ := hh.sl n x hx
  obtain ⟨u, g1, g2⟩ := hh.sl m y hy
  obtain ⟨h3, h4⟩ := hh.hb.res hs hcl hk
  simp only [AV.numsL, Bool.and_eq_true, Bool.and_true] at hn
  refine ⟨.tuple #[v, u], ?_, _, E, rfl, h3, .tup (.cons (h4 v x h2 hn.1) (.cons (h4 u y g2 hn.2) .nil))⟩
  have e1 : a'.tmps.getD n undef = v := by rw [Array.getD_eq_getD_getElem?, h1]; rfl
  have e2 : a'.tmps.getD m undef = u := by rw [Array.getD_eq_getD_getElem?, g1]; rfl
  simp [results_rdv, hr, rdv, e1, e2]
theorem G.finBn (h : G P X al bs (finB P fn X x bs' .ret)) : G P X al bs (finB P fn X x bs' .normal) := h
end
theorem G.finn {fn : Func} {R : D → Prop} (h : G P X al bs (fin P fn X R .ret)) : G P X al bs (fin P fn X R .normal) := h
end

theorem numsL_d (p : Nat → Bool) : ∀ ds : List D, AV.numsL p (ds.map .d) = true
  | [] => rfl
  | d :: ds => numsL_d p ds
theorem renL_d (π : List (Nat × Nat)) : ∀ ds : List D, AV.renL π (ds.map .d) = ds.map .d
  | [] => rfl
  | d :: ds => by
    show AV.d d :: AV.renL π (ds.map .d) = _
    rw [renL_d π ds]
    rfl
theorem kbL_d (π : List (Nat × Nat)) : ∀ ds : List D, AV.kbL π (ds.map .d) = true
  | [] => rfl
  | d :: ds => kbL_d π ds
theorem kns_eq {bs : Bs} {l ks : List Nat} (h : bs.map (·.1) = l) (h2 : l.filter kn = ks) : kns bs = ks := by unfold kns; rw [h]; exact h2
/-! ### A closure's state -/
/-- The blocks from 100 on: even numbers are variables, odd ones rows. -/
def Is (c : Nat → Option (TypeId × List AV)) : Bs := [(100, c 0), (101, c 1), (102, c 2), (103, c 3), (104, c 4), (105, c 5)]
def inI : Nat → Bool := inB (Is fun _ => none)
theorem Is.cl {c : Nat → Option (TypeId × List AV)} (h : ∀ j, ClE inI (c j)) : ClB (inB (Is c)) (Is c) := ⟨h 0, h 1, h 2, h 3, h 4, h 5, trivial⟩

end Go.Proofs.Ytohpbfcechbngaa
