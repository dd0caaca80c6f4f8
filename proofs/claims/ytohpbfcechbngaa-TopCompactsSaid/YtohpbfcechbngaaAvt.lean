/- Contracts at other numbers; calls that take a row of one's own and answer with a row; append of a part of a row to another. -/
import Derived.Test.YtohpbfcechbngaaAvs
import Derived.Deep.AppendSrc
set_option linter.unusedSimpArgs false
set_option linter.unusedVariables false
namespace Go.Proofs.Ytohpbfcechbngaa
open Go.RowKit

section
variable {P : Program} {X : Cx} {al : List (Nat × AV)} {bs bs' : Bs} {E : Env} {W : World}
theorem HB.ren (h : HB P X bs E W) (π : List (Nat × Nat)) (hb : BsR bs π π bs') (hd : (π.map (·.2)).Nodup) (k' : List Nat) (E0' : Env) (hk : EnK k' E0' (E.ren π) bs') : HB P { X with k := k', E0 := E0' } bs' (E.ren π) W := by
  obtain ⟨hdom, hget⟩ := hb.get
  have hl : ∀ i, live (E.ren π) bs' i → ∃ j, lk π i = some j ∧ live E bs j := by
    rintro i ⟨⟨⟨T, cs⟩, h1⟩, h2⟩
    obtain ⟨j, h3, h4, _⟩ := hget i T cs h1
    refine ⟨j, h3, ⟨_, h4⟩, ?_⟩
    simp only [Env.ren, h3, Option.getD_some] at h2
    exact h2
  have hA : ∀ {i j}, lk π i = some j → (E.ren π).A i = E.A j := fun {i j} hij => by simp only [Env.ren, hij, Option.getD_some]
  have ho : ∀ r, ownS (E.ren π) X.o bs' r → ownS E X.o bs r := by
    rintro r (ho | ⟨i, h1, rfl⟩)
    · exact .inl ho
    · obtain ⟨j, h2, h3⟩ := hl i h1
      exact .inr ⟨j, h3, (hA h2).symm⟩
  have k : Keeps (ownS E X.o bs) (ownS (E.ren π) X.o bs') W W := .of (fun _ _ _ => rfl) (Nat.le_refl _) (fun r _ h => ho r h)
  have k2 : Keeps (ownS (E.ren π) X.o bs') (ownS (E.ren π) X.o bs') W W := .of (fun _ _ _ => rfl) (Nat.le_refl _) (fun _ _ h => h)
  refine ⟨h.ext, h.o0, hk, fun i T cs hi => ?_, fun i hi => ?_, fun i j hi hj he => ?_⟩
  · obtain ⟨j, h1, h2, h3⟩ := hget i T cs hi
    unfold EnOk
    simp only [Env.ren, h1, Option.getD_some]
    rcases h.bk _ T _ h2 with ⟨e1, e2, e3⟩ | ⟨e1, vs, sp, m, n, c, e2, e3, e4⟩
    · refine .inl ⟨e1, ?_, e3⟩
      cases cs with
      | nil => rfl
      | cons c cs => simp [AV.renL] at e2
    · exact .inr ⟨e1, vs, sp, m, n, c, e2, (e3.ren k cs h3).keeps k2 (Env.le.refl _ _) hdom, e4⟩
  · obtain ⟨j, h1, h2⟩ := hl i hi
    rw [hA h1]
    exact h.lo _ h2
  · obtain ⟨i2, h1, h2⟩ := hl i hi
    obtain ⟨j2, h3, h4⟩ := hl j hj
    rw [hA h1, hA h3] at he
    have h5 := h.nd _ _ h2 h4 he
    subst h5
    exact lk_inj hd h1 h3
/-- A contract, its blocks at other numbers. -/
theorem FnB.ren {K : Nat} {xs ys : List AV} {x y : AV} {b0 b1 c0 c1 : Bs} (f : FnB P CT K xs b0 x b1) (π ρ : List (Nat × Nat)) (hx : AV.renL π xs = ys) (hxk : AV.kbL π xs = true) (hb : BsR c0 π π b0) (hd : (π.map (·.2)).Nodup) (hy : AV.ren ρ y = x) (hyk : y.kb ρ = true) (hb1 : BsR b1 ρ ρ c1) (hd1 : (ρ.map (·.2)).Nodup)
    (hk : (kns c0).all (fun b => inB c1 b && (kns b0).contains ((lk ρ b).getD 0) && Nat.beq ((lk π ((lk ρ b).getD 0)).getD 0) b) = true) : FnB P CT K ys c0 y c1 := ⟨f.1, fun X vs _ hk0 hbX ha => by
  subst hx
  subst hy
  have hkk : ∀ b ∈ kns c0, dom c1 b ∧ (lk ρ b).getD 0 ∈ kns b0 ∧ (lk π ((lk ρ b).getD 0)).getD 0 = b := fun b hb => by
    have := List.all_eq_true.1 hk b hb
    simp only [Bool.and_eq_true, Nat.beq_eq, List.contains_iff_mem] at this
    exact ⟨inB_iff.1 this.1.1, this.1.2, this.2⟩
  have hb' := hbX.ren π hb hd (kns b0) (X.E0.ren π) ⟨fun b hb => (kns_iff.1 hb).1, fun _ _ => rfl, fun _ _ => rfl, fun _ _ => rfl⟩
  obtain ⟨hdom, hget⟩ := hb.get
  have hl : ∀ i, live (X.E0.ren π) b0 i → ∃ j, lk π i = some j ∧ live X.E0 c0 j := by
    rintro i ⟨⟨⟨T, cs⟩, h1⟩, h2⟩
    obtain ⟨j, h3, h4, _⟩ := hget i T cs h1
    refine ⟨j, h3, ⟨_, h4⟩, ?_⟩
    simp only [Env.ren, h3, Option.getD_some] at h2
    exact h2
  have ho : ∀ r, ownS (X.E0.ren π) X.o b0 r → ownS X.E0 X.o c0 r := by
    rintro r (ho | ⟨i, h1, rfl⟩)
    · exact .inl ho
    · obtain ⟨j, h2, h3⟩ := hl i h1
      exact .inr ⟨j, h3, by simp only [Env.ren, h2, Option.getD_some]⟩
  have k : Keeps (ownS X.E0 X.o c0) (ownS (X.E0.ren π) X.o b0) X.w X.w := .of (fun _ _ _ => rfl) (Nat.le_refl _) (fun r _ h => ho r h)
  have k2 : Keeps (ownS (X.E0.ren π) X.o b0) (ownS (X.E0.ren π) X.o b0) X.w X.w := .of (fun _ _ _ => rfl) (Nat.le_refl _) (fun _ _ h => h)
  have hcall := f.2 { X with k := kns b0, E0 := X.E0.ren π } vs trivial rfl hb' ((ha.ren k xs hxk).keeps k2 (Env.le.refl _ _) hdom)
  refine hcall.mono ?_
  rintro e W' ⟨u, E', rfl, h1, h2⟩
  obtain ⟨hdom1, hget1⟩ := hb1.get
  have h3 := h1.ren ρ hb1 hd1 X.k X.E0 ⟨fun b hb => (hkk b (hk0 ▸ hb)).1, fun b hb => ?_, fun b hb => ?_, fun b hb => ?_⟩
  · have hl1 : ∀ i, live (E'.ren ρ) c1 i → ∃ j, lk ρ i = some j ∧ live E' b1 j := by
      rintro i ⟨⟨⟨T, cs⟩, g1⟩, g2⟩
      obtain ⟨j, g3, g4, _⟩ := hget1 i T cs g1
      refine ⟨j, g3, ⟨_, g4⟩, ?_⟩
      simp only [Env.ren, g3, Option.getD_some] at g2
      exact g2
    have ho1 : ∀ r, ownS (E'.ren ρ) X.o c1 r → ownS E' X.o b1 r := by
      rintro r (ho | ⟨i, g1, rfl⟩)
      · exact .inl ho
      · obtain ⟨j, g2, g3⟩ := hl1 i g1
        exact .inr ⟨j, g3, by simp only [Env.ren, g2, Option.getD_some]⟩
    have kk : Keeps (ownS E' X.o b1) (ownS (E'.ren ρ) X.o c1) W' W' := .of (fun _ _ _ => rfl) (Nat.le_refl _) (fun r _ h => ho1 r h)
    have kk2 : Keeps (ownS (E'.ren ρ) X.o c1) (ownS (E'.ren ρ) X.o c1) W' W' := .of (fun _ _ _ => rfl) (Nat.le_refl _) (fun _ _ h => h)
    exact ⟨u, E'.ren ρ, rfl, h3, (RA.ren kk y h2 hyk).keeps kk2 (Env.le.refl _ _) hdom1⟩
  all_goals
    obtain ⟨g1, g2, g3⟩ := hkk b (hk0 ▸ hb)
    simp only [Env.ren]
  · have := h1.en.A _ g2; simp only [Env.ren] at this; rw [this, g3]
  · have := h1.en.V _ g2; simp only [Env.ren] at this; rw [this, g3]
  · have := h1.en.nl _ g2; simp only [Env.ren] at this; rw [this, g3]⟩

/-- Blocks that are gone. -/
def nones (dr : List Nat) : Bs := dr.map fun b => (b, none)
theorem lk_nones {dr : List Nat} {bs : Bs} {c : Nat} : (c ∈ dr → lk (nones dr ++ bs) c = some none) ∧ (c ∉ dr → lk (nones dr ++ bs) c = lk bs c) := by
  induction dr with
  | nil => exact ⟨fun h => (List.not_mem_nil h).elim, fun _ => rfl⟩
  | cons b dr ih =>
    simp only [nones, List.map_cons, List.cons_append, lk_cons, List.mem_cons, not_or]
    refine ⟨fun h => ?_, fun ⟨h1, h2⟩ => ?_⟩
    · split
      · rfl
      · rename_i hne
        exact ih.1 (h.resolve_left (fun e => hne e.symm))
    · rw [if_neg (fun e => h1 e.symm)]
      exact ih.2 h2
/-- A call has taken the blocks dr and left block k. -/
theorem HdE.newM {a : Act} (h : HdE P X al bs E a W) {E' : Env} {W' : World} {dr : List Nat} {k : Nat} {T : TypeId} {cs : List AV} (hdb : ∀ b ∈ dr, dom bs b) (hf : lk bs k = none) (hE : Env.le (dom bs) E E') (hx : ExtM (fun r => ∃ b ∈ dr, live E bs b ∧ E.A b = r) W W') (hA : E'.nl k = false → W.heap.size ≤ E'.A k ∨ ∃ b ∈ dr, live E bs b ∧ E'.A k = E.A b)
    (hk : EnOk P E' (dom (nones dr ++ (k, some (T, cs)) :: bs)) (ownS E' X.o (nones dr ++ (k, some (T, cs)) :: bs)) W' k T cs) : HdE P X al (nones dr ++ (k, some (T, cs)) :: bs) E' a W' := by
  have hkd : k ∉ dr := fun e => by obtain ⟨o, ho⟩ := hdb k e; rw [hf] at ho; cases ho
  have hlv : ∀ c, live E' (nones dr ++ (k, some (T, cs)) :: bs) c → (c = k ∧ E'.nl k = false) ∨ (c ≠ k ∧ c ∉ dr ∧ live E bs c) := by
    rintro c ⟨⟨en, h1⟩, h2⟩
    by_cases e1 : c ∈ dr
    · rw [lk_nones.1 e1] at h1; cases h1
    · rw [lk_nones.2 e1] at h1
      by_cases e2 : c = k
      · subst e2; exact .inl ⟨rfl, h2⟩
      · rw [lk_ne _ _ (Ne.symm e2)] at h1
        exact .inr ⟨e2, e1, ⟨en, h1⟩, by rw [← hE.nl c ⟨_, h1⟩]; exact h2⟩
  have hd2 : ∀ c, dom bs c → dom (nones dr ++ (k, some (T, cs)) :: bs) c := fun c hc => by
    by_cases e1 : c ∈ dr
    · exact ⟨_, lk_nones.1 e1⟩
    · obtain ⟨o, ho⟩ := dom_cons (b := k) (o := some (T, cs)) c hc
      exact ⟨o, by rw [lk_nones.2 e1]; exact ho⟩
  have ho : ∀ r, r < W.heap.size → ownS E' X.o (nones dr ++ (k, some (T, cs)) :: bs) r → ownS E X.o bs r := by
    rintro r hr (ho | ⟨c, hl, rfl⟩)
    · exact .inl ho
    · rcases hlv c hl with ⟨rfl, h2⟩ | ⟨h1, h2, h3⟩
      · rcases hA h2 with h4 | ⟨b, _, h4, h5⟩
        · omega
        · exact .inr ⟨b, h4, h5.symm⟩
      · exact .inr ⟨c, h3, (hE.A c h3.dom).symm⟩
  have hun : ∀ r, r < W.heap.size → ¬ ownS E X.o bs r → W'.heap[r]? = W.heap[r]? := fun r hr hn => hx.blk r hr (fun ⟨b, _, h1, h2⟩ => hn (.inr ⟨b, h1, h2⟩))
  have kk : Keeps (ownS E X.o bs) (ownS E' X.o (nones dr ++ (k, some (T, cs)) :: bs)) W W' := .of hun hx.size ho
  refine ⟨h.ext.step hx (fun r ⟨b, _, h1, h2⟩ => by rw [← h2]; exact h.lo b h1), h.o0, ?_, h.sz, h.en.step hE hd2, fun n x hn => ?_, fun c T' cs' hc => ?_, fun c hl => ?_, fun c c' hl hl' he => ?_⟩
  · obtain ⟨Ds, d1, d2, d3⟩ := h.df
    refine ⟨Ds, d1, d2, fun D hD => ⟨(d3 D hD).1, ?_⟩⟩
    rw [hx.blk D (Array.getElem?_eq_some_iff.1 (d3 D hD).2).1 (fun ⟨b, _, h1, h2⟩ => ?_)]
    · exact (d3 D hD).2
    · obtain ⟨T2, cs2, hB⟩ := h.hb.blkOf h1
      have h3 := (d3 D hD).2
      unfold Blk at hB
      rw [h2, h3] at hB
      cases hB
  · obtain ⟨v, h1, h2⟩ := h.sl n x hn
    exact ⟨v, h1, h2.keeps kk hE hd2⟩
  · by_cases e1 : c ∈ dr
    · rw [lk_nones.1 e1] at hc; cases hc
    · rw [lk_nones.2 e1] at hc
      by_cases e2 : c = k
      · subst e2
        rw [lk_self] at hc
        simp only [Option.some.injEq, Prod.mk.injEq] at hc
        obtain ⟨rfl, rfl⟩ := hc
        exact hk
      · rw [lk_ne _ _ (Ne.symm e2)] at hc
        refine (h.bk c T' cs' hc).keeps kk hE hd2 ⟨_, hc⟩ (fun hn => hx.blk _ (h.live_lt ⟨⟨_, hc⟩, hn⟩) (fun ⟨b, hb, h1, h2⟩ => ?_))
        rw [h.nd b c h1 ⟨⟨_, hc⟩, hn⟩ h2] at hb
        exact e1 hb
  · rcases hlv c hl with ⟨rfl, h2⟩ | ⟨h1, h2, h3⟩
    · rcases hA h2 with h4 | ⟨b, _, h4, h5⟩
      · exact .inl (Nat.le_trans h.ext.size h4)
      · rw [h5]; exact h.lo b h4
    · rw [hE.A c h3.dom]
      exact h.lo c h3
  · rcases hlv c hl with ⟨rfl, h2⟩ | ⟨h1, h2, h3⟩ <;> rcases hlv c' hl' with ⟨rfl, g2⟩ | ⟨g1, g2, g3⟩
    · rfl
    · have h4 := h.live_lt g3
      rw [hE.A c' g3.dom] at he
      rcases hA h2 with h5 | ⟨b, hb, h5, h6⟩
      · omega
      · rw [h6] at he; rw [h.nd b c' h5 g3 he] at hb; exact absurd hb g2
    · have h4 := h.live_lt h3
      rw [hE.A c h3.dom] at he
      rcases hA g2 with h5 | ⟨b, hb, h5, h6⟩
      · omega
      · rw [h6] at he; rw [h.nd b c h5 h3 he.symm] at hb; exact absurd hb h2
    · rw [hE.A c h3.dom, hE.A c' g3.dom] at he
      exact h.nd c c' h3 g3 he
/-- A call of a function that takes the rows dr (at the callee's numbers π) and answers with a row. -/
theorem HdE.callM {a : Act} {K k d T' : Nat} {ro : Option Nat} {Kc : Act → World → Prop} {Q : Exit → Act → World → Prop} {o : Oper} {args : List Operand} {ats : Array TypeId} {xs : List AV} {es : List D} {z y' : AV} {bsC bsR : Bs} {dr : List Nat} {π : List (Nat × Nat)} (hh : HdE P X al bs E a W) (hf : FnB P CT K xs bsC z bsR) (hr : RAL E (dom bs) (ownS E X.o bs) W (args.map a.eval) (AV.renL π xs)) (hxk : AV.kbL π xs = true)
    (hS : ∀ c en, lk bsC c = some (some en) → ∃ b T ds, lk π c = some b ∧ b ∈ dr ∧ en = (T, List.map AV.d ds) ∧ lk bs b = some (some (T, ds.map .d))) (hdm : ∀ c, dmR π c → dom bsC c) (hkn : kns bsC = []) (hnd : (π.map (·.2)).Nodup) (hdb : ∀ b ∈ dr, dom bs b) (hR : lk bsR 101 = some (some (T', es.map .d))) (hfr : lk bs k = none) (hz : AV.ren [(k, 101)] y' = z) (hzk : y'.kb [(k, 101)] = true) (hd : Nat.blt d X.N = true)
    (ho : o.op = .call { callee := .value (.func K), args := args.toArray, argTypes := ats }) (hdst : o.dst = some d) (hK : ∀ E' a' W', HdE P X ((d, y') :: al) (nones dr ++ (k, some (T', es.map .d)) :: bs) E' a' W' → Kc a' W') : WO P ro o a W Kc Q := by
  let E1 := E.ren π
  let X' : Cx := ⟨W, fun r => ownS E X.o bs r ∧ ¬ ∃ b ∈ dr, live E bs b ∧ E.A b = r, X.N, fun r => ∃ b ∈ dr, live E bs b ∧ E.A b = r, E1, []⟩
  have hlb : ∀ c, live E1 bsC c → ∃ b, lk π c = some b ∧ b ∈ dr ∧ live E bs b ∧ E1.A c = E.A b := by
    rintro c ⟨⟨en, h1⟩, h2⟩
    obtain ⟨b, T, ds, g1, g2, _, g4⟩ := hS c en h1
    simp only [E1, Env.ren, g1, Option.getD_some] at h2
    exact ⟨b, g1, g2, ⟨⟨_, g4⟩, h2⟩, by simp only [E1, Env.ren, g1, Option.getD_some]⟩
  have ho0 : ∀ r, ownS E1 X'.o bsC r → ownS E X.o bs r := by
    rintro r (h | ⟨c, h, rfl⟩)
    · exact h.1
    · obtain ⟨b, _, _, h3, h4⟩ := hlb c h
      exact .inr ⟨b, h3, h4.symm⟩
  have k0 : Keeps (ownS E X.o bs) (ownS E1 X'.o bsC) W W := .of (fun _ _ _ => rfl) (Nat.le_refl _) (fun r _ h => ho0 r h)
  have k1 : Keeps (ownS E1 X'.o bsC) (ownS E1 X'.o bsC) W W := .of (fun _ _ _ => rfl) (Nat.le_refl _) (fun r _ h => h)
  have hbb : HB P X' bsC E1 W := by
    refine ⟨ExtM.refl _ _, fun r h => ⟨hh.own_lt h.1, h.2⟩, EnK.nil, fun c T2 cs h => ?_, fun c h => ?_, fun c c' h h' he => ?_⟩
    · obtain ⟨b, T, ds, g1, _, g3, g4⟩ := hS c _ h
      cases g3
      unfold EnOk
      simp only [E1, Env.ren, g1, Option.getD_some]
      rcases hh.bk b _ _ g4 with g | ⟨g0, vs, sp, m, n, c, q1, q2, q3⟩
      · exact .inl g
      · exact .inr ⟨g0, vs, sp, m, n, c, q1, RAL.map (q2.unmap.keeps k0), q3⟩
    · obtain ⟨b, _, h2, h3, h4⟩ := hlb c h
      exact .inr ⟨b, h2, h3, h4.symm⟩
    · obtain ⟨b, h1, h2, h3, h4⟩ := hlb c h
      obtain ⟨b', g1, g2, g3, g4⟩ := hlb c' h'
      rw [h4, g4] at he
      have := hh.nd b b' h3 g3 he
      subst this
      exact lk_inj hnd h1 g1
  have ha : RAL E1 (dom bsC) (ownS E1 X'.o bsC) W (args.map a.eval) xs := (RAL.ren (own' := ownS E1 X'.o bsC) k0 xs hr hxk).keeps k1 (Env.le.refl _ _) hdm
  have hcall := hf.2 X' _ trivial hkn.symm hbb ha
  refine WO.of (by rw [ho]; intro c h; cases h) ?_
  unfold execOp
  have hrun : (do let dd ← resolve a.eval { callee := .value (.func K), args := args.toArray, argTypes := ats } o.type; invoke dd.target dd.args : Sem Next).run P W = .ok (.enter K (args.map a.eval).toArray) W := by
    simp [resolve, Deferred.ofValue, Act.eval, invoke, callFunc_enter hf.1]
  simp only [ho]
  rw [hrun]
  rw [Oper.uponIn_enter]
  refine ⟨(fun hq => by cases hq), (callsIn_wide (n := 0)).2 (hcall.mono ?_)⟩
  rintro e W' ⟨u, E2, rfl, h1, h2⟩
  dsimp only
  rw [hdst]
  have hd2 : ¬ dom bs k := fun ⟨o, ho⟩ => by rw [hfr] at ho; cases ho
  have hkd : k ∉ dr := fun e => hd2 (hdb k e)
  let E3 := E.set k (E2.A 101) (E2.V 101) (E2.nl 101)
  have hle : Env.le (dom bs) E E3 := Env.le_set _ hd2 _ _ _
  have l101 : E2.nl 101 = false → live E2 bsR 101 := fun h => ⟨⟨_, hR⟩, h⟩
  have how : ∀ r, ownS E3 X.o (nones dr ++ (k, some (T', es.map .d)) :: bs) r → ownS E2 X'.o bsR r := by
    rintro r (h | ⟨c, ⟨⟨en, g1⟩, g2⟩, rfl⟩)
    · refine .inl ⟨.inl h, fun ⟨b, _, h3, h4⟩ => ?_⟩
      rcases hh.lo b h3 with h5 | h5
      · have := (hh.o0 r h).1; omega
      · rw [h4] at h5; exact (hh.o0 r h).2 h5
    · by_cases e1 : c ∈ dr
      · rw [lk_nones.1 e1] at g1; cases g1
      · rw [lk_nones.2 e1] at g1
        by_cases e2 : c = k
        · subst e2
          have h3 : E2.nl 101 = false := by
            simp only [E3, Env.set_nl] at g2
            exact g2
          exact .inr ⟨101, l101 h3, by simp only [E3, Env.set_A]⟩
        · rw [lk_ne _ _ (Ne.symm e2)] at g1
          have h3 : live E bs c := ⟨⟨en, g1⟩, by rw [← hle.nl c ⟨_, g1⟩]; exact g2⟩
          rw [hle.A c h3.dom]
          refine .inl ⟨.inr ⟨c, h3, rfl⟩, fun ⟨b, hb, h4, h5⟩ => ?_⟩
          rw [hh.nd b c h4 h3 h5] at hb
          exact e1 hb
  have kk : Keeps (ownS E2 X'.o bsR) (ownS E3 X.o (nones dr ++ (k, some (T', es.map .d)) :: bs)) W' W' := .of (fun _ _ _ => rfl) (Nat.le_refl _) (fun r _ h => how r h)
  have hkdom : dom (nones dr ++ (k, some (T', es.map AV.d)) :: bs) k := ⟨_, by rw [lk_nones.2 hkd]; exact lk_self _ _ _⟩
  have hnew := hh.newM (dr := dr) (k := k) (T := T') (cs := es.map .d) (E' := E3) hdb hfr hle h1.ext (fun h => by
    simp only [E3, Env.set_nl, Env.set_A] at h ⊢
    rcases h1.lo 101 (l101 h) with h | ⟨b, hb, h3, h4⟩
    · exact .inl h
    · exact .inr ⟨b, hb, h3, h4.symm⟩) (by
    rcases h1.bk 101 T' _ hR with ⟨g0, g1, g2⟩ | ⟨g0, vs, sp, m, n, c, g1, g2, g3, g4, g5, g6, g7, g8⟩
    · exact .inl ⟨by simp only [E3, Env.set_nl]; exact g0, g1, by simp only [E3, Env.set_V]; exact g2⟩
    · exact .inr ⟨by simp only [E3, Env.set_nl]; exact g0, vs, sp, m, n, c, by simp only [E3, Env.set_A]; exact g1, RAL.map (g2.unmap.keeps kk), g3, by simp only [E3, Env.set_V, Env.set_A]; exact g4, g5, g6, g7, g8⟩)
  refine hK _ _ _ (hnew.put ?_ (by simpa using hd))
  rw [← hz] at h2
  have h3 := RA.ren (π := [(k, 101)]) (own' := ownS E3 X.o (nones dr ++ (k, some (T', es.map .d)) :: bs)) kk y' h2 hzk
  refine h3.keeps (.of (fun _ _ _ => rfl) (Nat.le_refl _) (fun r _ h => h)) ⟨fun c hc => ?_, fun c hc => ?_, fun c hc => ?_⟩ (fun c hc => ?_)
  all_goals
    have hck : c = k := by
      unfold dmR at hc
      simp only [lk_cons] at hc
      split at hc
      · rename_i h; exact h.symm
      · simp [lk] at hc
    subst hck
  · simp only [E3, Env.set_A, Env.ren, lk_self, Option.getD_some]
  · simp only [E3, Env.set_V, Env.ren, lk_self, Option.getD_some]
  · simp only [E3, Env.set_nl, Env.ren, lk_self, Option.getD_some]
  · exact hkdom
/-- A call of a function that takes a row of one's own and answers with a row: in any region; nothing else is forgotten. -/
theorem LT.cvM {K k d T T' : Nat} {args : List Operand} {ats : Array TypeId} {xs xs' : List AV} {ds es : List D} {z y' : AV} {bsR : Bs} (b : Nat) (hf : FnB P CT K xs [(101, some (T, ds.map .d))] z bsR) (he : EvL al args xs') (hx : AV.renL [(101, b)] xs = xs') (hxk : AV.kbL [(101, b)] xs = true) (hb : lk bs b = some (some (T, ds.map .d))) (hR : lk bsR 101 = some (some (T', es.map .d))) (hk : bs.length = k) (hfr : lk bs k = none) (hy : AV.ren [(101, k)] z = y') (hz : AV.ren [(k, 101)] y' = z) (hzk : y'.kb [(k, 101)] = true) (hd : Nat.blt d X.N = true) :
    LT P X al bs (.call { callee := .value (.func K), args := args.toArray, argTypes := ats }) (some d) [b, k] [(d, y')] [(b, none), (k, some (T', es.map .d))] := fun ro al2 bs2 hL hB E a W hh o ho hdst Kc Q hK => by
  clear hy
  subst hx
  have hb2 : lk bs2 b = some (some (T, ds.map .d)) := (hB b (List.mem_cons_self ..)).trans hb
  have hf2 : lk bs2 k = none := (hB k (List.mem_cons_of_mem _ (List.mem_cons_self ..))).trans hfr
  have hr := hh.evsOk (EvL.loc hL (fun x hx => by simp [Op.operands, Call.operands, hx]) he)
  refine hh.callM (dr := [b]) hf hr hxk (fun c en h => ?_) (fun c h => ?_) (kns_eq (l := [101]) (ks := []) rfl (by decide)) (by simp) (fun c hc => ?_) hR hf2 hz hzk hd ho hdst hK
  · simp only [lk_cons] at h
    split at h
    · rename_i he; subst he; cases h
      exact ⟨b, T, ds, lk_self _ _ _, List.mem_cons_self .., rfl, hb2⟩
    · simp [lk] at h
  · unfold dmR at h
    simp only [lk_cons] at h
    split at h
    · rename_i he; subst he; exact ⟨_, lk_self _ _ _⟩
    · simp [lk] at h
  · rw [List.mem_singleton] at hc
    subst hc
    exact ⟨_, hb2⟩
/-- The same with two rows; the second is used up. -/
theorem LT.cvM2 {K k d T T2 T' : Nat} {args : List Operand} {ats : Array TypeId} {xs xs' : List AV} {ds ds2 es : List D} {z y' : AV} {bsR : Bs} (b b2 : Nat) (hf : FnB P CT K xs [(101, some (T, ds.map .d)), (103, some (T2, ds2.map .d))] z bsR) (he : EvL al args xs') (hx : AV.renL [(101, b), (103, b2)] xs = xs') (hxk : AV.kbL [(101, b), (103, b2)] xs = true) (hb : lk bs b = some (some (T, ds.map .d))) (hb2 : lk bs b2 = some (some (T2, ds2.map .d))) (hne : Nat.beq b b2 = false) (hR : lk bsR 101 = some (some (T', es.map .d))) (hk : bs.length = k) (hfr : lk bs k = none) (hy : AV.ren [(101, k)] z = y') (hz : AV.ren [(k, 101)] y' = z) (hzk : y'.kb [(k, 101)] = true) (hd : Nat.blt d X.N = true) :
    LT P X al bs (.call { callee := .value (.func K), args := args.toArray, argTypes := ats }) (some d) [b, b2, k] [(d, y')] [(b, none), (b2, none), (k, some (T', es.map .d))] := fun ro al2 bs2 hL hB E a W hh o ho hdst Kc Q hK => by
  clear hy
  subst hx
  have hb' : lk bs2 b = some (some (T, ds.map .d)) := (hB b (List.mem_cons_self ..)).trans hb
  have hb2' : lk bs2 b2 = some (some (T2, ds2.map .d)) := (hB b2 (List.mem_cons_of_mem _ (List.mem_cons_self ..))).trans hb2
  have hf2 : lk bs2 k = none := (hB k (List.mem_cons_of_mem _ (List.mem_cons_of_mem _ (List.mem_cons_self ..)))).trans hfr
  have hr := hh.evsOk (EvL.loc hL (fun x hx => by simp [Op.operands, Call.operands, hx]) he)
  have hn : b ≠ b2 := fun e => by subst e; simp at hne
  refine hh.callM (dr := [b, b2]) hf hr hxk (fun c en h => ?_) (fun c h => ?_) (kns_eq (l := [101, 103]) (ks := []) rfl (by decide)) (by simp [hn]) (fun c hc => ?_) hR hf2 hz hzk hd ho hdst hK
  · simp only [lk_cons] at h
    split at h
    · rename_i he; subst he; cases h
      exact ⟨b, T, ds, lk_self _ _ _, List.mem_cons_self .., rfl, hb'⟩
    · split at h
      · rename_i h0 he; subst he; cases h
        exact ⟨b2, T2, ds2, by rw [lk_ne _ _ h0]; exact lk_self _ _ _, List.mem_cons_of_mem _ (List.mem_cons_self ..), rfl, hb2'⟩
      · simp [lk] at h
  · unfold dmR at h
    simp only [lk_cons] at h
    split at h
    · rename_i he; subst he; exact ⟨_, lk_self _ _ _⟩
    · split at h
      · rename_i h0 he; subst he; exact ⟨_, by rw [lk_ne _ _ h0]; exact lk_self _ _ _⟩
      · simp [lk] at h
  · rcases List.mem_cons.1 hc with rfl | hc
    · exact ⟨_, hb'⟩
    · rw [List.mem_singleton] at hc
      subst hc
      exact ⟨_, hb2'⟩
/-- A part of a row is appended to the part ahead of it. -/
theorem LT.apVV {b d n off2 n2 t bytes : Nat} {e : TypeId} {x y : Operand} {cs : List AV} {f2 : Bool} (cs' : List AV) [hT : TAp P t e 1 bytes] (hx : Evd al x (.vw b 0 n true) := by exact ⟨_, rfl, by (try (apply Und.gd; assumption; try (apply Und.gd; assumption; try (apply Und.gd; assumption)))); exact Und.refl _⟩) (hy : Evd al y (.vw b off2 n2 f2) := by exact ⟨_, rfl, by (try (apply Und.gd; assumption; try (apply Und.gd; assumption; try (apply Und.gd; assumption)))); exact Und.refl _⟩) (hb : lk bs b = some (some (e, cs)) := by rfl) (hc : ((cs.drop off2).take n2).all AV.cell = true := by first | assumption | rfl) (hcs : cs.take n ++ ((cs.drop off2).take n2 ++ cs.drop (n + n2)) = cs' := by first | assumption | rfl) (hfit : n + n2 ≤ cs.length := by first | assumption | omega | exact Nat.le_of_ble_eq_true rfl) (hfit2 : off2 + n2 ≤ cs.length := by first | assumption | omega | exact Nat.le_of_ble_eq_true rfl) (hd : Nat.blt d X.N = true := by rfl) :
    LT P X al bs (.call { callee := .builtin .append, args := #[x, y], argTypes := #[t, t] }) (some d) [b] [(d, .vw b 0 (n + n2) true)] [(b, some (e, cs'))] := fun ro al2 bs2 hL hB E a W hh o hoo hdst K Q hK => by
  subst hcs
  obtain ⟨i0, z, hu, hie, hz, hsz, hbs, hzs, hpos⟩ := hT.h
  have h1 := hh.evd (hL.evd hx (by simp [Op.operands, Call.operands]))
  have h2 := hh.evd (hL.evd hy (by simp [Op.operands, Call.operands]))
  have hbb := hB.at hb (List.mem_cons_self ..)
  generalize hq : a.eval x = q at h1
  generalize hr : a.eval y = p at h2
  cases h1 with
  | @vw _ _ _ cc _ f1 fn f3 f4 f5 =>
    cases h2 with
    | @vw _ _ _ cc2 _ g1 gn g3 g4 g5 =>
      obtain ⟨vs, sp, m, nn, c, q1, q2, q3, q4, q5, q6, q7, q8⟩ := hh.blk hbb fn
      have hcc : cc = c := f5 rfl rfl _ _ _ q4
      have hm1 : m = 1 := by rw [hie, Option.map_some, hsz] at q3; exact (Option.some.inj q3).symm
      subst hm1
      have hlv := q2.len
      have hus := (q2.drop off2).take n2
      have hyl : ((cs.drop off2).take n2).length = n2 := by simp; omega
      have hul : ((vs.drop off2).take n2).length = n2 := by rw [hus.len, hyl]
      obtain ⟨k1, k2, k3⟩ := hh.cells (us := (vs.drop off2).take n2) (ys := (cs.drop off2).take n2) (off := n) hbb fn hus (by rw [hyl]; exact hfit)
      have hone : ∀ v ∈ (vs.drop off2).take n2, v.oneCell' = true := by
        have key : ∀ {us : List Value} {ys : List AV}, RAL E (dom bs2) (ownS E X.o bs2) W us ys → ys.all AV.cell = true → ∀ v ∈ us, v.oneCell' = true := by
          intro us
          induction us with
          | nil => intro ys _ _ v hv; cases hv
          | cons u us ih =>
            intro ys h hc v hv
            cases h with
            | cons h t =>
              simp only [List.all_cons, Bool.and_eq_true] at hc
              rcases List.mem_cons.1 hv with rfl | hv
              · exact h.cell hc.1
              · exact ih t hc.2 v hv
        exact key hus hc
      have hsrc : Src P i0.size t (.slice (some ⟨E.A b, off2, none⟩) n2 cc2) n2 ((vs.drop off2).take n2) W := by
        refine Src.ofSlice W hu ⟨E.A b, off2, none⟩ n2 cc2 _ (by rw [hul, hsz, Nat.mul_one]) (fun j v hv => ?_) hone
        have hj : j < n2 := by have := (List.getElem?_eq_some_iff.1 hv).1; omega
        rw [List.getElem?_take_of_lt hj, List.getElem?_drop] at hv
        rw [Addr.add_mid, q1.cell, List.getElem?_append_left (by have := (List.getElem?_eq_some_iff.1 hv).1; omega), hv]
      have hrun := run_append_room_src (P := P) W t t o.type e i0 hu hie (E.A b) 0 n cc _ n2 _ hsrc (by subst hcc; omega) (by rw [hsz, Nat.mul_one, Nat.zero_add]; exact k2) (by rw [hsz, Nat.mul_one, Nat.zero_add]; exact k3)
      rw [hsz, Nat.mul_one, Nat.zero_add] at hrun
      refine WO.of (by rw [hoo]; intro c h; cases h) ?_
      unfold execOp
      have : (do let dd ← resolve a.eval { callee := .builtin .append, args := #[x, y], argTypes := #[t, t] } o.type; invoke dd.target dd.args : Sem Next).run P W = .ok (.value (.slice (some ⟨E.A b, 0, none⟩) (n + n2) cc)) (W.setCells (E.A b) n ((vs.drop off2).take n2)) := by
        simp only [resolve, invoke, builtin]
        simp [hrun, hq, hr]
      simp only [hoo]
      rw [this]
      dsimp only [Oper.uponIn]
      rw [hdst]
      rw [hyl] at k1
      refine hK _ _ _ (k1.put (.vw ⟨_, lk_self _ _ _⟩ fn (by subst hcc; omega) f4 (fun _ _ _ _ _ hv => f5 rfl rfl _ _ _ hv)) (by simpa using hd))
end

end Go.Proofs.Ytohpbfcechbngaa
