/- A range over a function. -/
import Derived.Test.YtohpbfcechbngaaAvl
set_option linter.unusedSimpArgs false
set_option linter.unusedVariables false
namespace Go.Proofs.Ytohpbfcechbngaa
open Go.RowKit

/-- The function that an iterator is called with. -/
def yv (l : Nat) : AV := .d (.s (.func (.yield l) #[] #[]))
/-- Function value fd, called with a function, calls that with the elements of xs, one after the other, as long as it is told to go on. -/
def Iter (P : Program) (fd : D) (xs : List D) : Prop :=
  ∀ (C : Cx → Prop), Cc C → ∀ (l : Nat) (c : Nat → Nat → Option (TypeId × List AV)), (∀ i j, ClE inI (c i j)) → (∀ i x, xs[i]? = some x → FvB P C (yv l) [.d x] (Is (c i)) (.d (.s (.bool true))) (Is (c (i + 1)))) → FvB P C (.d fd) [yv l] (Is (c 0)) .any (Is (c xs.length))

/-- The context has come out of a state: what lay there lies there. -/
structure Since (own0 : Nat → Prop) (W0 : World) (EE : Env) (X : Cx) : Prop where
  rg : ∀ r, r < W0.heap.size → ¬ own0 r → ∀ (o : Nat) (vs : List Value), W0.rangeAt r o vs → X.w.rangeAt r o vs
  size : W0.heap.size ≤ X.w.heap.size
  own : ∀ r, r < W0.heap.size → X.o r ∨ X.m r → own0 r
  k : ∀ b, b ∈ [100, 102, 104] → b ∈ X.k ∧ X.E0.A b = EE.A b ∧ X.E0.V b = EE.V b ∧ X.E0.nl b = EE.nl b
  ob : ∀ (r : Nat) (ob : Obj), W0.heap[r]? = some ob → ob.isCells = false → X.w.heap[r]? = some ob ∧ ¬ X.m r
theorem HB.nocells {P : Program} {X : Cx} {bs : Bs} {E : Env} {W : World} (h : HB P X bs E W) {r : Nat} {ob : Obj} (ho : W.heap[r]? = some ob) (hc : ob.isCells = false) : ¬ ∃ b, live E bs b ∧ E.A b = r := fun ⟨b, h1, h2⟩ => by
  obtain ⟨T, cs, hb⟩ := h.blkOf h1
  unfold Blk at hb
  rw [h2, ho] at hb
  simp only [Option.some.injEq] at hb
  subst hb
  cases hc
theorem Since.c {own0 : Nat → Prop} {W0 : World} {EE : Env} : Cc (Since own0 W0 EE) := by
  refine ⟨fun P X X' bs E W h hb s => ?_, fun X N h => ⟨h.rg, h.size, h.own, h.k, h.ob⟩⟩
  have ho : ∀ r, r < W0.heap.size → ownS E X.o bs r → own0 r := by
    rintro r hr (h1 | ⟨b, h1, rfl⟩)
    · exact h.own r hr (.inl h1)
    · rcases hb.lo b h1 with h2 | h2
      · have := h.size; omega
      · exact h.own _ hr (.inr h2)
  refine ⟨fun r hr hn o vs hv => ?_, ?_, fun r hr hq => ?_, fun b hb' => ?_, fun r ob h1 h2 => ?_⟩
  · rw [s.w]
    exact rangeAt.keeps (h.rg r hr hn o vs hv) (hb.ext.blk r (Nat.lt_of_lt_of_le hr h.size) (fun hm => hn (h.own r hr (.inr hm))))
  · rw [s.w]; exact Nat.le_trans h.size hb.ext.size
  · rcases hq with hq | hq
    · exact ho r hr (s.o r hq)
    · obtain ⟨b, h1, h2⟩ := s.m r hq
      exact ho r hr (.inr ⟨b, h1, h2⟩)
  · obtain ⟨k1, k2, k3, k4⟩ := h.k b hb'
    refine ⟨s.k b k1 ?_, ?_, ?_, ?_⟩
    · simp only [List.mem_cons, List.not_mem_nil, or_false] at hb'
      rcases hb' with rfl | rfl | rfl <;> rfl
    · rw [s.E0]; exact (hb.en.A b k1).trans k2
    · rw [s.E0]; exact (hb.en.V b k1).trans k3
    · rw [s.E0]; exact (hb.en.nl b k1).trans k4
  · obtain ⟨h3, h4⟩ := h.ob r ob h1 h2
    have h5 : W.heap[r]? = some ob := (hb.ext.blk r (Array.getElem?_eq_some_iff.1 h3).1 h4).trans h3
    refine ⟨by rw [s.w]; exact h5, fun hm => hb.nocells h5 h2 (s.m r hm)⟩
/-- Where a round ends. -/
def rnd (P : Program) (X : Cx) (bs' : Bs) : Exit → Act → World → Prop
  | .normal, _, W => ∃ E', HB P X bs' E' W
  | _, _, _ => False
theorem kns_Is (c : Nat → Option (TypeId × List AV)) : kns (Is c) = [100, 102, 104] := by
  have h : kns (Is c) = [100, 101, 102, 103, 104, 105].filter kn := rfl
  rw [h]
  decide
theorem G.rndE {P : Program} {X : Cx} {al : List (Nat × AV)} {bs bs' : Bs} (hs : SubB bs bs') (hcl : ClB (inB bs') bs') (hk : X.k.all (inB bs') = true) : G P X al bs (rnd P X bs' .normal) := fun E a W hh => ⟨E, (hh.hb.res hs hcl hk).1⟩
def knI (b : Nat) : Bool := Nat.beq b 100 || Nat.beq b 102 || Nat.beq b 104
/-- The blocks of a state, and objects of the machine's own, are handed to a new context; one such object is replaced. -/
theorem HdE.rebase {P : Program} {X : Cx} {al : List (Nat × AV)} {bs : Bs} {E : Env} {a : Act} {W : World} (h : HdE P X al bs E a W) {l : Nat} {ob ob' : Obj} (hl : W.heap[l]? = some ob) (hc : ob.isCells = false) (hd : ∀ Ds : List Nat, a.defers = Ds.map (fun D => { target := .collected D, args := #[] }) → l ∉ Ds) :
    HdE P ⟨W.putObj l ob', X.o, X.N, fun r => (∃ b, live E bs b ∧ E.A b = r) ∨ (X.w.heap.size ≤ r ∧ r ≠ l) ∨ (X.m r ∧ r ≠ l), E, X.k⟩ al bs E a (W.putObj l ob') := by
  have hg := grownBy_putObj' W l ob'
  have k : Keeps (ownS E X.o bs) (ownS E X.o bs) W (W.putObj l ob') := ⟨fun r hr _ o vs h1 => rangeAt.nocells hl hc hg hr h1, hg.size, fun _ _ h => h⟩
  refine ⟨ExtM.refl _ _, fun r hr => ⟨Nat.lt_of_lt_of_le (h.o0 r hr).1 (Nat.le_trans h.ext.size hg.size), fun hq => ?_⟩, ?_, h.sz, ⟨h.en.dk, fun _ _ => rfl, fun _ _ => rfl, fun _ _ => rfl⟩, fun n x hn => ?_, fun b T cs hb => ?_, fun b hb => .inr (.inl ⟨b, hb, rfl⟩), h.nd⟩
  · rcases hq with ⟨b, h1, h2⟩ | hq | hq
    · rcases h.lo b h1 with h3 | h3
      · have := (h.o0 r hr).1; omega
      · rw [h2] at h3; exact (h.o0 r hr).2 h3
    · have := (h.o0 r hr).1; omega
    · exact (h.o0 r hr).2 hq.1
  · obtain ⟨Ds, d1, d2, d3⟩ := h.df
    have hn := hd Ds d1
    refine ⟨Ds, d1, d2, fun D hD => ?_⟩
    have hne : D ≠ l := fun e => hn (by rw [← e]; exact hD)
    refine ⟨.inr (.inr ?_), (World.putObj_heap_other hne).trans (d3 D hD).2⟩
    rcases (d3 D hD).1 with h1 | h1
    · exact .inl ⟨h1, hne⟩
    · exact .inr ⟨h1, hne⟩
  · obtain ⟨v, h1, h2⟩ := h.sl n x hn
    exact ⟨v, h1, h2.keeps k (Env.le.refl _ _) (fun _ h => h)⟩
  · exact (h.bk b T cs hb).keeps k (Env.le.refl _ _) (fun _ h => h) ⟨_, hb⟩ (fun hn => hg.block _ (h.live_lt ⟨⟨_, hb⟩, hn⟩) (fun e => h.hb.nocells hl hc ⟨b, ⟨⟨_, hb⟩, hn⟩, (Option.some.inj e).symm ▸ rfl⟩))
/-- The record of the loop. -/
abbrev rec0 (fn : FuncId) (a : Act) (ps : Array Tmp) (assign body : Code) (D : Nat) (st : LoopState) : Loop := { state := st, pending := none, fn, tmps := a.tmps, params := ps, assign, body, defers := D }
/-- A round, from what the body comes to. -/
theorem round_ok {P : Program} {fn : FuncId} {a0 : Act} {p : Tmp} {assign body : Code} {Dn l : Nat} {X2 : Cx} {bsI bs' : Bs} {alx : List (Nat × AV)} {N : Nat} {a1 : Act}
    (hob : X2.w.heap[l]? = some (.loop (rec0 fn a0 #[p] assign body Dn .ready))) (hlm : ¬ X2.m l) (hhx : HdE P ⟨X2.w, X2.o, N, X2.m, X2.E0, X2.k⟩ alx bsI X2.E0 a1 X2.w) (hd0 : a1.defers = [])
    (hround : ∀ K : Act → World → Prop, (∀ al2 bs2, (∀ w o m E0, G P ⟨w, o, N, m, E0, X2.k⟩ al2 bs2 (Wp P (some l) body (rnd P ⟨w, o, N, m, E0, X2.k⟩ bs'))) → G P ⟨X2.w, X2.o, N, X2.m, X2.E0, X2.k⟩ al2 bs2 K) → G P ⟨X2.w, X2.o, N, X2.m, X2.E0, X2.k⟩ alx bsI (Wp P (some l) assign (Exit.then K (fun _ _ _ => False)))) :
    RoundIn (FR none) 0 P l fn a1.tmps assign body X2.w (Left P X2 (.d (.s (.bool true))) bs') := by
  refine roundIn_of_wpIn (F := FR none) trivial ?_
  have ha1 : a1 = { tmps := a1.tmps, defers := [] } := by
    cases a1
    simp only at hd0
    subst hd0
    rfl
  rw [← ha1]
  refine hround _ ?_ X2.E0 a1 X2.w hhx
  intro al2 bs2 hbody E1 a1' w1 hh1
  have hlw : w1.heap[l]? = some (.loop (rec0 fn a0 #[p] assign body Dn .ready)) := (hh1.ext.blk l (Array.getElem?_eq_some_iff.1 hob).1 hlm).trans hob
  refine ⟨_, run_beginRound hlw rfl, ?_⟩
  have hl2 : l < X2.w.heap.size := (Array.getElem?_eq_some_iff.1 hob).1
  have hDs : ∀ Ds : List Nat, a1'.defers = Ds.map (fun D => { target := .collected D, args := #[] }) → l ∉ Ds := fun Ds hD hm => by
    obtain ⟨Ds', d1, d2, d3⟩ := hh1.df
    rw [d1] at hD
    have hmm : l ∈ Ds' := by
      have : (⟨.collected l, #[]⟩ : Deferred) ∈ Ds'.map (fun D => ({ target := .collected D, args := #[] } : Deferred)) := by rw [hD]; exact List.mem_map.2 ⟨l, hm, rfl⟩
      obtain ⟨x, hx, he⟩ := List.mem_map.1 this
      cases he
      exact hx
    have := (d3 l hmm).2
    rw [hlw] at this
    cases this
  have hrb := hh1.rebase (ob' := .loop { rec0 fn a0 #[p] assign body Dn .ready with state := .busy }) hlw rfl hDs
  refine Wp.mono (hbody _ _ _ _ E1 a1' _ hrb) ?_
  rintro e a3 W3 hq
  cases e with
  | normal =>
    obtain ⟨E', hB⟩ := hq
    have hlb : (w1.putObj l (.loop { rec0 fn a0 #[p] assign body Dn .ready with state := .busy })).heap[l]? = some (.loop { rec0 fn a0 #[p] assign body Dn .ready with state := .busy }) := World.putObj_heap_same (Array.getElem?_eq_some_iff.1 hlw).1
    have hml : ¬ ((∃ b, live E1 bs2 b ∧ E1.A b = l) ∨ (X2.w.heap.size ≤ l ∧ l ≠ l) ∨ (X2.m l ∧ l ≠ l)) := by
      rintro (h1 | h1 | h1)
      · exact hh1.hb.nocells hlw rfl h1
      · exact h1.2 rfl
      · exact h1.2 rfl
    have hl3 : W3.heap[l]? = some (.loop { rec0 fn a0 #[p] assign body Dn .ready with state := .busy }) := (hB.ext.blk l (Array.getElem?_eq_some_iff.1 hlb).1 hml).trans hlb
    have hre : (Instr.endRound l none).run P W3 = .ok (.bool true) (W3.putObj l (.loop (rec0 fn a0 #[p] assign body Dn .ready))) := run_endRound none hl3
    refine ⟨_, _, hre, ?_⟩
    have hg := grownBy_putObj' W3 l (.loop (rec0 fn a0 #[p] assign body Dn .ready))
    have hg1 := grownBy_putObj' w1 l (.loop { rec0 fn a0 #[p] assign body Dn .ready with state := .busy })
    have k : Keeps (ownS E' X2.o bs') (ownS E' X2.o bs') W3 (W3.putObj l (.loop (rec0 fn a0 #[p] assign body Dn .ready))) := ⟨fun r hr _ o vs h1 => rangeAt.nocells hl3 rfl hg hr h1, hg.size, fun _ _ h => h⟩
    refine ⟨_, E', rfl, ⟨⟨?_, ?_, ?_, ?_, fun r hr hn => ?_⟩, hhx.o0, ⟨hB.en.dk, fun b hb => (hB.en.A b hb).trans (hh1.en.A b hb), fun b hb => (hB.en.V b hb).trans (hh1.en.V b hb), fun b hb => (hB.en.nl b hb).trans (hh1.en.nl b hb)⟩, fun b T cs hb => ?_, fun b hb => ?_, hB.nd⟩, .d (.s rfl)⟩
    · exact hg.os.trans (hB.ext.os.trans (hg1.os.trans hh1.ext.os))
    · exact hg.tape.trans (hB.ext.tape.trans (hg1.tape.trans hh1.ext.tape))
    · exact hg.output.trans (hB.ext.output.trans (hg1.output.trans hh1.ext.output))
    · exact Nat.le_trans hh1.ext.size (Nat.le_trans hg1.size (Nat.le_trans hB.ext.size hg.size))
    · by_cases he : r = l
      · subst he
        rw [hob]
        exact World.putObj_heap_same (Array.getElem?_eq_some_iff.1 hl3).1
      · have h1 : (W3.putObj l (.loop (rec0 fn a0 #[p] assign body Dn .ready))).heap[r]? = W3.heap[r]? := World.putObj_heap_other he
        have h2 : W3.heap[r]? = (w1.putObj l (.loop { rec0 fn a0 #[p] assign body Dn .ready with state := .busy })).heap[r]? := hB.ext.blk r (Nat.lt_of_lt_of_le hr (Nat.le_trans hh1.ext.size hg1.size)) (by
          rintro (⟨b, h1, h2⟩ | h1 | h1)
          · rcases hh1.lo b h1 with h3 | h3
            · have h4 : X2.w.heap.size ≤ E1.A b := h3
              omega
            · rw [h2] at h3; exact hn h3
          · have h4 : X2.w.heap.size ≤ r := h1.1
            omega
          · exact hn h1.1)
        exact h1.trans (h2.trans ((World.putObj_heap_other he).trans (hh1.ext.blk r hr hn)))
    · exact (hB.bk b T cs hb).keeps k (Env.le.refl _ _) (fun _ h => h) ⟨_, hb⟩ (fun hn => hg.block _ (by obtain ⟨T', cs', h1⟩ := hB.blkOf ⟨⟨_, hb⟩, hn⟩; exact h1.lt) (fun e => hB.nocells hl3 rfl ⟨b, ⟨⟨_, hb⟩, hn⟩, (Option.some.inj e).symm ▸ rfl⟩))
    · rcases hB.lo b hb with h1 | ⟨b', h1, h2⟩ | h1 | h1
      · exact .inl (Nat.le_trans hh1.ext.size (Nat.le_trans hg1.size h1))
      · rw [← h2]; exact hh1.lo b' h1
      · exact .inl h1.1
      · exact .inr h1.1
  | _ => exact hq.elim

/-- 'for x := range f { .. }': the state of the body's variables goes from c i to c (i + 1) in the round of the element i. -/
theorem G.rf {P : Program} {X : Cx} {al alR al' : List (Nat × AV)} {bs bsF bs2 : Bs} {Q : Exit → Act → World → Prop} {g : Operand} {p : Tmp} {assign body : Code} {fd : D} {xs : List D} (it : Iter P fd xs) (c : Nat → Nat → Option (TypeId × List AV))
    (hround : ∀ l i x, xs[i]? = some x → ∀ w o m E0, ∀ K : Act → World → Prop, (∀ al2 bs2, (∀ w o m E0, G P ⟨w, o, X.N, m, E0, [100, 102, 104]⟩ al2 bs2 (Wp P (some l) body (rnd P ⟨w, o, X.N, m, E0, [100, 102, 104]⟩ (Is (c (i + 1)))))) → G P ⟨w, o, X.N, m, E0, [100, 102, 104]⟩ al2 bs2 K) → G P ⟨w, o, X.N, m, E0, [100, 102, 104]⟩ ((p, .d x) :: alR) (Is (c i)) (Wp P (some l) assign (Exit.then K (fun _ _ _ => False))))
    (h : G P X al' bs2 (Q .normal)) (hg : Evd al g (.d fd)) (hcl : ∀ i j, ClE inI (c i j)) (hs : SubB bs (Is (c 0))) (hR : SubA knI al alR) (hF : FkB bs bsF) (hA : Fk al al') (hb2 : Is (c xs.length) ++ bsF = bs2) (hk : X.k.all (fun b => kn b && (!(Nat.ble 100 b) || inI b)) = true) (hp : Nat.blt p X.N = true) (hfd : ∃ K es, fd = .fn K es ∧ fbody P K = true) :
    G P X al bs (Wp P none (Code.rangeFunc g #[p] assign body) Q) := fun E a W hh => by
  subst hb2
  obtain ⟨K0, es, rfl, hfb⟩ := hfd
  unfold Wp
  refine wpIn_rangeFunc (F := FR none) (n := 0) ?_
  intro fn _
  have hk1 : X.k.all kn = true := by
    rw [List.all_eq_true] at hk ⊢
    intro b hb
    have := hk b hb
    simp only [Bool.and_eq_true] at this
    exact this.1
  have hvf := hh.evd hg
  obtain ⟨W1, hW1⟩ : ∃ W1, (W.alloc (.deferred (some []))).alloc (.loop (rec0 fn a #[p] assign body W.heap.size .ready)) = W1 := ⟨_, rfl⟩
  have hE1 : Ext W W1 := by rw [← hW1]; exact (ext_alloc _ _).trans (ext_alloc _ _)
  have hL1 : W1.heap[W.heap.size + 1]? = some (.loop (rec0 fn a #[p] assign body W.heap.size .ready)) := by
    rw [← hW1]
    have := World.alloc_heap_new (W.alloc (.deferred (some []))) (.loop (rec0 fn a #[p] assign body W.heap.size .ready))
    rwa [World.size_alloc] at this
  have hD1 : W1.heap[W.heap.size]? = some (.deferred (some [])) := by
    rw [← hW1]
    exact (Below.heap_alloc _ _ _ (by simp)).trans (World.alloc_heap_new W _)
  have hh1 : HdE P X al bs E a W1 := hh.grow hE1
  have hent := hh1.hb.enter hs (Is.cl (hcl 0))
  have hSince : Since (ownS E X.o bs) W1 E (subx X bs (Is (c 0)) E W1) := by
    refine ⟨fun r _ _ o vs h => h, Nat.le_refl _, fun r _ hq => ?_, fun b hb => ?_, fun r ob h1 h2 => ⟨h1, fun hm => hent.nocells h1 h2 hm⟩⟩
    · rcases hq with hq | ⟨b, ⟨⟨q, h1⟩, h2⟩, rfl⟩
      · exact hq.1
      · exact .inr ⟨b, ⟨⟨q, hs.get h1⟩, h2⟩, rfl⟩
    · refine ⟨?_, rfl, rfl, rfl⟩
      show b ∈ kns (Is (c 0))
      rw [kns_Is]
      exact hb
  have hyield : ∀ i x, xs[i]? = some x → FvB P (Since (ownS E X.o bs) W1 E) (yv (W.heap.size + 1)) [.d x] (Is (c i)) (.d (.s (.bool true))) (Is (c (i + 1))) := by
    intro i x hx X2 f vs hC2 hk2 hb2 hf2 ha2
    obtain ⟨hob, hlm⟩ := hC2.ob _ _ hL1 rfl
    cases hf2 with
    | d hf2 =>
      cases hf2 with
      | s _ =>
        cases ha2 with
        | @cons v _ vs' _ hv ht =>
          cases ht with
          | nil =>
            have hry : (Instr.yield (W.heap.size + 1) #[v]).run P X2.w = .ok (.round (W.heap.size + 1) fn (a.tmps.setIfInBounds p v) assign body) X2.w := by
              have := run_yield (P := P) (args := #[v]) hob rfl
              simpa using this
            refine .inr ⟨_, rfl, _, _, _, _, hry, ?_⟩
            have hk2' : X2.k = [100, 102, 104] := hk2.trans (kns_Is _)
            have k : Keeps (ownS E X.o bs) (ownS X2.E0 X2.o (Is (c i))) W1 X2.w := by
              refine ⟨hC2.rg, hC2.size, fun r hr hq => ?_⟩
              rcases hq with hq | ⟨b, h1, rfl⟩
              · exact hC2.own r hr (.inl hq)
              · rcases hb2.lo b h1 with h2 | h2
                · have := hC2.size; omega
                · exact hC2.own _ hr (.inr h2)
            have hkn : ∀ b, knI b = true → b ∈ [100, 102, 104] := fun b hb => by
              simp only [knI, Bool.or_eq_true, Nat.beq_eq] at hb
              rcases hb with (rfl | rfl) | rfl <;> decide
            have hle : Env.le (fun b => b ∈ [100, 102, 104]) E X2.E0 := ⟨fun b hb => (hC2.k b hb).2.1, fun b hb => (hC2.k b hb).2.2.1, fun b hb => (hC2.k b hb).2.2.2⟩
            have hdm : ∀ b, b ∈ [100, 102, 104] → dom (Is (c i)) b := fun b hb => by
              simp only [List.mem_cons, List.not_mem_nil, or_false] at hb
              rcases hb with rfl | rfl | rfl
              · exact ⟨_, rfl⟩
              · exact ⟨_, rfl⟩
              · exact ⟨_, rfl⟩
            have hst : HdE P ⟨X2.w, X2.o, X.N, X2.m, X2.E0, X2.k⟩ alR (Is (c i)) X2.E0 { tmps := a.tmps, defers := [] } X2.w := by
              refine (HB.hd (X := ⟨X2.w, X2.o, X.N, X2.m, X2.E0, X2.k⟩) ⟨hb2.ext, hb2.o0, hb2.en, hb2.bk, hb2.lo, hb2.nd⟩ (.nil rfl) hh.sz (fun n y hy => ?_))
              obtain ⟨h1, h2⟩ := hR.get hy
              obtain ⟨u, e1, e2⟩ := hh1.sl n y h1
              exact ⟨u, e1, (e2.nums (dm' := fun b => b ∈ [100, 102, 104]) (fun b _ hb => hkn b hb) h2).keeps k hle hdm⟩
            have hst2 := hst.put (n := p) hv (by simpa using hp)
            refine round_ok (a0 := a) (Dn := W.heap.size) (alx := (p, .d x) :: alR) (bsI := Is (c i)) (N := X.N) (a1 := { tmps := a.tmps.setIfInBounds p v, defers := [] }) hob hlm hst2 rfl ?_
            rw [hk2']
            exact fun K hK => hround _ i x hx X2.w X2.o X2.m X2.E0 K hK
  have hcall := it _ Since.c (W.heap.size + 1) c hcl hyield (subx X bs (Is (c 0)) E W1) (a.eval g) [.func (.yield (W.heap.size + 1)) #[] #[]] hSince rfl hent ?_ (.cons (.d (.s rfl)) .nil)
  · have hvf' := hvf
    generalize hq : a.eval g = f at hvf' hcall
    cases hvf' with
    | d hvf' =>
      cases hvf' with
      | @fn _ lb _ hlb =>
        rcases hcall with ⟨K', caps, hq', hbd, hcalls⟩ | ⟨l, hq', _⟩
        · cases hq'
          refine ⟨W.heap.size + 1, [{ target := .collected W.heap.size, args := #[] }], W1, { target := .fn (.func K0) lb.toArray, args := #[.func (.yield (W.heap.size + 1)) #[] #[]] }, W1, K0, #[.func (.yield (W.heap.size + 1)) #[] #[]] ++ lb.toArray, W1, ?_, ?_, fun _ _ => trivial, ?_, (fun h => by cases h), ?_⟩
          · rw [← hW1]; exact run_enterLoop_outer _ _ _ _ _
          · show (Deferred.ofValue (a.eval g) (#[Operand.const (.func (.yield (W.heap.size + 1)) #[] #[])].map a.eval)).run P W1 = _
            rw [hq]
            simp [Deferred.ofValue, Act.eval]
          · simp [invoke, callFunc_enter hfb]
          · refine (callsIn_wide (n := 0)).2 (hcalls.mono ?_)
            rintro e W2 ⟨u, E', rfl, hB, _⟩
            obtain ⟨g1, g2, g3, g4, g5⟩ := hh1.hb.back hs (bs' := Is (c xs.length)) rfl hB hF hk1
            have hL2 := g5 _ _ hL1 rfl
            refine ⟨none, _, run_endLoop hL2 (by simp), ?_⟩
            have hdf : DfOk (fun D => X.w.heap.size ≤ D ∨ X.m D) { a with defers := [{ target := .collected W.heap.size, args := #[] }] ++ a.defers } (W2.putObj (W.heap.size + 1) (.loop { rec0 fn a #[p] assign body W.heap.size .ready with state := .exhausted })) := by
              obtain ⟨Ds, d1, d2, d3⟩ := hh.df
              have hlt : ∀ D ∈ Ds, D < W.heap.size := fun D hD => (Array.getElem?_eq_some_iff.1 (d3 D hD).2).1
              refine ⟨W.heap.size :: Ds, by rw [d1]; rfl, List.nodup_cons.2 ⟨fun hm => by have := hlt _ hm; omega, d2⟩, fun D hD => ?_⟩
              rcases List.mem_cons.1 hD with rfl | hD
              · exact ⟨.inl hh.ext.size, (World.putObj_heap_other (by omega)).trans (g5 _ _ hD1 rfl)⟩
              · refine ⟨(d3 D hD).1, (World.putObj_heap_other (by have := hlt D hD; omega)).trans (g5 _ _ ?_ rfl)⟩
                rw [hE1.below.block D (hlt D hD)]
                exact (d3 D hD).2
            refine h _ _ _ (HdE.putObj (a := { a with defers := [] }) (g1.hd (.nil rfl) hh.sz (fun n z hn => ?_)) hL2 rfl (.inl (Nat.le_succ_of_le hh.ext.size)) rfl hdf)
            obtain ⟨z', hz1, hz2⟩ := hA.get hn
            obtain ⟨v, hv1, hv2⟩ := hh1.sl n z' hz1
            rcases hz2 with rfl | ⟨rfl, hz3⟩
            · exact ⟨v, hv1, .any⟩
            · exact ⟨v, hv1, g3 v z hv2 hz3⟩
        · cases hq'
  · have ho' : ∀ r, ownS E (subx X bs (Is (c 0)) E W1).o (Is (c 0)) r → ownS E X.o bs r := by
      rintro r (h1 | ⟨b, ⟨⟨q, h1⟩, h2⟩, rfl⟩)
      · exact h1.1
      · exact .inr ⟨b, ⟨⟨q, hs.get h1⟩, h2⟩, rfl⟩
    exact ((hh1.evd hg).nums (p := fun _ => false) (dm' := dom (Is (c 0))) (fun b _ h => by cases h) rfl).keeps (.of (fun _ _ _ => rfl) (Nat.le_refl _) (fun r _ h => ho' r h)) (Env.le.refl _ _) (fun _ h => h)
end Go.Proofs.Ytohpbfcechbngaa
