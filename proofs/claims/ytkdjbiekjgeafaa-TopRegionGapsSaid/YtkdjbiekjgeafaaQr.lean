/- Address spaces, the reference's side: pieces. -/
/- Address spaces, the reference's side: change. -/
/- Address spaces, the reference's side: Protect, Lock. -/
/- Address spaces, the reference's side: Grow. -/
/- The laws' do, the reference's Do: a call of a script. -/
/- Arrays of cells: literals, places, elements. -/
/- Address spaces, the laws' functions: seen, do. -/
/- What is seen of pages, compared. -/
/- What is seen of pages, of lists of regions: plain laws. -/
/- What the calls change of what is seen: plain laws. -/
/- The law's function wanted. -/
import Derived.Test.YtkdjbiekjgeafaaQl
import Derived.Test.YtkdjbiekjgeafaaQp
import Derived.Test.YtkdjbiekjgeafaaQc
set_option linter.unusedSimpArgs false
set_option linter.unusedVariables false
namespace Go.Proofs.Ytkdjbiekjgeafaa
open Go.RowKit

/-- A region's parts, and the number of the one in the range. -/
def pcsL (x : RV) (g c : Int) : List RV := (divP x g c).map (·.1)
def pcsJ (x : RV) (g : Int) : Nat := if x.s < g then 1 else 0
theorem pcs_at {x : RV} {g c : Int} (hx : chkV x = 0) (h1 : g < x.s + x.p) (h2 : x.s < g + c) (hc : 1 ≤ c) : ∃ y, (pcsL x g c)[pcsJ x g]? = some y ∧ (∀ tr, (pcsL x g c).set (pcsJ x g) (tr y) = (divP x g c).map (selT tr)) ∧ chkV y = 0 ∧ (y.f = x.f ∨ y.f = bits .andNot .i64 x.f 2) := by
  have bx := chkV_bd hx
  unfold pcsL pcsJ divP divH divR
  by_cases h3 : x.s < g
  · rw [split_in hx h3 h1]
    simp only [if_true, if_pos h3, List.map_cons]
    have q1 := spLo_ok hx h3 h1
    have q2 := spHi_ok hx h3 h1
    have e3 : (spHi x g).s = g := rfl
    have e4 : (spHi x g).p = x.p - (g - x.s) := rfl
    by_cases h4 : g + c < x.s + x.p
    · rw [split_in q2 (by omega) (by omega)]
      refine ⟨spLo (spHi x g) (g + c), rfl, fun tr => rfl, spLo_ok q2 (by omega) (by omega), .inr rfl⟩
    · rw [split_out q2 (.inr (by omega))]
      exact ⟨spHi x g, rfl, fun tr => rfl, q2, .inr rfl⟩
  · rw [split_out hx (.inl (by omega))]
    simp only [show ((2 : Int) = 0) = False by simp, if_false, if_neg h3]
    by_cases h4 : g + c < x.s + x.p
    · rw [split_in hx h2 h4]
      exact ⟨spLo x (g + c), rfl, fun tr => rfl, spLo_ok hx h2 h4, .inl rfl⟩
    · rw [split_out hx (.inr (by omega))]
      exact ⟨x, rfl, fun tr => rfl, hx, .inl rfl⟩

attribute [local irreducible] Wp WL WO fin finB rnd Exit.then Exit.inBlock G GD LT Rd Fn FnB FvB Iter
attribute [local go_sem] RV.row TD.row
end Go.Proofs.Ytkdjbiekjgeafaa

set_option linter.unusedSimpArgs false
set_option linter.unusedVariables false
namespace Go.Proofs.Ytkdjbiekjgeafaa
open Go.RowKit

theorem cat_len3 (f : RV → List RV) (hf : ∀ x, (f x).length ≤ 3) : ∀ l : List RV, (cat f l).length ≤ 3 * l.length
  | [] => Nat.zero_le _
  | x :: l => by
    have := hf x
    have := cat_len3 f hf l
    show (f x ++ cat f l).length ≤ _
    simp only [List.length_append, List.length_cons]
    omega
theorem chgL_len (oth : RV → Bool) (tr : RV → RV) (g c : Int) (x : RV) : (chgL oth tr g c x).length ≤ 3 := by
  unfold chgL
  split
  · simp
  · rw [List.length_map]; exact divP_len x g c
theorem flag4n : ∀ n : Fin 16, (bits .andNot .i64 (n.1 : Int) 2 / 4 % 2 == 1) = ((n.1 : Int) / 4 % 2 == 1) := by decide
/-- What the reference leaves alone. -/
def skR (x : RV) (g c n : Int) (on : Bool) : Bool := decide (x.s + x.p ≤ g) || decide (g + c ≤ x.s) || (decide (0 < n) && x.r == n) || (n == 0 && (x.f / 4 % 2 == 1) == on)

attribute [local irreducible] Wp WL WO fin finB rnd Exit.then Exit.inBlock G GD LT Rd Fn FnB FvB Iter
attribute [local go_sem] RV.row TD.row
end Go.Proofs.Ytkdjbiekjgeafaa

set_option linter.unusedSimpArgs false
set_option linter.unusedVariables false
namespace Go.Proofs.Ytkdjbiekjgeafaa
open Go.RowKit

theorem flag4x : ∀ n : Fin 16, (bits .and .i64 (n.1 : Int) 4 != 0) = ((n.1 : Int) / 4 % 2 == 1) ∧ bits .xor .i64 (n.1 : Int) 4 = (if ((n.1 : Int) / 4 % 2 == 1) = true then (n.1 : Int) - 4 else (n.1 : Int) + 4) := by decide
theorem skip_prot {x : RV} (hx : chkV x = 0) (g c : Int) {n : Int} (hn : 0 < n) : skR x g c n false = skipB x g c (fun x => x.r != n) := by
  have h1 : decide (0 < n) = true := by simpa using hn
  have h2 : (n == 0) = false := by simp; omega
  unfold skR skipB
  rw [endV_ok hx, h1, h2]
  simp [bne]
theorem skip_lock {x : RV} (hx : chkV x = 0) (g c : Int) (on : Bool) : skR x g c 0 on = skipB x g c (fun x => (bits .and .i64 x.f 4 != 0) != on) := by
  have bx := chkV_bd hx
  obtain ⟨m, hm⟩ := nat16 bx.2.2.2.2.1 bx.2.2.2.2.2.1
  have e : (bits .and .i64 x.f 4 != 0) = (x.f / 4 % 2 == 1) := by rw [hm]; exact (flag4x m).1
  unfold skR skipB
  rw [endV_ok hx]
  dsimp only
  rw [e]
  cases on <;> cases (x.f / 4 % 2 == 1) <;> simp
theorem lock_turn {on : Bool} (x y : RV) (hx : chkV x = 0) (hy : chkV y = 0) (hf : y.f = x.f ∨ y.f = bits .andNot .i64 x.f 2) (ho : ((bits .and .i64 x.f 4 != 0) != on) = true) : lkT y = { y with f := if on then y.f + 4 else y.f - 4 } := by
  have bx := chkV_bd hx
  have bY := chkV_bd hy
  obtain ⟨m, hm⟩ := nat16 bx.2.2.2.2.1 bx.2.2.2.2.2.1
  obtain ⟨k, hk⟩ := nat16 bY.2.2.2.2.1 bY.2.2.2.2.2.1
  have e : ((k.1 : Int) / 4 % 2 == 1) = ((m.1 : Int) / 4 % 2 == 1) := by
    rcases hf with h | h
    · rw [← hk, h, hm]
    · rw [← hk, h, hm]; exact flag4n m
  rw [hm, (flag4x m).1, ← e] at ho
  unfold lkT
  rw [hk, (flag4x k).2]
  cases on <;> cases hq : ((k.1 : Int) / 4 % 2 == 1) <;> rw [hq] at ho <;> simp_all

attribute [local irreducible] Wp WL WO fin finB rnd Exit.then Exit.inBlock G GD LT Rd Fn FnB FvB Iter
attribute [local go_sem] RV.row TD.row
end Go.Proofs.Ytkdjbiekjgeafaa

set_option linter.unusedSimpArgs false
set_option linter.unusedVariables false
namespace Go.Proofs.Ytkdjbiekjgeafaa
open Go.RowKit

theorem flag2 : ∀ n : Fin 16, ((n.1 : Int) / 2 % 2 == 0) = (bits .and .i64 (n.1 : Int) 2 == 0) := by decide
theorem find2_iff (l : List RV) (g : Int) : (findV l g).2 = true ↔ (nextV l g).2 = true ∧ (nextV l g).1.s ≤ g := by
  unfold findV
  cases h : (nextV l g).2 with
  | false => simp
  | true =>
    by_cases c : g < (nextV l g).1.s
    · simp [c]
    · simp [c]; omega
/-- The first region that does not begin below g, and the one that ends above it. -/
theorem next_first {g : Int} : ∀ (l : List RV) (i : Nat) (x : RV), l[i]? = some x → (∀ j y, j < i → l[j]? = some y → ¬ g < y.s + y.p) → g < x.s + x.p → nextV l g = (x, true)
  | [], i, x, h, _, _ => by simp at h
  | z :: l, 0, x, h, _, hg => by
    cases h
    rw [nextV_cons, if_pos hg]
  | z :: l, i + 1, x, h, hn, hg => by
    rw [nextV_cons, if_neg (hn 0 z (by omega) rfl)]
    exact next_first l i x h (fun j y hj hy => hn (j + 1) y (by omega) hy) hg
theorem next_none {g : Int} : ∀ (l : List RV), (∀ y ∈ l, ¬ g < y.s + y.p) → (nextV l g).2 = false
  | [], _ => rfl
  | z :: l, h => by
    rw [nextV_cons, if_neg (h z (by simp))]
    exact next_none l (fun y hy => h y (by simp [hy]))
/-- An empty literal: a row of one's own. -/
theorem LT.bs0 {P : Program} {X : Cx} {al : List (Nat × AV)} {bs : Bs} {t e size bytes d k : Nat} [hT : TAp P t e size bytes] (hk : bs.length = k := by simp only [List.length_cons, List.length_nil, Nat.reduceAdd]; rfl) (hf : lk bs k = none := by rfl) (hd : Nat.blt d X.N = true := by rfl) :
    LT P X al bs (.buildSlice t 0 #[]) (some d) [k] [(d, .o k 0)] [(k, some (e, ([] : List (List D)).flatten.map .d))] := fun ro al2 bs2 hL hB E a W hh o ho hdst K Q hK => by
  have hf2 : lk bs2 k = none := (hB k (List.mem_cons_self ..)).trans hf
  obtain ⟨i0, z, hu, hie, hz, hsz, hbs, hzs, hpos⟩ := hT.h
  have hh' := hh.alloc (T := e) (n := 0) (m := size) (vs := []) (cs := []) hf2 .nil (by rw [hie, Option.map_some, hsz]) (by simp) (by decide)
  have hrun : (Instr.buildSlice t 0 #[]).run P W = .ok (.slice (some ⟨W.heap.size, 0, none⟩) 0 0) (W.alloc (.cells #[] e)) := by
    simp [Instr.buildSlice, run_underlying hu, sizeOf, typeInfo, hie, newRow, newObj, Instr.fill, Sem.run]
    rw [show Array.map (fun _ => (default : Value)) (Array.range 0) = #[] from Array.eq_empty_of_size_eq_zero (by simp)]
  refine WO.of (by rw [ho]; intro c h; cases h) ?_
  unfold execOp
  simp only [ho, Sem.run_bind, List.map_toArray, List.map_nil, Array.map_empty, hrun, Result.andThen_ok, Sem.run_pure]
  dsimp only [Oper.uponIn]
  rw [hdst]
  exact hK _ _ _ (hh'.put (.o ⟨_, lk_self _ _ _⟩ (by rw [Env.set_V])) (by simpa using hd))

attribute [local irreducible] Wp WL WO fin finB rnd Exit.then Exit.inBlock G GD LT Rd Fn FnB FvB Iter
attribute [local go_sem] RV.row TD.row
def rgI (p : PT) (g : Int) (i : Nat) : List (Nat × AV) × Bs := ([(12, .d (.s (.int .i64 (i : Int)))), (11, .o 0 (rws p.flat).length), (1, .d (.s (.int .i64 g))), (4, .p 1 0)], [(0, some (25, (rws p.flat).flatten.map .d)), (1, some (28, zDs.map .d))])
end Go.Proofs.Ytkdjbiekjgeafaa

set_option linter.unusedSimpArgs false
set_option linter.unusedVariables false
namespace Go.Proofs.Ytkdjbiekjgeafaa
open Go.RowKit

/-- A call of the laws' scripts. -/
structure OV where
  k : Int
  r : RV
  g : Int
  c : Int
  n : Int
def OV.row (o : OV) : List D := [.s (.int .i64 o.k), .s (.int .i64 o.r.s), .s (.int .i64 o.r.p), .s (.int .i64 o.r.r), .s (.int .i64 o.r.f), .s (.int .i64 o.r.i), .s (.int .i64 o.r.x), .s (.int .i64 o.g), .s (.int .i64 o.c), .s (.int .i64 o.n)]
def ows (l : List OV) : List (List D) := l.map OV.row
/-- What a call asks for, and what it leaves. -/
def askT (p : PT) (o : OV) : PT × Int := if o.k = 0 then mapT p o.r else if o.k = 1 then unmapT p o.g o.c else if o.k = 2 then protT p o.g o.c o.n else if o.k = 3 then lockT p o.g o.c (o.n == 1) else if o.k = 4 then growT p o.g else (p, 6)
def doT (p : PT) (o : OV) : PT × Int := if (askT p o).2 = 0 then ((askT p o).1, 0) else (p, (askT p o).2)
theorem askT_asp {p : PT} (hp : ASP p) {o : OV} (h : (askT p o).2 = 0) : ASP (askT p o).1 := by
  unfold askT at h ⊢
  by_cases h0 : o.k = 0
  · rw [if_pos h0] at h ⊢; exact mapT_asp hp h
  · rw [if_neg h0] at h ⊢
    by_cases h1 : o.k = 1
    · rw [if_pos h1] at h ⊢; exact unmapT_asp hp h
    · rw [if_neg h1] at h ⊢
      by_cases h2 : o.k = 2
      · rw [if_pos h2] at h ⊢; exact protT_asp hp h
      · rw [if_neg h2] at h ⊢
        by_cases h3 : o.k = 3
        · rw [if_pos h3] at h ⊢; exact lockT_asp hp h
        · rw [if_neg h3] at h ⊢
          by_cases h4 : o.k = 4
          · rw [if_pos h4] at h ⊢; exact growT_asp hp h
          · rw [if_neg h4] at h; cases h
theorem doT_asp {p : PT} (hp : ASP p) (o : OV) : ASP (doT p o).1 := by
  unfold doT
  split
  · rename_i h; exact askT_asp hp h
  · exact hp

attribute [local irreducible] Wp WL WO fin finB rnd Exit.then Exit.inBlock G GD LT Rd Fn FnB FvB Iter
attribute [local go_sem] RV.row TD.row OV.row
end Go.Proofs.Ytkdjbiekjgeafaa

set_option linter.unusedSimpArgs false
set_option linter.unusedVariables false
namespace Go.Proofs.Ytkdjbiekjgeafaa
open Go.RowKit

def tar (P : Program) (T : Nat) : Option (Nat × Nat) := match P.underlying T with
  | some (.array n e) => match P.info? e with
    | some i => if Nat.beq i.size 1 then some (n, e) else none
    | none => none
  | _ => none
/-- An array of n elements of one cell. -/
class TAr (P : Program) (T : TypeId) (n e : outParam Nat) (pl : outParam (List (Nat × Nat))) : Prop where
  h : tar P T = some (n, e)
  p : pl = (List.range n).map (fun i => (i, 1))
theorem TAr.get {P : Program} {T n e : Nat} {pl : List (Nat × Nat)} (i : TAr P T n e pl) : P.underlying T = some (.array n e) ∧ ∃ f, P.info? e = some f ∧ f.size = 1 := by
  have h := i.h
  unfold tar at h
  split at h
  · rename_i n' e' hu
    split at h
    · rename_i f hf
      split at h
      · rename_i hs
        simp only [Option.some.injEq, Prod.mk.injEq] at h
        obtain ⟨rfl, rfl⟩ := h
        exact ⟨hu, f, hf, Nat.eq_of_beq_eq_true hs⟩
      · cases h
    · cases h
  · cases h
theorem fill_mono {f g : Nat → Option (Nat × Nat)} (hfg : ∀ i p, f i = some p → g i = some p) : ∀ (parts : List (Nat × Value)) (cs r : Array Value), Instr.fill f cs parts = some r → Instr.fill g cs parts = some r
  | [], cs, r, h => by simpa [Instr.fill] using h
  | (i, v) :: rest, cs, r, h => by
    simp only [Instr.fill] at h ⊢
    cases hf : f i with
    | none => rw [hf] at h; cases h
    | some p =>
      rw [hf] at h
      rw [hfg i p hf]
      obtain ⟨off, size⟩ := p
      dsimp only at h ⊢
      split at h
      · cases h
      · rename_i hc
        rw [if_neg hc]
        exact fill_mono hfg rest _ r h
section
variable {P : Program} {a : Act} {W : World} {X : Cx} {al : List (Nat × AV)} {bs : Bs} {T : TypeId} {n e : Nat} {pl : List (Nat × Nat)}
theorem Rd.bldN {s : Nat} {zs : List AV} {parts : List (Nat × Operand)} {qs : List (Nat × List AV)} {cs : List AV} {ds : List D} [hT : TAr P T n e pl] [hZ : TZc P T s zs] (hp : EvP al parts qs) (hb : bldC pl zs qs = some cs) (hd : Pl cs ds) : Rd P X al bs [] (.build T parts.toArray) (.d (.st ds)) := fun al2 bs2 hl hB E a W h => by
  obtain ⟨inf, z, vs, hi, hz, hzc, _, _, hvc, hzs⟩ := hZ.h
  subst hzs
  have hpa := (EvP.loc hl (fun p hp => by simp [Op.operands]; exact ⟨_, hp⟩) hp).pal h
  obtain ⟨zs', h1, h2⟩ := hpa.bld (RAL.zeros hvc) hb
  refine ⟨.agg zs'.toArray, .d (.st ?_), ?_⟩
  · rw [hd.h] at h2
    exact h2.unmap
  · intro op ho
    obtain ⟨hu, f, hf, hfs⟩ := hT.get
    have hfe := fill_eq pl (parts.map (fun p => (p.1, a.eval p.2))) vs.toArray
    simp only [List.map_map, Function.comp_def] at h1 hfe
    rw [h1] at hfe
    have hg := fill_mono (f := fun x => pl[x]?) (g := fun i => some (i * 1, 1)) (fun i p hp => by
      rw [hT.p, List.getElem?_map] at hp
      cases hr : (List.range n)[i]? with
      | none => rw [hr] at hp; cases hp
      | some j =>
        rw [hr] at hp
        simp only [Option.map_some, Option.some.injEq] at hp
        subst hp
        rw [List.getElem?_range (by have := (List.getElem?_eq_some_iff.1 hr).1; simpa using this)] at hr
        cases hr
        simp) _ _ _ hfe
    unfold execOp
    simp [ho, Instr.build, zeroValue, typeInfo, hi, hz, hzc, run_underlying hu, sizeOf, hf, hfs, hg, Function.comp_def] at hg ⊢
    simp [hg]
theorem yl_ixN {x y : Operand} {b o : Nat} {k : IntKind} {i : Int} (hT : TAr P T n e pl) (hx : a.eval x = .pointer (some ⟨b, o, none⟩)) (hy : a.eval y = .int k i) (h0 : 0 ≤ i) (h1 : i < n) : Yld P a W (.indexAddr T x y) (.pointer (some ⟨b, o + i.toNat, none⟩)) := by
  intro op ho
  obtain ⟨hu, f, hf, hfs⟩ := hT.get
  unfold execOp
  simp [ho, hx, hy, Instr.indexAt, Instr.sureAddr, asIntOf, run_underlying hu, sizeOf, typeInfo, hf, hfs, h0, h1, Addr.add_mid]
/-- An element's place. -/
theorem Rd.ixN {k : IntKind} {i : Int} {x : Operand} {b off o' : Nat} [hT : TAr P T n e pl] (hx : Evd al x (.p b off)) (h : decide (0 ≤ i) && decide (i < n) = true) (ho : off + i.toNat = o') : Rd P X al bs [] (.indexAddr T x (.const (.int k i))) (.p b o') := fun al2 bs2 hl hB E a W hh => by
  subst ho
  simp only [Bool.and_eq_true, decide_eq_true_eq] at h
  have hv := hh.evd (hl.evd hx (by simp [Op.operands, Call.operands]))
  generalize hq : a.eval x = q at hv
  cases hv with
  | p hb' hn => exact ⟨_, .p hb' hn, yl_ixN hT hq rfl h.1 h.2⟩
/-- An element. -/
theorem Rd.elN {k : IntKind} {i : Int} {x : Operand} {ds : List D} {d : D} [hT : TAr P T n e pl] [hS : TSc P e] (hx : Evd al x (.d (.st ds))) (h : decide (0 ≤ i) && decide (i < n) = true) (hd : ds[i.toNat]? = some d) : Rd P X al bs [] (.index T x (.const (.int k i))) (.d d) := fun al2 bs2 hl hB E a W hh => by
  simp only [Bool.and_eq_true, decide_eq_true_eq] at h
  have hv := hh.evd (hl.evd hx (by simp [Op.operands, Call.operands]))
  generalize hq : a.eval x = q at hv
  cases hv with
  | d h' =>
    cases h' with
    | st h2 =>
      obtain ⟨v, h3, h4⟩ := h2.get _ d hd
      refine ⟨v, .d h4, ?_⟩
      intro op ho
      obtain ⟨hu, f, hf, hfs⟩ := hT.get
      obtain ⟨td, hu2, hd2⟩ := hS.get
      have hq2 : (isAgg e).run P W = .ok false W := isAgg_false hu2 hd2
      have hy : a.eval (.const (.int k i)) = .int k i := rfl
      unfold execOp
      simp [ho, hq, hy, Instr.index, asIntOf, run_underlying hu, sizeOf, typeInfo, hf, hfs, h.1, h.2, Go.part, hq2, h3]
variable {d : Nat}
theorem LT.arB {s : Nat} {zs : List AV} {parts : List (Nat × Operand)} {qs : List (Nat × List AV)} {cs : List AV} {ds : List D} [hT : TAr P T n e pl] [hZ : TZc P T s zs] (hp : EvP al parts qs := by repeat (first | exact EvP.nil | (apply EvP.cs; exact ⟨_, rfl, by (try (apply Und.gd; assumption; try (apply Und.gd; assumption; try (apply Und.gd; assumption)))); exact Und.refl _⟩; exact rfl) | (apply EvP.cA; exact ⟨_, rfl, by (try (apply Und.gd; assumption; try (apply Und.gd; assumption; try (apply Und.gd; assumption)))); exact Und.refl _⟩; exact rfl) | (apply EvP.one; exact ⟨_, rfl, by (try (apply Und.gd; assumption; try (apply Und.gd; assumption; try (apply Und.gd; assumption)))); exact Und.refl _⟩; exact rfl; exact rfl))) (hb : bldC pl zs qs = some cs := by simp only [go_sem, bldC, spl, List.map_cons, List.map_nil, List.length_cons, List.length_nil, List.getElem?_cons_zero, List.getElem?_cons_succ, Nat.zero_add, Nat.add_zero, Nat.reduceAdd, Nat.reduceLeDiff, Nat.reduceLT, Nat.reduceEqDiff, and_self, true_and, and_true, if_true, ite_true, Nat.le_refl] <;> rfl) (hd : Pl cs ds := by first | infer_instance | fail) (hdd : Nat.blt d X.N = true := by rfl) : LT P X al bs (.build T parts.toArray) (some d) [] [(d, .d (.st ds))] [] := LT.rd (Rd.bldN hp hb hd) hdd
theorem LT.arI {k : IntKind} {i : Int} {x : Operand} {b off o' : Nat} [hT : TAr P T n e pl] (hx : Evd al x (.p b off) := by exact ⟨_, rfl, by (try (apply Und.gd; assumption; try (apply Und.gd; assumption; try (apply Und.gd; assumption)))); exact Und.refl _⟩) (h : decide (0 ≤ i) && decide (i < n) = true := by rfl) (ho : off + i.toNat = o' := by first | (simp only [Int.reduceToNat, Nat.zero_add, Nat.reduceAdd] <;> rfl) | rfl) (hdd : Nat.blt d X.N = true := by rfl) : LT P X al bs (.indexAddr T x (.const (.int k i))) (some d) [] [(d, .p b o')] [] := LT.rd (Rd.ixN hx h ho) hdd
theorem LT.arE {k : IntKind} {i : Int} {x : Operand} {ds : List D} {y : D} [hT : TAr P T n e pl] [hS : TSc P e] (hx : Evd al x (.d (.st ds)) := by exact ⟨_, rfl, by (try (apply Und.gd; assumption; try (apply Und.gd; assumption; try (apply Und.gd; assumption)))); exact Und.refl _⟩) (h : decide (0 ≤ i) && decide (i < n) = true := by rfl) (hd : ds[i.toNat]? = some y := by rfl) (hdd : Nat.blt d X.N = true := by rfl) : LT P X al bs (.index T x (.const (.int k i))) (some d) [] [(d, .d y)] [] := LT.rd (Rd.elN hx h hd) hdd
end
end Go.Proofs.Ytkdjbiekjgeafaa

set_option linter.unusedSimpArgs false
set_option linter.unusedVariables false
namespace Go.Proofs.Ytkdjbiekjgeafaa
open Go.RowKit

/-- What is seen of a page. -/
structure S5 where
  a : Int
  b : Int
  c : Int
  d : Int
  e : Int
def S5.row (s : S5) : List D := [.s (.int .i64 s.a), .s (.int .i64 s.b), .s (.int .i64 s.c), .s (.int .i64 s.d), .s (.int .i64 s.e)]
def seenR (x : RV) (g : Int) : S5 := ⟨1, x.r, bits .andNot .i64 x.f 2, x.i, if 0 ≤ x.i then x.x + g - x.s else 0⟩
def seenV (l : List RV) (g : Int) : S5 := if (findV l g).2 = true then seenR (findV l g).1 g else ⟨0, 0, 0, 0, 0⟩
theorem seenV_a (l : List RV) (g : Int) : (seenV l g).a = if (findV l g).2 = true then 1 else 0 := by unfold seenV; split <;> rfl

attribute [local irreducible] Wp WL WO fin finB rnd Exit.then Exit.inBlock G GD LT Rd Fn FnB FvB Iter
attribute [local go_sem] RV.row TD.row S5.row
end Go.Proofs.Ytkdjbiekjgeafaa

set_option linter.unusedSimpArgs false
set_option linter.unusedVariables false
namespace Go.Proofs.Ytkdjbiekjgeafaa
open Go.RowKit

def S5.cs (s : S5) : List Value := [.int .i64 s.a, .int .i64 s.b, .int .i64 s.c, .int .i64 s.d, .int .i64 s.e]
def eq5 (s t : S5) : Bool := s.a == t.a && s.b == t.b && s.c == t.c && s.d == t.d && s.e == t.e
theorem eq5_iff (s t : S5) : eq5 s t = true ↔ s = t := by
  obtain ⟨a, b, c, d, e⟩ := s
  obtain ⟨a', b', c', d', e'⟩ := t
  simp [eq5, and_assoc]
theorem RL.ints_eq {own : Nat → Prop} {W : World} {vs us : List Value} (h : RL own W vs (us.map .s)) : vs = us := by
  induction vs generalizing us with
  | nil => cases us with
    | nil => rfl
    | cons u us => cases h
  | cons v vs ih =>
    cases us with
    | nil => cases h
    | cons u us =>
      cases h with
      | cons h t =>
        cases h with
        | s h => rw [ih t]
theorem RL.s5 {own : Nat → Prop} {W : World} {vs : List Value} {s : S5} (h : RL own W vs s.row) : vs = s.cs := RL.ints_eq (us := s.cs) h
end Go.Proofs.Ytkdjbiekjgeafaa

set_option linter.unusedSimpArgs false
set_option linter.unusedVariables false
namespace Go.Proofs.Ytkdjbiekjgeafaa
open Go.RowKit

def S5.z : S5 := ⟨0, 0, 0, 0, 0⟩
def inR (x : RV) (q : Int) : Prop := x.s ≤ q ∧ q < x.s + x.p
theorem seen_in {l : List RV} (hl : okl l) {x : RV} (hx : x ∈ l) {q : Int} (h : inR x q) : seenV l q = seenR x q := by
  unfold seenV
  rw [find_yes hl hx h, if_pos rfl]
theorem seen_out {l : List RV} (hl : okl l) {q : Int} (h : ∀ x ∈ l, ¬ inR x q) : seenV l q = S5.z := by
  unfold seenV
  rw [if_neg]
  · rfl
  · rw [find_iff hl]
    rintro ⟨x, hx, h2⟩
    exact h x hx h2
theorem seen_cases {l : List RV} (hl : okl l) (q : Int) : (∃ x ∈ l, inR x q ∧ seenV l q = seenR x q) ∨ ((∀ x ∈ l, ¬ inR x q) ∧ seenV l q = S5.z) := by
  by_cases h : ∃ x ∈ l, inR x q
  · obtain ⟨x, hx, h2⟩ := h
    exact .inl ⟨x, hx, h2, seen_in hl hx h2⟩
  · have h' : ∀ x ∈ l, ¬ inR x q := fun x hx h2 => h ⟨x, hx, h2⟩
    exact .inr ⟨h', seen_out hl h'⟩
/-- Whoever shows the same of each page of the same regions is seen alike. -/
theorem seen_same {l m : List RV} (hl : okl l) (hm : okl m) {q : Int} (h1 : ∀ x ∈ l, inR x q → ∃ y ∈ m, inR y q ∧ seenR y q = seenR x q) (h2 : ∀ y ∈ m, inR y q → ∃ x ∈ l, inR x q) : seenV m q = seenV l q := by
  rcases seen_cases hl q with ⟨x, hx, hxq, e⟩ | ⟨hn, e⟩
  · obtain ⟨y, hy, hyq, e2⟩ := h1 x hx hxq
    rw [e, seen_in hm hy hyq, e2]
  · rw [e, seen_out hm]
    intro y hy hyq
    obtain ⟨x, hx, h⟩ := h2 y hy hyq
    exact hn x hx h
theorem seen_one2 {a b : RV} (ha : chkV a = 0) (hb : chkV b = 0) (h : mrgV a b = true) (q : Int) : (inR (one2 a b) q ↔ inR a q ∨ inR b q) ∧ (inR a q → seenR (one2 a b) q = seenR a q) ∧ (inR b q → seenR (one2 a b) q = seenR b q) := by
  obtain ⟨h1, h2, h3, h4, h5, h6⟩ := (mrg_iff ha hb).1 h
  have ba := chkV_bd ha
  have bb := chkV_bd hb
  refine ⟨?_, fun _ => rfl, fun _ => ?_⟩
  · unfold inR one2
    dsimp only
    omega
  · unfold seenR one2
    dsimp only
    rw [h3, h4, h5]
    by_cases hi : 0 ≤ b.i
    · rw [if_pos hi, if_pos hi]
      have : a.x + q - a.s = b.x + q - b.s := by omega
      rw [this]
    · rw [if_neg hi, if_neg hi]
/-- Merging neighbours changes no page. -/
theorem seen_step {o : List RV} {x : RV} (ho : okl (o ++ [x])) (q : Int) (hk : okl (stepN o x)) : seenV (stepN o x) q = seenV (o ++ [x]) q := by
  by_cases h0 : o.length = 0
  · rw [stepN_0 h0]
  · obtain ⟨a, ha⟩ : ∃ a, o.getLast? = some a := by
      cases hq : o.getLast? with
      | some a => exact ⟨a, rfl⟩
      | none => rw [List.getLast?_eq_none_iff] at hq; rw [hq] at h0; exact absurd rfl h0
    have hx := ho.c x (by simp)
    have hac := ho.c a (List.mem_append_left _ (List.mem_of_getLast? ha))
    have hmk := merge_ok hac hx
    by_cases hm : mrgV a x = true
    · rw [if_pos hm] at hmk
      obtain ⟨o2, rfl⟩ : ∃ o2, o = o2 ++ [a] := List.getLast?_eq_some_iff.1 ha
      have e2 : stepN (o2 ++ [a]) x = o2 ++ [one2 a x] := by
        rw [stepN_m ha (by rw [hmk]), hmk, List.dropLast_concat]
      rw [e2] at hk ⊢
      obtain ⟨s1, s2, s3⟩ := seen_one2 hac hx hm q
      refine seen_same ho hk (fun y hy hyq => ?_) (fun y hy hyq => ?_)
      · simp only [List.append_assoc, List.mem_append, List.mem_cons, List.not_mem_nil, or_false] at hy
        rcases hy with hy | rfl | rfl
        · exact ⟨y, by simp [hy], hyq, rfl⟩
        · exact ⟨_, by simp, s1.2 (.inl hyq), s2 hyq⟩
        · exact ⟨_, by simp, s1.2 (.inr hyq), s3 hyq⟩
      · simp only [List.mem_append, List.mem_cons, List.not_mem_nil, or_false] at hy
        rcases hy with hy | rfl
        · exact ⟨y, by simp [hy], hyq⟩
        · rcases s1.1 hyq with h | h
          · exact ⟨a, by simp, h⟩
          · exact ⟨x, by simp, h⟩
    · rw [if_neg hm] at hmk
      rw [stepN_n ha (by rw [hmk]; decide)]
theorem seen_congr {l m n : List RV} (h1 : okl (l ++ n)) (h2 : okl (m ++ n)) (hl : okl l) (hm : okl m) {q : Int} (h : seenV m q = seenV l q) (hin : (∃ x ∈ l, inR x q) ↔ ∃ y ∈ m, inR y q) : seenV (m ++ n) q = seenV (l ++ n) q := by
  rcases seen_cases hl q with ⟨x, hx, hxq, e⟩ | ⟨hn, e⟩
  · obtain ⟨y, hy, hyq⟩ := hin.1 ⟨x, hx, hxq⟩
    rw [seen_in h1 (List.mem_append_left _ hx) hxq, seen_in h2 (List.mem_append_left _ hy) hyq, ← e, ← h, seen_in hm hy hyq]
  · refine seen_same h1 h2 (fun x hx hxq => ?_) (fun y hy hyq => ?_)
    · rcases List.mem_append.1 hx with hx | hx
      · exact absurd hxq (hn x hx)
      · exact ⟨x, List.mem_append_right _ hx, hxq, rfl⟩
    · rcases List.mem_append.1 hy with hy | hy
      · obtain ⟨x, hx, h⟩ := hin.2 ⟨y, hy, hyq⟩
        exact ⟨x, List.mem_append_left _ hx, h⟩
      · exact ⟨y, List.mem_append_right _ hy, hyq⟩
theorem seenR_a (x : RV) (q : Int) : (seenR x q).a = 1 := rfl
theorem seen_iff {l : List RV} (hl : okl l) (q : Int) : (∃ x ∈ l, inR x q) ↔ (seenV l q).a = 1 := by
  rw [seenV_a]
  have := find_iff hl q
  unfold inR
  rw [← this]
  cases (findV l q).2 <;> simp
theorem seen_fold (q : Int) : ∀ (l out : List RV), nrm out l → seenV (l.foldl stepN out) q = seenV (out ++ l) q
  | [], out, h => by simp
  | x :: l, out, h => by
    rw [List.foldl_cons, seen_fold q l (stepN out x) h.step, show out ++ x :: l = (out ++ [x]) ++ l by simp]
    have k1 : okl ((out ++ [x]) ++ l) := by have := h.l; simpa using this
    have k2 := h.step.l
    have k3 := k1.app1.1
    have k4 := k2.app1.1
    have e := seen_step k3 q k4
    exact seen_congr k1 k2 k3 k4 e (by rw [seen_iff k3, seen_iff k4, e])
theorem seen_norm {l : List RV} (hl : okl l) (q : Int) : seenV (normL l) q = seenV l q := by
  have := seen_fold q l [] ⟨hl, trivial⟩
  rw [List.nil_append] at this
  exact this
theorem seen_resT {l : List RV} (hl : okl l) (h : (resT l).2 = 0) (q : Int) : seenV (resT l).1.flat q = seenV l q := by
  rw [(resT_asp hl h).2, seen_norm hl]
/-- What is seen when each region is replaced by parts of it. -/
theorem seen_cat {f : RV → List RV} {l : List RV} (hl : okl l) (hf : ∀ x ∈ l, part x (f x)) (q : Int) : (∃ x ∈ l, inR x q ∧ seenV l q = seenR x q ∧ seenV (cat f l) q = seenV (f x) q) ∨ ((∀ x ∈ l, ¬ inR x q) ∧ seenV l q = S5.z ∧ seenV (cat f l) q = S5.z) := by
  have hc := okl_cat hl hf
  have hmem : ∀ y, y ∈ cat f l ↔ ∃ x ∈ l, y ∈ f x := fun y => by unfold cat; rw [List.mem_flatMap]
  have hin : ∀ x ∈ l, ∀ y ∈ f x, inR y q → inR x q := fun x hx y hy h => by
    have := (hf x hx).i y hy
    unfold inR RV.e at *
    omega
  rcases seen_cases hl q with ⟨x, hx, hxq, e⟩ | ⟨hn, e⟩
  · refine .inl ⟨x, hx, hxq, e, ?_⟩
    refine seen_same (hf x hx).k hc (fun y hy hyq => ⟨y, (hmem y).2 ⟨x, hx, hy⟩, hyq, rfl⟩) (fun y hy hyq => ?_)
    obtain ⟨z, hz, hyz⟩ := (hmem y).1 hy
    have hzq := hin z hz y hyz hyq
    have exz : x = z := by
      have h1 := find_yes hl hx hxq
      have h2 := find_yes hl hz hzq
      rw [h1] at h2
      exact (Prod.mk.inj h2).1
    subst exz
    exact ⟨y, hyz, hyq⟩
  · refine .inr ⟨hn, e, seen_out hc (fun y hy hyq => ?_)⟩
    obtain ⟨z, hz, hyz⟩ := (hmem y).1 hy
    exact hn z hz (hin z hz y hyz hyq)

end Go.Proofs.Ytkdjbiekjgeafaa

set_option linter.unusedSimpArgs false
set_option linter.unusedVariables false
namespace Go.Proofs.Ytkdjbiekjgeafaa
open Go.RowKit

theorem flag22 : ∀ n : Fin 16, bits .andNot .i64 (bits .andNot .i64 (n.1 : Int) 2) 2 = bits .andNot .i64 (n.1 : Int) 2 := by decide
theorem andNot2 {x : RV} (hx : chkV x = 0) : bits .andNot .i64 (bits .andNot .i64 x.f 2) 2 = bits .andNot .i64 x.f 2 := by
  have bx := chkV_bd hx
  obtain ⟨m, hm⟩ := nat16 bx.2.2.2.2.1 bx.2.2.2.2.2.1
  rw [hm]
  exact flag22 m
theorem seenR_lo (x : RV) (g q : Int) : seenR (spLo x g) q = seenR x q := rfl
theorem seenR_hi {x : RV} (hx : chkV x = 0) (g q : Int) : seenR (spHi x g) q = seenR x q := by
  have bx := chkV_bd hx
  unfold seenR spHi
  dsimp only
  rw [andNot2 hx]
  by_cases hi : 0 ≤ x.i
  · rw [if_pos hi, if_pos hi, if_neg (by omega)]
    have : x.x + (g - x.s) + q - g = x.x + q - x.s := by omega
    rw [this]
  · rw [if_neg hi, if_neg hi]
theorem inR_lo {x : RV} {g q : Int} : inR (spLo x g) q ↔ x.s ≤ q ∧ q < g := by unfold inR spLo; dsimp only; omega
theorem inR_hi {x : RV} {g q : Int} : inR (spHi x g) q ↔ g ≤ q ∧ q < x.s + x.p := by unfold inR spHi; dsimp only; omega
/-- Cut. -/
theorem seen_cut {x : RV} {g c : Int} (hx : chkV x = 0) (hr : rngV g c = 0) {q : Int} (hq : inR x q) : seenV (cutV x g c).1 q = if g ≤ q ∧ q < g + c then S5.z else seenR x q := by
  have hk := (cut_part hx hr).k
  have hrb := rngV_ok hr
  have bx := chkV_bd hx
  have hq' := hq
  unfold inR at hq'
  have e : (cutV x g c).1 = if x.s + x.p ≤ g ∨ g + c ≤ x.s then [x] else (if x.s < g then [spLo x g] else []) ++ (if g + c < x.s + x.p then [spHi x (g + c)] else []) := by
    have b1 : decide (c < 1) = false := by rw [decide_eq_false_iff_not]; omega
    have b2 : (decide (g < 0) || decide (g > 512) || decide (c > 512 - g)) = false := by simp; omega
    have b0 : (chkV x != 0) = false := by simp [hx]
    unfold cutV
    rw [b0, b1, b2, endV_ok hx]
    by_cases h : x.s + x.p ≤ g ∨ g + c ≤ x.s
    · have b3 : (decide (x.s + x.p ≤ g) || decide (g + c ≤ x.s)) = true := by simpa using h
      rw [b3, if_pos h]; rfl
    · have b3 : (decide (x.s + x.p ≤ g) || decide (g + c ≤ x.s)) = false := by simpa using h
      rw [b3, if_neg h]
      simp only [cond_false]
      unfold cutL
      congr 1
      · by_cases h1 : x.s < g
        · rw [split_in hx h1 (by omega), if_pos h1]; rfl
        · rw [split_out hx (.inl (by omega)), if_neg h1]; rfl
      · by_cases h1 : g + c < x.s + x.p
        · rw [split_in hx (by omega) h1, if_pos h1]; rfl
        · rw [split_out hx (.inr (by omega)), if_neg h1]; rfl
  rw [e] at hk ⊢
  by_cases h : x.s + x.p ≤ g ∨ g + c ≤ x.s
  · rw [if_pos h] at hk ⊢
    rw [seen_in hk (by simp) hq, if_neg (by omega)]
  · rw [if_neg h] at hk ⊢
    by_cases h1 : g ≤ q ∧ q < g + c
    · rw [if_pos h1]
      refine seen_out hk (fun y hy => ?_)
      rcases List.mem_append.1 hy with hy | hy
      · split at hy
        · simp at hy; subst hy; rw [inR_lo]; omega
        · simp at hy
      · split at hy
        · simp at hy; subst hy; rw [inR_hi]; omega
        · simp at hy
    · rw [if_neg h1]
      by_cases h2 : q < g
      · rw [if_pos (by omega)] at hk ⊢
        rw [seen_in hk (x := spLo x g) (by simp) (inR_lo.2 (by omega)), seenR_lo]
      · rw [if_pos (c := g + c < x.s + x.p) (by omega)] at hk ⊢
        rw [seen_in hk (x := spHi x (g + c)) (by simp) (inR_hi.2 (by omega)), seenR_hi hx]
theorem seen_unmap {p : PT} (hp : ASP p) {g c : Int} (h : (unmapT p g c).2 = 0) (q : Int) : seenV (unmapT p g c).1.flat q = if g ≤ q ∧ q < g + c then S5.z else seenV p.flat q := by
  unfold unmapT at h ⊢
  by_cases hr : rngV g c = 0
  · rw [if_pos hr] at h ⊢
    have hf : ∀ x ∈ p.flat, part x ((fun r => (cutV r g c).1) x) := fun x hx => cut_part (hp.l.c x hx) hr
    have hk : okl (cutA g c p.flat) := okl_cat hp.l hf
    rw [seen_resT hk h]
    rcases seen_cat hp.l hf q with ⟨x, hx, hxq, e1, e2⟩ | ⟨_, e1, e2⟩
    · show seenV (cat _ p.flat) q = _
      rw [e2, e1]
      exact seen_cut (hp.l.c x hx) hr hxq
    · show seenV (cat _ p.flat) q = _
      rw [e2, e1]
      split <;> rfl
  · rw [if_neg hr] at h; exact absurd h hr
/-- Map. -/
theorem seen_ins {l : List RV} {r : RV} {i : Nat} (hl : okl l) (hk : okl (insAt l i r)) (q : Int) : seenV (insAt l i r) q = if r.s ≤ q ∧ q < r.s + r.p then seenR r q else seenV l q := by
  have hmem : ∀ y, y ∈ insAt l i r ↔ y = r ∨ y ∈ l := fun y => by
    unfold insAt
    rw [List.mem_append, List.mem_cons]
    constructor
    · rintro (h | h | h)
      · exact .inr (List.mem_of_mem_take h)
      · exact .inl h
      · exact .inr (List.mem_of_mem_drop h)
    · rintro (h | h)
      · exact .inr (.inl h)
      · rw [← List.take_append_drop i l, List.mem_append] at h
        rcases h with h | h
        · exact .inl h
        · exact .inr (.inr h)
  by_cases h : r.s ≤ q ∧ q < r.s + r.p
  · rw [if_pos h, seen_in hk ((hmem r).2 (.inl rfl)) h]
  · rw [if_neg h]
    refine seen_same hl hk (fun x hx hxq => ⟨x, (hmem x).2 (.inr hx), hxq, rfl⟩) (fun y hy hyq => ?_)
    rcases (hmem y).1 hy with rfl | hy
    · exact absurd hyq h
    · exact ⟨y, hy, hyq⟩
theorem seen_map {p : PT} (hp : ASP p) {r : RV} (h : (mapT p r).2 = 0) (q : Int) : seenV (mapT p r).1.flat q = if r.s ≤ q ∧ q < r.s + r.p then seenR r q else seenV p.flat q := by
  unfold mapT at h ⊢
  by_cases h1 : chkV r = 0
  · rw [if_pos h1] at h ⊢
    by_cases h2 : p.flat.any (fun x => ovlV x r) = true
    · rw [if_pos h2] at h; cases h
    · rw [if_neg h2] at h ⊢
      have hk := insAt_ok hp.l h1 (fun x hx => by rw [← Bool.not_eq_true]; exact fun e => h2 (List.any_eq_true.2 ⟨x, hx, e⟩))
      rw [seen_resT hk h, seen_ins hp.l hk]
  · rw [if_neg h1] at h; exact absurd h h1

/-- Changed parts: what is seen of the pages in the range is turned, the rest stays. -/
theorem seen_chg {oth : RV → Bool} {tr : RV → RV} {τ : S5 → S5} (ht : keepsT tr) {x : RV} {g c q : Int} (hx : chkV x = 0) (hc : 1 ≤ c) (hq : inR x q)
    (h1 : oth x = false → τ (seenR x q) = seenR x q) (h2 : oth x = true → ∀ y, chkV y = 0 → (y.f = x.f ∨ y.f = bits .andNot .i64 x.f 2) → seenR (tr y) q = τ (seenR y q)) :
    seenV (chgL oth tr g c x) q = if g ≤ q ∧ q < g + c then τ (seenR x q) else seenR x q := by
  have hk := (chg_part ht oth (g := g) hx hc).k
  have bx := chkV_bd hx
  have hq' := hq
  unfold inR at hq'
  cases hs : skipB x g c oth with
  | true =>
    have e : chgL oth tr g c x = [x] := by unfold chgL; rw [if_pos hs]
    rw [e] at hk ⊢
    rw [seen_in hk (by simp) hq]
    split
    · rename_i hr
      simp only [skipB, endV_ok hx, Bool.or_eq_true, decide_eq_true_eq] at hs
      rcases hs with hs | hs
      · omega
      · exact (h1 (by simpa using hs)).symm
    · rfl
  | false =>
    have hs2 := hs
    simp only [skipB, endV_ok hx, Bool.or_eq_false_iff, decide_eq_false_iff_not, Bool.not_eq_false'] at hs2
    obtain ⟨⟨s1, s2⟩, s3⟩ := hs2
    have h2 := h2 s3
    have hrt : ∀ y, chkV y = 0 → inR y q → inR (tr y) q := fun y hy h => by
      have := (ht y hy).2
      unfold inR at *
      omega
    have e : chgL oth tr g c x = (divP x g c).map (selT tr) := by unfold chgL; rw [if_neg (by rw [hs]; decide)]; rfl
    rw [e] at hk ⊢
    unfold divP divH divR at hk ⊢
    by_cases h3 : x.s < g
    · rw [split_in hx h3 (by omega)] at hk ⊢
      simp only [if_true, List.map_cons] at hk ⊢
      have q1 := spLo_ok hx h3 (by omega)
      have q2 := spHi_ok hx h3 (by omega)
      have e3 : (spHi x g).s = g := rfl
      have e4 : (spHi x g).p = x.p - (g - x.s) := rfl
      by_cases h4 : g + c < x.s + x.p
      · rw [split_in q2 (by omega) (by omega)] at hk ⊢
        simp only [if_true, List.map_cons, List.map_nil, selT, cond_true, cond_false] at hk ⊢
        by_cases h5 : q < g
        · rw [if_neg (by omega), seen_in hk (x := spLo x g) (by simp) (inR_lo.2 (by omega)), seenR_lo]
        · by_cases h6 : q < g + c
          · have q3 := spLo_ok q2 (g := g + c) (by omega) (by omega)
            rw [if_pos (by omega), seen_in hk (x := tr (spLo (spHi x g) (g + c))) (by simp) (hrt _ q3 (inR_lo.2 (by omega))), h2 _ q3 (.inr rfl), seenR_lo, seenR_hi hx]
          · rw [if_neg (by omega), seen_in hk (x := spHi (spHi x g) (g + c)) (by simp) (inR_hi.2 (by omega)), seenR_hi q2, seenR_hi hx]
      · rw [split_out q2 (.inr (by omega))] at hk ⊢
        simp only [show ((2 : Int) = 0) = False by simp, if_false, List.map_cons, List.map_nil, selT, cond_true, cond_false] at hk ⊢
        by_cases h5 : q < g
        · rw [if_neg (by omega), seen_in hk (x := spLo x g) (by simp) (inR_lo.2 (by omega)), seenR_lo]
        · rw [if_pos (by omega), seen_in hk (x := tr (spHi x g)) (by simp) (hrt _ q2 (inR_hi.2 (by omega))), h2 _ q2 (.inr rfl), seenR_hi hx]
    · rw [split_out hx (.inl (by omega))] at hk ⊢
      simp only [show ((2 : Int) = 0) = False by simp, if_false] at hk ⊢
      by_cases h4 : g + c < x.s + x.p
      · rw [split_in hx (by omega) h4] at hk ⊢
        simp only [if_true, List.map_cons, List.map_nil, selT, cond_true, cond_false] at hk ⊢
        by_cases h6 : q < g + c
        · have q3 := spLo_ok hx (g := g + c) (by omega) h4
          rw [if_pos (by omega), seen_in hk (x := tr (spLo x (g + c))) (by simp) (hrt _ q3 (inR_lo.2 (by omega))), h2 _ q3 (.inl rfl), seenR_lo]
        · rw [if_neg (by omega), seen_in hk (x := spHi x (g + c)) (by simp) (inR_hi.2 (by omega)), seenR_hi hx]
      · rw [split_out hx (.inr (by omega))] at hk ⊢
        simp only [show ((2 : Int) = 0) = False by simp, if_false, List.map_cons, List.map_nil, selT, cond_true, cond_false] at hk ⊢
        rw [if_pos (by omega), seen_in hk (x := tr x) (by simp) (hrt _ hx hq), h2 _ hx (.inl rfl)]
theorem seen_chgT {p : PT} (hp : ASP p) {g c : Int} (hr : rngV g c = 0) {oth : RV → Bool} {tr : RV → RV} {τ : S5 → S5} (ht : keepsT tr) (h : (chgT p g c oth tr).2 = 0) (q : Int)
    (h1 : ∀ x, chkV x = 0 → oth x = false → τ (seenR x q) = seenR x q) (h2 : ∀ x y, chkV x = 0 → oth x = true → chkV y = 0 → (y.f = x.f ∨ y.f = bits .andNot .i64 x.f 2) → seenR (tr y) q = τ (seenR y q)) :
    seenV (chgT p g c oth tr).1.flat q = if g ≤ q ∧ q < g + c then τ (seenV p.flat q) else seenV p.flat q := by
  have hrb := rngV_ok hr
  unfold chgT at h ⊢
  by_cases hc : covV p.flat g c = true
  · rw [if_pos hc] at h ⊢
    have hf : ∀ x ∈ p.flat, part x (chgL oth tr g c x) := fun x hx => chg_part ht oth (hp.l.c x hx) (by omega)
    have hk := okl_cat hp.l hf
    rw [seen_resT hk h]
    rcases seen_cat hp.l hf q with ⟨x, hx, hxq, e1, e2⟩ | ⟨hn, e1, e2⟩
    · have hxk := hp.l.c x hx
      rw [e2, e1]
      exact seen_chg ht hxk (by omega) hxq (h1 x hxk) (fun ho y hy hf => h2 x y hxk ho hy hf)
    · rw [e2, e1, if_neg]
      intro hin
      have := (covV_iff _ _ _).1 hc q hin.1 hin.2
      rw [find_iff hp.l] at this
      obtain ⟨x, hx, hh⟩ := this
      exact hn x hx hh
  · rw [if_neg hc] at h; cases h
def lkS (on : Bool) (s : S5) : S5 := { s with c := bits .andNot .i64 s.c 4 + (if on then 4 else 0) }
theorem flagL : ∀ n : Fin 16, ((bits .and .i64 (n.1 : Int) 4 != 0) = true → bits .andNot .i64 (bits .andNot .i64 (n.1 : Int) 2) 4 + 4 = bits .andNot .i64 (n.1 : Int) 2 ∧ bits .andNot .i64 (bits .xor .i64 (n.1 : Int) 4) 2 = bits .andNot .i64 (bits .andNot .i64 (n.1 : Int) 2) 4) ∧ ((bits .and .i64 (n.1 : Int) 4 != 0) = false → bits .andNot .i64 (bits .andNot .i64 (n.1 : Int) 2) 4 = bits .andNot .i64 (n.1 : Int) 2 ∧ bits .andNot .i64 (bits .xor .i64 (n.1 : Int) 4) 2 = bits .andNot .i64 (bits .andNot .i64 (n.1 : Int) 2) 4 + 4) := by decide
theorem flagK : ∀ n : Fin 16, (bits .and .i64 (bits .andNot .i64 (n.1 : Int) 2) 4 != 0) = (bits .and .i64 (n.1 : Int) 4 != 0) := by decide
theorem seen_prot {p : PT} (hp : ASP p) {g c n : Int} (h : (protT p g c n).2 = 0) (q : Int) : seenV (protT p g c n).1.flat q = if g ≤ q ∧ q < g + c then { seenV p.flat q with b := n } else seenV p.flat q := by
  unfold protT at h ⊢
  by_cases hr : rngV g c = 0
  · rw [if_pos hr] at h ⊢
    by_cases hn : n = 1 ∨ n = 3
    · rw [if_pos hn] at h ⊢
      refine seen_chgT (τ := fun s => { s with b := n }) hp hr (prT_keeps hn) h q (fun x hx ho => ?_) (fun x y hx ho hy hf => rfl)
      have : x.r = n := by simpa using ho
      simp [seenR, this]
    · rw [if_neg hn] at h; cases h
  · rw [if_neg hr] at h; exact absurd h hr
theorem seen_lock {p : PT} (hp : ASP p) {g c : Int} {on : Bool} (h : (lockT p g c on).2 = 0) (q : Int) : seenV (lockT p g c on).1.flat q = if g ≤ q ∧ q < g + c then lkS on (seenV p.flat q) else seenV p.flat q := by
  unfold lockT at h ⊢
  by_cases hr : rngV g c = 0
  · rw [if_pos hr] at h ⊢
    refine seen_chgT (τ := lkS on) hp hr lkT_keeps h q (fun x hx ho => ?_) (fun x y hx ho hy hf => ?_)
    · have bx := chkV_bd hx
      obtain ⟨m, hm⟩ := nat16 bx.2.2.2.2.1 bx.2.2.2.2.2.1
      have fl := flagL m
      rw [← hm] at fl
      unfold lkS seenR
      dsimp only
      cases on with
      | true =>
        have e := (fl.1 (by simpa using ho)).1
        rw [show (if (true = true) then (4 : Int) else 0) = 4 from rfl, e]
      | false =>
        have e := (fl.2 (by simpa using ho)).1
        rw [show (if (false = true) then (4 : Int) else 0) = 0 from rfl, Int.add_zero, e]
    · have bx := chkV_bd hx
      have bY := chkV_bd hy
      obtain ⟨m, hm⟩ := nat16 bx.2.2.2.2.1 bx.2.2.2.2.2.1
      obtain ⟨k, hk⟩ := nat16 bY.2.2.2.2.1 bY.2.2.2.2.2.1
      have fl := flagL k
      rw [← hk] at fl
      have hb : (bits .and .i64 y.f 4 != 0) = (bits .and .i64 x.f 4 != 0) := by
        rcases hf with e | e
        · rw [e]
        · rw [e, hm]; exact flagK m
      unfold lkS lkT seenR
      dsimp only
      cases on with
      | true =>
        have e := (fl.2 (by rw [hb]; simpa using ho)).2
        rw [show (if (true = true) then (4 : Int) else 0) = 4 from rfl, e]
      | false =>
        have e := (fl.1 (by rw [hb]; simpa using ho)).2
        rw [show (if (false = true) then (4 : Int) else 0) = 0 from rfl, Int.add_zero, e]
  · rw [if_neg hr] at h; exact absurd h hr

end Go.Proofs.Ytkdjbiekjgeafaa

set_option linter.unusedSimpArgs false
set_option linter.unusedVariables false
namespace Go.Proofs.Ytkdjbiekjgeafaa
open Go.RowKit

def wantV (s : S5) (o : OV) (q : Int) : S5 :=
  if o.k = 0 then (if o.r.s ≤ q ∧ q < o.r.s + o.r.p then seenR o.r q else s)
  else if o.k = 1 then (if o.g ≤ q ∧ q < o.g + o.c then S5.z else s)
  else if o.k = 2 then (if o.g ≤ q ∧ q < o.g + o.c then { s with b := o.n } else s)
  else if o.k = 3 then (if o.g ≤ q ∧ q < o.g + o.c then lkS (o.n == 1) s else s) else s
theorem seen_do {p : PT} (hp : ASP p) {o : OV} (hk : o.k ≠ 4) (q : Int) : seenV (doT p o).1.flat q = if (doT p o).2 = 0 then wantV (seenV p.flat q) o q else seenV p.flat q := by
  unfold doT
  by_cases h : (askT p o).2 = 0
  · rw [if_pos h]
    dsimp only
    rw [if_pos rfl]
    unfold askT at h ⊢
    unfold wantV
    by_cases h0 : o.k = 0
    · rw [if_pos h0] at h ⊢
      rw [if_pos h0]; exact seen_map hp h q
    · rw [if_neg h0] at h ⊢
      rw [if_neg h0]
      by_cases h1 : o.k = 1
      · rw [if_pos h1] at h ⊢
        rw [if_pos h1]; exact seen_unmap hp h q
      · rw [if_neg h1] at h ⊢
        rw [if_neg h1]
        by_cases h2 : o.k = 2
        · rw [if_pos h2] at h ⊢
          rw [if_pos h2]; exact seen_prot hp h q
        · rw [if_neg h2] at h ⊢
          rw [if_neg h2]
          by_cases h3 : o.k = 3
          · rw [if_pos h3] at h ⊢
            rw [if_pos h3]; exact seen_lock hp h q
          · rw [if_neg h3, if_neg hk] at h; cases h
  · rw [if_neg h]
    dsimp only
    rw [if_neg h]
/-- What a call that succeeds has asked for. -/
theorem ask_ok {p : PT} {o : OV} (hk : o.k ≠ 4) (h : (doT p o).2 = 0) : (o.k = 0 ∧ chkV o.r = 0) ∨ ((o.k = 1 ∨ o.k = 2 ∨ o.k = 3) ∧ rngV o.g o.c = 0) := by
  unfold doT at h
  by_cases ha : (askT p o).2 = 0
  · unfold askT at ha
    by_cases h0 : o.k = 0
    · rw [if_pos h0] at ha
      refine .inl ⟨h0, Classical.byContradiction fun hn => ?_⟩
      unfold mapT at ha
      rw [if_neg hn] at ha
      exact hn ha
    · rw [if_neg h0] at ha
      by_cases h1 : o.k = 1
      · rw [if_pos h1] at ha
        refine .inr ⟨.inl h1, Classical.byContradiction fun hn => ?_⟩
        unfold unmapT at ha
        rw [if_neg hn] at ha
        exact hn ha
      · rw [if_neg h1] at ha
        by_cases h2 : o.k = 2
        · rw [if_pos h2] at ha
          refine .inr ⟨.inr (.inl h2), Classical.byContradiction fun hn => ?_⟩
          unfold protT at ha
          rw [if_neg hn] at ha
          exact hn ha
        · rw [if_neg h2] at ha
          by_cases h3 : o.k = 3
          · rw [if_pos h3] at ha
            refine .inr ⟨.inr (.inr h3), Classical.byContradiction fun hn => ?_⟩
            unfold lockT at ha
            rw [if_neg hn] at ha
            exact hn ha
          · rw [if_neg h3, if_neg hk] at ha; cases ha
  · rw [if_neg ha] at h; exact absurd h ha

instance {s : S5} {n : Nat} {u : AV} {l : List AV} [i : LSet [.d (.s (.int .i64 s.a)), .d (.s (.int .i64 s.b)), .d (.s (.int .i64 s.c)), .d (.s (.int .i64 s.d)), .d (.s (.int .i64 s.e))] n u l] : LSet (s.row.map .d) n u l := ⟨i.h⟩

attribute [local irreducible] Wp WL WO fin finB rnd Exit.then Exit.inBlock G GD LT Rd Fn FnB FvB Iter
attribute [local go_sem] RV.row TD.row OV.row S5.row
end Go.Proofs.Ytkdjbiekjgeafaa
