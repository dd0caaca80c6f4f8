/- A walk in states: operations that write, calls, code, functions. -/
import Derived.Test.YtohpbfcechbngaaAvg
set_option linter.unusedSimpArgs false
set_option linter.unusedVariables false
namespace Go.Proofs.Ytohpbfcechbngaa
open Go.RowKit

/-- May be entered: it has a body in Go. -/
def fbody (P : Program) (K : Nat) : Bool := match P.funcs[K]? with
  | some fn => fn.name != "runtime.NumGoroutine" && fn.body.isSome
  | none => false
/-- Function K, called with data ds, returns data of which R holds, and changes nothing. -/
def Fn (P : Program) (K : Nat) (ds : List D) (R : D → Prop) : Prop :=
  fbody P K = true ∧ ∀ (own : Nat → Prop) (W : World) (vs : List Value), (∀ r, own r → r < W.heap.size) → RL own W vs ds → Calls P K vs.toArray W (fun e W' => ∃ v x, e = .returned v ∧ R x ∧ Ext W W' ∧ RD own W' v x)
theorem Fn.mono {P : Program} {K : Nat} {ds : List D} {R R' : D → Prop} (h : Fn P K ds R) (hr : ∀ x, R x → R' x) : Fn P K ds R' :=
  ⟨h.1, fun own W vs ho hv => (h.2 own W vs ho hv).mono fun e W' ⟨v, x, h1, h2, h3⟩ => ⟨v, x, h1, hr x h2, h3⟩⟩
/-- The operands are us. -/
inductive EvL (al : List (Nat × AV)) : List Operand → List AV → Prop
  | nil : EvL al [] []
  | cons {x : Operand} {u : AV} {xs : List Operand} {us : List AV} (h : Evd al x u) (t : EvL al xs us) : EvL al (x :: xs) (u :: us)

section
variable {P : Program} {ro : Option Nat} {X : Cx} {al : List (Nat × AV)} {bs : Bs} {E : Env} {a : Act} {W : World}
theorem HdE.evsOk (h : HdE P X al bs E a W) : ∀ {xs : List Operand} {ys : List AV}, EvL al xs ys → RAL E (dom bs) (ownS E X.o bs) W (xs.map a.eval) ys
  | [], _, .nil => .nil
  | x :: xs, _, .cons hx t => .cons (h.evd hx) (h.evsOk t)
theorem callFunc_enter {K : Nat} {args : Array Value} (h : fbody P K = true) : (callFunc K args).run P W = .ok (.enter K args) W := by
  unfold fbody at h
  split at h
  · rename_i fn hf
    simp only [Bool.and_eq_true, bne_iff_ne, ne_eq] at h
    unfold callFunc
    obtain ⟨h1, h2⟩ := h
    obtain ⟨c, hc⟩ := Option.isSome_iff_exists.1 h2
    simp [hf, h1, hc]
  · cases h

/-- A step: wherever what it reads is told the same, the operation leads on to the state with these words more. -/
def LT (P : Program) (X : Cx) (al : List (Nat × AV)) (bs : Bs) (op : Op) (dst : Option Nat) (rb : List Nat) (sl : List (Nat × AV)) (bl : Bs) : Prop :=
  ∀ (ro : Option Nat) al2 bs2, Loc op al al2 → LocB rb bs bs2 → ∀ E a W, HdE P X al2 bs2 E a W → ∀ o : Oper, o.op = op → o.dst = dst → ∀ (K : Act → World → Prop) (Q : Exit → Act → World → Prop), (∀ E' a' W', HdE P X (sl ++ al2) (bl ++ bs2) E' a' W' → K a' W') → WO P ro o a W K Q
section
variable {ops : Array Oper} {Q : Exit → Act → World → Prop} {rest : List Oper} {d ty T b off k : Nat} {ps : String} {af : Array Edge} {x y : Operand} {u : AV} {op : Op} {dst : Option Nat} {rb : List Nat} {sl : List (Nat × AV)} {bl : Bs} {s : Nat × AV} {e e' : Nat × Option (TypeId × List AV)}
/-! #### In a plain region -/
theorem G.w (lt : LT P X al bs op dst rb sl bl) (h : G P X (sl ++ al) (bl ++ bs) (WL P ro ops Q rest)) :
    G P X al bs (WL P ro ops Q ({ dst := dst, op := op, type := ty, pos := ps, after := af, guard := none } :: rest)) := fun E a W hh =>
  WL.plain rfl (fun K hK => lt ro al bs (Loc.refl _) (LocB.refl _) E a W hh _ rfl rfl K Q (fun E' a' W' h' => hK _ _ (h E' a' W' h')))
theorem G.w1 (h : G P X (s :: al) bs (WL P ro ops Q rest)) (lt : LT P X al bs op dst rb [s] []) : G P X al bs (WL P ro ops Q ({ dst := dst, op := op, type := ty, pos := ps, after := af, guard := none } :: rest)) := G.w lt h
theorem G.w0 (h : G P X al (e :: bs) (WL P ro ops Q rest)) (lt : LT P X al bs op dst rb [] [e]) : G P X al bs (WL P ro ops Q ({ dst := dst, op := op, type := ty, pos := ps, after := af, guard := none } :: rest)) := G.w lt h
theorem G.w2 (h : G P X (s :: al) (e :: bs) (WL P ro ops Q rest)) (lt : LT P X al bs op dst rb [s] [e]) : G P X al bs (WL P ro ops Q ({ dst := dst, op := op, type := ty, pos := ps, after := af, guard := none } :: rest)) := G.w lt h
theorem G.w3 (h : G P X (s :: al) (e :: e' :: bs) (WL P ro ops Q rest)) (lt : LT P X al bs op dst rb [s] [e, e']) : G P X al bs (WL P ro ops Q ({ dst := dst, op := op, type := ty, pos := ps, after := af, guard := none } :: rest)) := G.w lt h
/-! A guard that is decided -/
theorem wanted_is {dj : Nat} {t want : Bool} {j : Nat} {o : Oper} {l : List Oper} (hg : o.guard = some (j, want)) (hj : (l[j]?).bind (·.dst) = some dj) (hh : HdE P X al bs E a W) (hs : lk al dj = some (.d (.s (.bool t)))) : Region.wanted o (yielded l.toArray a.tmps) = (t == want) := by
  obtain ⟨v, h1, h2⟩ := hh.sl dj _ hs
  obtain rfl := h2.scalar
  have : (l.toArray[j]?).bind (·.dst) = some dj := by simpa using hj
  rw [wanted_of hg, yielded_at this h1]
  cases t <;> cases want <;> rfl
theorem G.gT {l : List Oper} {dj : Nat} {t want : Bool} {j : Nat} (h : G P X al bs (WL P ro l.toArray Q ({ dst := dst, op := op, type := ty, pos := ps, after := af, guard := none } :: rest))) (hs : lk al dj = some (.d (.s (.bool t)))) (ht : t = want) (hj : (l[j]?).bind (·.dst) = some dj := by rfl) :
    G P X al bs (WL P ro l.toArray Q ({ dst := dst, op := op, type := ty, pos := ps, after := af, guard := some (j, want) } :: rest)) := fun E a W hh => by
  have h1 := h E a W hh
  have hw := wanted_is (o := { dst := dst, op := op, type := ty, pos := ps, after := af, guard := some (j, want) }) rfl hj hh hs
  exact WL.yes (by rw [hw, ht]; simp) (WL.inv (o := { dst := dst, op := op, type := ty, pos := ps, after := af, guard := none }) rfl h1)
theorem G.gF {l : List Oper} {dj : Nat} {t want : Bool} {j : Nat} (h : G P X ((d, .any) :: al) bs (WL P ro l.toArray Q rest)) (hs : lk al dj = some (.d (.s (.bool t)))) (ht : t = !want) (hj : (l[j]?).bind (·.dst) = some dj := by rfl) (hd : Nat.blt d X.N = true := by rfl) :
    G P X al bs (WL P ro l.toArray Q ({ dst := some d, op := op, type := ty, pos := ps, after := af, guard := some (j, want) } :: rest)) := fun E a W hh => by
  have hw := wanted_is (o := { dst := some d, op := op, type := ty, pos := ps, after := af, guard := some (j, want) }) rfl hj hh hs
  exact WL.no (by rw [hw, ht]; cases want <;> simp) (h E _ W (hh.put .any (by simpa using hd)))
theorem HdE.under {t want : Bool} (ht : t = want) (h : HdE P X ((d, u) :: al) bs E a W) : HdE P X ((d, .gd t want u) :: al) bs E a W := by
  refine ⟨h.ext, h.o0, h.df, h.sz, h.en, fun n x hx => ?_, h.bk, h.lo, h.nd⟩
  rw [lk_cons] at hx
  split at hx
  · rename_i he
    subst he
    simp only [Option.some.injEq] at hx
    subst hx
    obtain ⟨v, h1, h2⟩ := h.sl d u (lk_self _ _ _)
    exact ⟨v, h1, .gd (fun _ => h2) (fun e => absurd ht e)⟩
  · rename_i he
    exact h.sl n x (by rw [lk_ne _ _ he]; exact hx)
/-- A guard that is not decided: the result is told under it. -/
theorem G.gL {l : List Oper} {dj : Nat} {t want : Bool} {j : Nat} (h : G P X ((d, .gd t want u) :: al) bs (WL P ro l.toArray Q rest)) (lt : t = want → LT P X al bs op (some d) rb [(d, u)] []) (hj : (l[j]?).bind (·.dst) = some dj) (hs : lk al dj = some (.d (.s (.bool t)))) (hd : Nat.blt d X.N = true) :
    G P X al bs (WL P ro l.toArray Q ({ dst := some d, op := op, type := ty, pos := ps, after := af, guard := some (j, want) } :: rest)) := by
  by_cases ht : t = want
  · refine G.gT ?_ hs ht hj
    exact fun E a W hh => WL.plain rfl (fun K hK => lt ht ro al bs (Loc.refl _) (LocB.refl _) E a W hh _ rfl rfl K Q (fun E' a' W' h' => hK _ _ (h E' a' W' (HdE.under ht h'))))
  · intro E a W hh
    have hw := wanted_is (o := { dst := some d, op := op, type := ty, pos := ps, after := af, guard := some (j, want) }) rfl hj hh hs
    exact WL.no (by rw [hw]; simpa using ht) (h E _ W (hh.put (.gd (fun e => absurd e ht) (fun _ => rfl)) (by simpa using hd)))
/-! A guard that may itself be told under tests -/
def AV.wrap : AV → Bool → AV → AV
  | .gd t w y, want, u => .gd t w (AV.wrap y want u)
  | .d (.s (.bool t)), want, u => .gd t want u
  | x, _, _ => x
def AV.says (want : Bool) : AV → Prop
  | .gd t w y => t = w ∧ AV.says want y
  | .d (.s (.bool t)) => t = want
  | _ => False
def AV.isG : AV → Bool
  | .gd _ _ y => y.isG
  | .d (.s (.bool _)) => true
  | _ => false
theorem AV.says_iff {dm own : Nat → Prop} {want : Bool} : ∀ {y : AV} {v : Value}, y.isG = true → RA E dm own W v y → ((asB v == some want) = true ↔ y.says want)
  | .gd t w y, v, hg, h => by
    simp only [AV.isG] at hg
    cases h with
    | gd h h' =>
      simp only [AV.says]
      by_cases ht : t = w
      · rw [AV.says_iff hg (h ht)]
        simp [ht]
      · obtain rfl := h' ht
        simp [ht, undef, asB]
  | .d (.s (.bool t)), v, _, h => by
    obtain rfl := h.scalar
    simp only [AV.says, asB]
    cases t <;> cases want <;> simp
theorem RA.wrap {dm own : Nat → Prop} {want : Bool} {u : AV} {v : Value} : ∀ {y : AV}, y.isG = true → (y.says want → RA E dm own W v u) → (¬ y.says want → v = undef) → RA E dm own W v (y.wrap want u)
  | .gd t w y, hg, h, h' => by
    simp only [AV.isG] at hg
    simp only [AV.wrap]
    simp only [AV.says] at h h'
    exact .gd (fun ht => RA.wrap hg (fun hs => h ⟨ht, hs⟩) (fun hs => h' (fun e => hs e.2))) (fun ht => h' (fun e => ht e.1))
  | .d (.s (.bool t)), _, h, h' => .gd h h'
theorem wanted_says {dj : Nat} {y : AV} {want : Bool} {j : Nat} {o : Oper} {l : List Oper} (hg : o.guard = some (j, want)) (hj : (l[j]?).bind (·.dst) = some dj) (hh : HdE P X al bs E a W) (hs : lk al dj = some y) (hG : y.isG = true) : Region.wanted o (yielded l.toArray a.tmps) = true ↔ y.says want := by
  obtain ⟨v, h1, h2⟩ := hh.sl dj _ hs
  have hj' : (l.toArray[j]?).bind (·.dst) = some dj := by simpa using hj
  rw [wanted_of hg, yielded_at hj' h1]
  exact AV.says_iff hG h2
theorem HdE.wrapT {y : AV} {want : Bool} (hG : y.isG = true) (hs : y.says want) (h : HdE P X ((d, u) :: al) bs E a W) : HdE P X ((d, y.wrap want u) :: al) bs E a W := by
  refine ⟨h.ext, h.o0, h.df, h.sz, h.en, fun n x hx => ?_, h.bk, h.lo, h.nd⟩
  rw [lk_cons] at hx
  split at hx
  · rename_i he
    subst he
    simp only [Option.some.injEq] at hx
    subst hx
    obtain ⟨v, h1, h2⟩ := h.sl d u (lk_self _ _ _)
    exact ⟨v, h1, RA.wrap hG (fun _ => h2) (fun e => absurd hs e)⟩
  · rename_i he
    exact h.sl n x (by rw [lk_ne _ _ he]; exact hx)
theorem G.gN {l : List Oper} {dj : Nat} {want : Bool} {j : Nat} {y y' : AV} (h : G P X ((d, y') :: al) bs (WL P ro l.toArray Q rest)) (lt : y.says want → LT P X al bs op (some d) rb [(d, u)] []) (hy : y.wrap want u = y') (hj : (l[j]?).bind (·.dst) = some dj) (hs : lk al dj = some y) (hG : y.isG = true) (hd : Nat.blt d X.N = true) :
    G P X al bs (WL P ro l.toArray Q ({ dst := some d, op := op, type := ty, pos := ps, after := af, guard := some (j, want) } :: rest)) := by
  subst hy
  intro E a W hh
  have hw := wanted_says (o := { dst := some d, op := op, type := ty, pos := ps, after := af, guard := some (j, want) }) rfl hj hh hs hG
  by_cases hq : y.says want
  · exact WL.yes (hw.2 hq) (lt hq ro al bs (Loc.refl _) (LocB.refl _) E a W hh _ rfl rfl _ Q (fun E' a' W' h' => h E' a' W' (HdE.wrapT hG hq h')))
  · exact WL.no (fun e => hq (hw.1 e)) (h E _ W (hh.put (RA.wrap hG (fun e => absurd e hq) (fun _ => rfl)) (by simpa using hd)))
/-! #### In a region that draws its order -/
/-- The walk through such a region: sts steps are told, rest is to come. -/
def GD (P : Program) (X : Cx) (l : List Oper) (Q : Exit → Act → World → Prop) (id : Nat) (al0 : List (Nat × AV)) (bs0 : Bs) (sts : List Stp) (al : List (Nat × AV)) (bs : Bs) (rest : List Oper) : Prop :=
  (∃ sls bls, Chain P X l Q al0 bs0 sts sls bls al bs) → l.drop sts.length = rest → ∀ ro, G P X al0 bs0 (Wp P ro (Code.region id l.toArray true) Q)
section
variable {l : List Oper} {id : Nat} {al0 : List (Nat × AV)} {bs0 : Bs} {sts : List Stp} {rs : List Nat}
theorem GD.start (h : GD P X l Q id al bs [] al bs l) : G P X al bs (Wp P ro (Code.region id l.toArray true) Q) := h ⟨[], [], .nil⟩ rfl ro
theorem GD.done (h : G P X al bs (Q .normal)) (hm : P.follows .mixedOrders = true) (hchk : chkS l sts = true) : GD P X l Q id al0 bs0 sts al bs [] := fun ⟨_, _, c⟩ _ ro => c.region hm hchk h
theorem GD.go {o : Oper} (hl : l[sts.length]? = some o → LOp P X l Q sts.length al bs rs rb sl bl) (h : GD P X l Q id al0 bs0 (sts ++ [⟨rs, sl.map (·.1), rb, bl.map (·.1)⟩]) (sl ++ al) (bl ++ bs) rest) : GD P X l Q id al0 bs0 sts al bs (o :: rest) := fun ⟨_, _, c⟩ hd => by
  have ho : l[sts.length]? = some o := by
    have := congrArg List.head? hd
    rw [List.head?_drop] at this
    exact this
  refine h ⟨_, _, c.snoc (hl ho)⟩ ?_
  rw [List.length_append, List.length_singleton, ← List.drop_drop, hd]
  rfl
theorem LT.lop {i : Nat} {o : Oper} (lt : LT P X al bs o.op o.dst rb sl bl) (hg : o.guard = none) (ho : l[i]? = some o) : LOp P X l Q i al bs (opT o.op) rb sl bl := fun ro al2 bs2 hl hb E a W hh K hK =>
  WOp.yes (by simpa using ho) (by unfold Region.wanted; rw [hg]) (lt ro al2 bs2 hl hb E a W hh o rfl rfl K Q hK)
theorem LT.lopT {i j dj : Nat} {t want : Bool} {o : Oper} (lt : LT P X al bs o.op o.dst rb sl bl) (hg : o.guard = some (j, want)) (ho : l[i]? = some o) (hj : (l[j]?).bind (·.dst) = some dj) (hs : lk al dj = some (.d (.s (.bool t)))) (ht : t = want) : LOp P X l Q i al bs (dj :: opT o.op) rb sl bl := fun ro al2 bs2 hl hb E a W hh K hK =>
  WOp.yes (by simpa using ho) (by rw [wanted_is hg hj hh ((hl dj (List.mem_cons_self ..)).trans hs), ht]; simp) (lt ro al2 bs2 (fun n hn => hl n (List.mem_cons_of_mem _ hn)) hb E a W hh o rfl rfl K Q hK)
theorem lopF {i j dj : Nat} {t want : Bool} {o : Oper} (hdst : o.dst = some d) (hg : o.guard = some (j, want)) (ho : l[i]? = some o) (hj : (l[j]?).bind (·.dst) = some dj) (hs : lk al dj = some (.d (.s (.bool t)))) (ht : t = !want) (hd : Nat.blt d X.N = true) : LOp P X l Q i al bs [dj] [] [(d, .any)] [] := fun ro al2 bs2 hl hb E a W hh K hK =>
  WOp.no (o := o) (by simpa using ho) (by rw [wanted_is hg hj hh ((hl dj (List.mem_cons_self ..)).trans hs), ht]; cases want <;> simp) (by rw [hdst]; exact hK E _ W (hh.put .any (by simpa using hd)))
theorem LT.lopL {i j dj : Nat} {t want : Bool} {o : Oper} (lt : t = want → LT P X al bs o.op (some d) rb [(d, u)] []) (hdst : o.dst = some d) (hg : o.guard = some (j, want)) (ho : l[i]? = some o) (hj : (l[j]?).bind (·.dst) = some dj) (hs : lk al dj = some (.d (.s (.bool t)))) (hd : Nat.blt d X.N = true) : LOp P X l Q i al bs (dj :: opT o.op) rb [(d, .gd t want u)] [] := fun ro al2 bs2 hl hb E a W hh K hK => by
  have hw := wanted_is hg hj hh ((hl dj (List.mem_cons_self ..)).trans hs)
  have ho' : l.toArray[i]? = some o := by simpa using ho
  by_cases ht : t = want
  · exact WOp.yes ho' (by rw [hw, ht]; simp) (lt ht ro al2 bs2 (fun n hn => hl n (List.mem_cons_of_mem _ hn)) hb E a W hh o rfl hdst K Q (fun E' a' W' h' => hK E' a' W' (HdE.under ht h')))
  · exact WOp.no ho' (by rw [hw]; simpa using ht) (by rw [hdst]; exact hK E _ W (hh.put (.gd (fun e => absurd e ht) (fun _ => rfl)) (by simpa using hd)))
theorem GD.gL {j dj : Nat} {t want : Bool} (h : GD P X l Q id al0 bs0 (sts ++ [⟨dj :: opT op, [d], rb, []⟩]) ((d, .gd t want u) :: al) bs rest) (lt : t = want → LT P X al bs op (some d) rb [(d, u)] []) (hj : (l[j]?).bind (·.dst) = some dj) (hs : lk al dj = some (.d (.s (.bool t)))) (hd : Nat.blt d X.N = true) : GD P X l Q id al0 bs0 sts al bs ({ dst := some d, op := op, type := ty, pos := ps, after := af, guard := some (j, want) } :: rest) := GD.go (sl := [(d, .gd t want u)]) (bl := []) (fun ho => LT.lopL lt rfl rfl ho hj hs hd) h
theorem GD.gN {j dj : Nat} {want : Bool} {y y' : AV} (h : GD P X l Q id al0 bs0 (sts ++ [⟨dj :: opT op, [d], rb, []⟩]) ((d, y') :: al) bs rest) (lt : y.says want → LT P X al bs op (some d) rb [(d, u)] []) (hy : y.wrap want u = y') (hj : (l[j]?).bind (·.dst) = some dj) (hs : lk al dj = some y) (hG : y.isG = true) (hd : Nat.blt d X.N = true) : GD P X l Q id al0 bs0 sts al bs ({ dst := some d, op := op, type := ty, pos := ps, after := af, guard := some (j, want) } :: rest) := by
  subst hy
  refine GD.go (sl := [(d, y.wrap want u)]) (bl := []) (fun ho => ?_) h
  intro ro al2 bs2 hl hb E a W hh K hK
  have hw := wanted_says (o := { dst := some d, op := op, type := ty, pos := ps, after := af, guard := some (j, want) }) rfl hj hh ((hl dj (List.mem_cons_self ..)).trans hs) hG
  have ho' : l.toArray[sts.length]? = some { dst := some d, op := op, type := ty, pos := ps, after := af, guard := some (j, want) } := by simpa using ho
  by_cases hq : y.says want
  · refine WOp.yes ho' (hw.2 hq) ?_
    exact (lt hq ro al2 bs2 (fun n hn => hl n (List.mem_cons_of_mem _ hn)) hb E a W hh _ rfl rfl K Q (fun E' a' W' h' => hK E' a' W' (HdE.wrapT hG hq h')))
  · refine WOp.no ho' (fun e => hq (hw.1 e)) ?_
    exact hK E _ W (hh.put (RA.wrap hG (fun e => absurd e hq) (fun _ => rfl)) (by simpa using hd))
theorem GD.w1 (h : GD P X l Q id al0 bs0 (sts ++ [⟨opT op, [s.1], rb, []⟩]) (s :: al) bs rest) (lt : LT P X al bs op dst rb [s] []) : GD P X l Q id al0 bs0 sts al bs ({ dst := dst, op := op, type := ty, pos := ps, after := af, guard := none } :: rest) := GD.go (sl := [s]) (bl := []) (fun ho => LT.lop lt rfl ho) h
theorem GD.w0 (h : GD P X l Q id al0 bs0 (sts ++ [⟨opT op, [], rb, [e.1]⟩]) al (e :: bs) rest) (lt : LT P X al bs op dst rb [] [e]) : GD P X l Q id al0 bs0 sts al bs ({ dst := dst, op := op, type := ty, pos := ps, after := af, guard := none } :: rest) := GD.go (sl := []) (bl := [e]) (fun ho => LT.lop lt rfl ho) h
theorem GD.w2 (h : GD P X l Q id al0 bs0 (sts ++ [⟨opT op, [s.1], rb, [e.1]⟩]) (s :: al) (e :: bs) rest) (lt : LT P X al bs op dst rb [s] [e]) : GD P X l Q id al0 bs0 sts al bs ({ dst := dst, op := op, type := ty, pos := ps, after := af, guard := none } :: rest) := GD.go (sl := [s]) (bl := [e]) (fun ho => LT.lop lt rfl ho) h
theorem GD.w3 (h : GD P X l Q id al0 bs0 (sts ++ [⟨opT op, [s.1], rb, [e.1, e'.1]⟩]) (s :: al) (e :: e' :: bs) rest) (lt : LT P X al bs op dst rb [s] [e, e']) : GD P X l Q id al0 bs0 sts al bs ({ dst := dst, op := op, type := ty, pos := ps, after := af, guard := none } :: rest) := GD.go (sl := [s]) (bl := [e, e']) (fun ho => LT.lop lt rfl ho) h
theorem GD.g1 {j dj : Nat} {t want : Bool} (h : GD P X l Q id al0 bs0 (sts ++ [⟨dj :: opT op, [s.1], rb, []⟩]) (s :: al) bs rest) (lt : LT P X al bs op dst rb [s] []) (hs : lk al dj = some (.d (.s (.bool t)))) (ht : t = want) (hj : (l[j]?).bind (·.dst) = some dj := by rfl) : GD P X l Q id al0 bs0 sts al bs ({ dst := dst, op := op, type := ty, pos := ps, after := af, guard := some (j, want) } :: rest) := GD.go (sl := [s]) (bl := []) (fun ho => LT.lopT lt rfl ho hj hs ht) h
theorem GD.gF {j dj : Nat} {t want : Bool} (h : GD P X l Q id al0 bs0 (sts ++ [⟨[dj], [d], [], []⟩]) ((d, .any) :: al) bs rest) (hs : lk al dj = some (.d (.s (.bool t)))) (ht : t = !want) (hj : (l[j]?).bind (·.dst) = some dj := by rfl) (hd : Nat.blt d X.N = true := by rfl) : GD P X l Q id al0 bs0 sts al bs ({ dst := some d, op := op, type := ty, pos := ps, after := af, guard := some (j, want) } :: rest) := GD.go (sl := [(d, .any)]) (bl := []) (fun ho => lopF rfl rfl ho hj hs ht hd) h
end

/-! #### The steps -/
theorem LT.rd (hr : Rd P X al bs rb op u) (hd : Nat.blt d X.N = true) : LT P X al bs op (some d) rb [(d, u)] [] := fun ro al2 bs2 hl hb E a W hh o ho hdst K Q hK => by
  obtain ⟨v, h1, h2⟩ := hr al2 bs2 hl hb E a W hh
  refine WO.of (h2.nd ho) ?_
  rw [h2 o ho]
  dsimp only [Oper.uponIn]
  rw [hdst]
  exact hK E _ W (hh.put h1 (by simpa using hd))
theorem LT.of_store {cs' : List AV} {T' : Nat} (h : ∀ al2 bs2, Loc (.store T x y) al al2 → LocB [b] bs bs2 → ∀ E a W, HdE P X al2 bs2 E a W → ∃ W', (Instr.storeAt T (a.eval x) (a.eval y)).run P W = .ok () W' ∧ HdE P X al2 ((b, some (T', cs')) :: bs2) E a W') : LT P X al bs (.store T x y) none [b] [] [(b, some (T', cs'))] := fun ro al2 bs2 hl hb E a W hh o ho hdst K Q hK => by
  obtain ⟨W', hr, hh'⟩ := h al2 bs2 hl hb E a W hh
  refine WO.of (by rw [ho]; intro c h; cases h) ?_
  unfold execOp
  simp only [ho, Sem.run_bind, hr, Result.andThen_ok, Sem.run_pure]
  dsimp only [Oper.uponIn]
  rw [hdst]
  exact hK E _ W' hh'.put0
theorem mem_sx : x ∈ (Op.store T x y).operands.toList := by simp [Op.operands]
theorem mem_sy : y ∈ (Op.store T x y).operands.toList := by simp [Op.operands]
/-- One cell is stored. -/
theorem LT.sts {T' : Nat} {cs cs' : List AV} [hT : TZs P T 1] (hx : ev al x = some (.p b off) := by rfl) (hy : ev al y = some u := by rfl) (hb : lk bs b = some (some (T', cs)) := by rfl) (hu : u.cells = [u] := by rfl) (hc : u.cell = true := by rfl) [h1 : LSet cs off u cs'] (hl : Nat.blt off cs.length = true := by rfl) :
    LT P X al bs (.store T x y) none [b] [] [(b, some (T', cs'))] := LT.of_store fun al2 bs2 hL hB E a W hh => by
  simp only [Nat.blt_eq] at hl
  obtain ⟨W', hr, hh'⟩ := hh.stored (hB.at hb (List.mem_cons_self ..)) (hh.ev (hL.ev hx mem_sx)) (hh.ev (hL.ev hy mem_sy)) hT.h (by rw [hu]; rfl) (by rw [hu]; simp [hc]) (by omega)
  have e1 : cs.take off ++ (u.cells ++ cs.drop (off + u.cells.length)) = cs' := by
    rw [hu, ← h1.h, List.set_eq_take_append_cons_drop, if_pos hl]
    rfl
  rw [e1] at hh'
  exact ⟨W', hr, hh'⟩
/-- A struct is stored whole. -/
theorem LT.stc {T' N : Nat} {cs cs' : List AV} [hT : TZs P T N] (hx : ev al x = some (.p b off)) (hy : ev al y = some u) (hb : lk bs b = some (some (T', cs))) (h0 : off = 0) (hu : u.cells = cs') (hN : cs'.length = N) (hl : cs.length = N) (hc : cs'.all AV.cell = true) :
    LT P X al bs (.store T x y) none [b] [] [(b, some (T', cs'))] := LT.of_store fun al2 bs2 hL hB E a W hh => by
  subst h0
  subst hu
  obtain ⟨W', hr, hh'⟩ := hh.stored (hB.at hb (List.mem_cons_self ..)) (hh.ev (hL.ev hx mem_sx)) (hh.ev (hL.ev hy mem_sy)) hT.h hN hc (by omega)
  have e1 : cs.take 0 ++ (u.cells ++ cs.drop (0 + u.cells.length)) = u.cells := by
    simp only [List.take_zero, List.nil_append, Nat.zero_add]
    rw [List.drop_of_length_le (by omega), List.append_nil]
  rw [e1] at hh'
  exact ⟨W', hr, hh'⟩
theorem LT.stw {T' N : Nat} {cs : List AV} {ds : List D} [hT : TZs P T N] (hx : ev al x = some (.p b off) := by rfl) (hy : ev al y = some (.d (.st ds)) := by rfl) (hb : lk bs b = some (some (T', cs)) := by rfl) (h0 : off = 0 := by rfl) (hN : ds.length = N := by rfl) (hl : cs.length = N := by rfl) (hc : ds.all D.cell = true := by rfl) :
    LT P X al bs (.store T x y) none [b] [] [(b, some (T', ds.map .d))] := LT.stc hx hy hb h0 rfl (by rw [List.length_map]; exact hN) hl (by rw [List.all_map]; exact hc)
theorem LT.stwA {T' N : Nat} {cs cs' : List AV} [hT : TZs P T N] (hx : ev al x = some (.p b off) := by rfl) (hy : ev al y = some (.st cs') := by rfl) (hb : lk bs b = some (some (T', cs)) := by rfl) (h0 : off = 0 := by rfl) (hN : cs'.length = N := by rfl) (hl : cs.length = N := by rfl) (hc : cs'.all AV.cell = true := by rfl) :
    LT P X al bs (.store T x y) none [b] [] [(b, some (T', cs'))] := LT.stc hx hy hb h0 rfl hN hl hc
/-- A part of a struct is stored. -/
theorem LT.stp {T' N : Nat} {cs cs' : List AV} {ds : List D} [hT : TZs P T N] (hcs : cs.take off ++ (ds.map .d ++ cs.drop (off + N)) = cs') (hx : ev al x = some (.p b off) := by rfl) (hy : ev al y = some (.d (.st ds)) := by rfl) (hb : lk bs b = some (some (T', cs)) := by rfl) (hN : ds.length = N := by rfl) (hl : Nat.ble (off + N) cs.length = true := by rfl) (hc : ds.all D.cell = true := by rfl) :
    LT P X al bs (.store T x y) none [b] [] [(b, some (T', cs'))] := LT.of_store fun al2 bs2 hL hB E a W hh => by
  simp only [Nat.ble_eq] at hl
  obtain ⟨W', hr, hh'⟩ := hh.stored (hB.at hb (List.mem_cons_self ..)) (hh.ev (hL.ev hx mem_sx)) (hh.ev (hL.ev hy mem_sy)) hT.h (by simp only [AV.cells, List.length_map]; exact hN) (by simp only [AV.cells, List.all_map]; exact hc) hl
  simp only [AV.cells, List.length_map, hN] at hh'
  rw [hcs] at hh'
  exact ⟨W', hr, hh'⟩
theorem flat_set {α : Type} {m : Nat} : ∀ (rows : List (List α)) (j : Nat) (row : List α), (∀ r ∈ rows, r.length = m) → j < rows.length → row.length = m → rows.flatten.take (j * m) ++ (row ++ rows.flatten.drop (j * m + m)) = (rows.set j row).flatten
  | [], j, row, _, h, _ => by simp at h
  | r :: rows, 0, row, hm, h, hr => by
    have h1 := hm r (List.mem_cons_self ..)
    simp only [Nat.zero_mul, List.take_zero, List.nil_append, Nat.zero_add, List.flatten_cons, List.set_cons_zero]
    rw [← h1, List.drop_left]
  | r :: rows, j + 1, row, hm, h, hr => by
    have h1 := hm r (List.mem_cons_self ..)
    have e := flat_set rows j row (fun x hx => hm x (List.mem_cons_of_mem _ hx)) (by simpa using h) hr
    rw [List.set_cons_succ, List.flatten_cons, List.flatten_cons, ← e, show (j + 1) * m = r.length + j * m by rw [h1, Nat.add_mul, Nat.one_mul, Nat.add_comm], List.take_length_add_append, Nat.add_assoc, List.drop_length_add_append, List.append_assoc]
/-- An element of a row is replaced. -/
theorem LT.stRow {T' N : Nat} {rows : List (List D)} {row : List D} (j : Nat) [hT : TZs P T N] (hm : ∀ r ∈ rows, r.length = N) (hj : j < rows.length) (hN : row.length = N) (hc : row.all D.cell = true) (hx : ev al x = some (.p b (j * N)) := by rfl) (hy : ev al y = some (.d (.st row)) := by rfl) (hb : lk bs b = some (some (T', rows.flatten.map .d)) := by rfl) :
    LT P X al bs (.store T x y) none [b] [] [(b, some (T', (rows.set j row).flatten.map .d))] := LT.of_store fun al2 bs2 hL hB E a W hh => by
  have hfl := flat_len rows hm
  have hle : j * N + N ≤ rows.length * N := by rw [← Nat.succ_mul]; exact Nat.mul_le_mul_right _ hj
  obtain ⟨W', hr, hh'⟩ := hh.stored (hB.at hb (List.mem_cons_self ..)) (hh.ev (hL.ev hx mem_sx)) (hh.ev (hL.ev hy mem_sy)) hT.h (by simp only [AV.cells, List.length_map]; exact hN) (by simp only [AV.cells, List.all_map]; exact hc) (by simp only [List.length_map, hfl]; exact hle)
  have e1 : (rows.flatten.map AV.d).take (j * N) ++ ((AV.d (.st row)).cells ++ (rows.flatten.map AV.d).drop (j * N + (AV.d (.st row)).cells.length)) = (rows.set j row).flatten.map .d := by
    simp only [AV.cells, List.length_map, hN]
    rw [← List.map_take, ← List.map_drop, ← List.map_append, ← List.map_append, flat_set rows j row hm hj hN]
  rw [e1] at hh'
  exact ⟨W', hr, hh'⟩
theorem RAL.zeros {dm own : Nat → Prop} : ∀ {zs : List Value}, zs.all (·.oneCell') = true → RAL E dm own W zs (zs.map (fun v => .d (.s v)))
  | [], _ => .nil
  | z :: zs, h => by
    simp only [List.all_cons, Bool.and_eq_true] at h
    exact .cons (.d (.s h.1)) (RAL.zeros h.2)
/-- The zero value's cells. -/
class TZc (P : Program) (T : TypeId) (n : outParam Nat) (zs : outParam (List AV)) : Prop where
  h : ∃ (i : TypeInfo) (z : Value) (vs : List Value), P.info? T = some i ∧ i.zero = some z ∧ z.cells = vs.toArray ∧ i.size = n ∧ vs.length = n ∧ vs.all (·.oneCell') = true ∧ zs = vs.map (fun v => .d (.s v))
theorem LT.alc {n : Nat} {zs : List AV} [hT : TZc P T n zs] (hk : bs.length = k := by simp only [List.length_cons, List.length_nil, Nat.reduceAdd]; rfl) (hf : lk bs k = none := by rfl) (hd : Nat.blt d X.N = true := by rfl) :
    LT P X al bs (.alloc T) (some d) [k] [(d, .p k 0)] [(k, some (T, zs))] := fun ro al2 bs2 hL hB E a W hh o ho hdst K Q hK => by
  obtain ⟨i, z, vs, h1, h2, h3, h4, h5, h6, rfl⟩ := hT.h
  have hf2 : lk bs2 k = none := (hB k (List.mem_cons_self ..)).trans hf
  have hh' := hh.alloc (T := T) hf2 (RAL.zeros h6) (by rw [h1, Option.map_some, h4]) (n := 1) (by omega) (by decide)
  have hr : (Instr.alloc T true (.tuple #[])).run P W = .ok (.pointer (some ⟨W.heap.size, 0, none⟩)) (W.alloc (.cells vs.toArray T)) := by
    simp [Instr.alloc, zeroValue, typeInfo, h1, h2, newVar, newRow, newObj, h3, Sem.run]
  refine WO.of (by rw [ho]; intro c h; cases h) ?_
  unfold execOp
  simp only [ho, Sem.run_bind, hr, Result.andThen_ok, Sem.run_pure]
  dsimp only [Oper.uponIn]
  rw [hdst]
  refine hK _ _ _ (hh'.put ?_ (by simpa using hd))
  have := RA.p (E := E.set k W.heap.size (.slice (some ⟨W.heap.size, 0, none⟩) 1 1) false) (dm := dom ((k, some (T, vs.map (fun v => AV.d (.s v)))) :: bs2)) (own := ownS (E.set k W.heap.size (.slice (some ⟨W.heap.size, 0, none⟩) 1 1) false) X.o ((k, some (T, vs.map (fun v => AV.d (.s v)))) :: bs2)) (W := W.alloc (.cells vs.toArray T)) (b := k) (off := 0) ⟨_, lk_self _ _ _⟩ (Env.set_nl ..)
  rw [Env.set_A] at this
  exact this
theorem LT.bxc {n : Nat} {cs : List AV} [hT : TZs P T n] (hk : lk bs k = none) (hy : ev al x = some u) (hcs : u.cells = cs) (hn : cs.length = n) (hc : cs.all AV.cell = true) (hd : Nat.blt d X.N = true) :
    LT P X al bs (.box T x) (some d) [k] [(d, .p k 0)] [(k, some (T, cs))] := fun ro al2 bs2 hL hB E a W hh o ho hdst K Q hK => by
  subst hcs
  have hf2 : lk bs2 k = none := (hB k (List.mem_cons_self ..)).trans hk
  obtain ⟨g1, g2⟩ := (hh.ev (hL.ev hy (by simp [Op.operands]))).cellsOf hc
  have hh' := hh.alloc (T := T) hf2 g1 hT.h (n := 1) (by rw [g1.len, hn]; omega) (by decide)
  have hr : (Instr.box T (a.eval x)).run P W = .ok (.pointer (some ⟨W.heap.size, 0, none⟩)) (W.alloc (.cells (a.eval x).cells T)) := by
    simp [Instr.box, newVar, newRow, newObj, Sem.run]
  refine WO.of (by rw [ho]; intro c h; cases h) ?_
  unfold execOp
  simp only [ho, Sem.run_bind, hr, Result.andThen_ok, Sem.run_pure]
  rw [Array.toArray_toList] at hh'
  dsimp only [Oper.uponIn]
  rw [hdst]
  refine hK _ _ _ (hh'.put ?_ (by simpa using hd))
  have := RA.p (E := E.set k W.heap.size (.slice (some ⟨W.heap.size, 0, none⟩) 1 1) false) (dm := dom ((k, some (T, u.cells)) :: bs2)) (own := ownS (E.set k W.heap.size (.slice (some ⟨W.heap.size, 0, none⟩) 1 1) false) X.o ((k, some (T, u.cells)) :: bs2)) (W := W.alloc (.cells (a.eval x).cells T)) (b := k) (off := 0) ⟨_, lk_self _ _ _⟩ (Env.set_nl ..)
  rw [Env.set_A] at this
  exact this
/-- A variable in memory that begins with data. -/
theorem LT.bx {n : Nat} {ds : List D} [hT : TZs P T n] (hk : bs.length = k := by simp only [List.length_cons, List.length_nil, Nat.reduceAdd]; rfl) (hf : lk bs k = none := by rfl) (hy : ev al x = some (.d (.st ds)) := by rfl) (hn : ds.length = n := by rfl) (hc : ds.all D.cell = true := by rfl) (hd : Nat.blt d X.N = true := by rfl) :
    LT P X al bs (.box T x) (some d) [k] [(d, .p k 0)] [(k, some (T, ds.map .d))] := LT.bxc (cs := ds.map .d) hf hy rfl (by rw [List.length_map]; exact hn) (by rw [List.all_map]; exact hc) hd
theorem LT.bx1 [hT : TZs P T 1] (hk : bs.length = k := by simp only [List.length_cons, List.length_nil, Nat.reduceAdd]; rfl) (hf : lk bs k = none := by rfl) (hy : ev al x = some u := by rfl) (hu : u.cells = [u] := by rfl) (hc : u.cell = true := by rfl) (hd : Nat.blt d X.N = true := by rfl) :
    LT P X al bs (.box T x) (some d) [k] [(d, .p k 0)] [(k, some (T, [u]))] := LT.bxc (cs := [u]) hf hy hu rfl (by simp [hc]) hd
theorem EvL.loc {op : Op} {al2 : List (Nat × AV)} (hL : Loc op al al2) : ∀ {args : List Operand} {xs : List AV}, (∀ x ∈ args, x ∈ op.operands.toList) → EvL al args xs → EvL al2 args xs
  | [], _, _, .nil => .nil
  | x :: args, _, hm, .cons h t => .cons (hL.evd h (hm x (List.mem_cons_self ..))) (EvL.loc hL (fun z hz => hm z (List.mem_cons_of_mem _ hz)) t)
/-- What a call comes to. -/
theorem HdE.calls {K : Nat} {args : List Operand} {ats : Array TypeId} {xs : List AV} {ds : List D} {R : D → Prop} (hf : Fn P K ds R) (hh : HdE P X al bs E a W) (he : EvL al args xs) (hp : Pl xs ds) (o : Oper) (ho : o.op = .call { callee := .value (.func K), args := args.toArray, argTypes := ats }) (hdst : o.dst = some d) (hd : Nat.blt d X.N = true)
    (Kc : Act → World → Prop) (h : ∀ r, R r → ∀ E' a' W', HdE P X ((d, .d r) :: al) bs E' a' W' → Kc a' W') : WO P ro o a W Kc Q := by
  have hr := hh.evsOk he
  rw [hp.h] at hr
  refine WO.of (by rw [ho]; intro c h; cases h) ?_
  unfold execOp
  have hrun : (do let dd ← resolve a.eval { callee := .value (.func K), args := args.toArray, argTypes := ats } o.type; invoke dd.target dd.args : Sem Next).run P W = .ok (.enter K (args.map a.eval).toArray) W := by
    simp [resolve, Deferred.ofValue, Act.eval, invoke, callFunc_enter hf.1]
  simp only [ho]
  rw [hrun]
  rw [Oper.uponIn_enter]
  refine ⟨(fun hq => by cases hq), (callsIn_wide (n := 0)).2 ((hf.2 (ownS E X.o bs) W _ (fun r ho => hh.own_lt ho) hr.unmap).mono ?_)⟩
  rintro e W' ⟨v, x, rfl, hx, hE, hv⟩
  dsimp only
  rw [hdst]
  exact h x hx E _ W' ((hh.grow hE).put (.d hv) (by simpa using hd))
/-- A call of a function that takes data. -/
theorem G.cl {K : Nat} {args : List Operand} {ats : Array TypeId} {xs : List AV} {ds : List D} {R : D → Prop} (hf : Fn P K ds R) (h : ∀ r, R r → G P X ((d, .d r) :: al) bs (WL P ro ops Q rest)) (he : EvL al args xs := by repeat (first | exact EvL.nil | (apply EvL.cons; exact ⟨_, rfl, by (try (apply Und.gd; assumption; try (apply Und.gd; assumption; try (apply Und.gd; assumption)))); exact Und.refl _⟩))) [hp : Pl xs ds] (hd : Nat.blt d X.N = true := by rfl) :
    G P X al bs (WL P ro ops Q ({ dst := some d, op := .call { callee := .value (.func K), args := args.toArray, argTypes := ats }, type := ty, pos := ps, after := af, guard := none } :: rest)) := fun E a W hh =>
  WL.plain rfl (fun Kc hK => hh.calls hf he hp _ rfl rfl hd Kc (fun r hr E' a' W' h' => hK _ _ (h r hr E' a' W' h')))
/-- Its result is told. -/
theorem LT.ce {K : Nat} {args : List Operand} {ats : Array TypeId} {xs : List AV} {ds : List D} {r : D} (hf : Fn P K ds (· = r)) (he : EvL al args xs := by repeat (first | exact EvL.nil | (apply EvL.cons; exact ⟨_, rfl, by (try (apply Und.gd; assumption; try (apply Und.gd; assumption; try (apply Und.gd; assumption)))); exact Und.refl _⟩))) [hp : Pl xs ds] (hd : Nat.blt d X.N = true := by rfl) :
    LT P X al bs (.call { callee := .value (.func K), args := args.toArray, argTypes := ats }) (some d) [] [(d, .d r)] [] := fun ro al2 bs2 hL hB E a W hh o ho hdst K Q hK =>
  hh.calls hf (EvL.loc hL (fun x hx => by simp [Op.operands, Call.operands, hx]) he) hp o ho hdst hd K (fun _ hr E' a' W' h' => hK E' a' W' (by rw [hr] at h'; exact h'))
/-- append to a row of one's own. -/
theorem LT.ap {t e size bytes n : Nat} {rows0 rows : List (List D)} [hT : TAp P t e size bytes] (hm : ∀ r ∈ rows, r.length = size) (hc : rows.flatten.all D.cell = true) (h63 : n + rows.length ≤ 100000) (hby : Nat.ble bytes 1000000 = true := by rfl)
    (hk : bs.length = k := by simp only [List.length_cons, List.length_nil, Nat.reduceAdd]; rfl) (hf : lk bs k = none := by rfl) (hx : ev al x = some (.o b n) := by rfl) (hy : ev al y = some (.d (.l rows)) := by rfl) (hb : lk bs b = some (some (e, rows0.flatten.map .d)) := by rfl) (hd : Nat.blt d X.N = true := by rfl) :
    LT P X al bs (.call { callee := .builtin .append, args := #[x, y], argTypes := #[t, t] }) (some d) [b, k] [(d, .o k (n + rows.length))] [(k, some (e, (rows0 ++ rows).flatten.map .d)), (b, none)] := fun ro al2 bs2 hL hB E a W hh o ho hdst K Q hK => by
  simp only [Nat.ble_eq] at hby
  have hf2 : lk bs2 k = none := (hB k (by simp)).trans hf
  obtain ⟨v', W', E', hrun, g1, g2⟩ := hh.append (ty := o.type) k hf2 hT (hB.at hb (by simp)) (hh.ev (hL.ev hx (by simp [Op.operands, Call.operands]))) (hh.ev (hL.ev hy (by simp [Op.operands, Call.operands]))) hm hc (by unfold maxLen; omega) (by
    have := Nat.mul_le_mul h63 hby
    omega)
  rw [← List.map_append, ← List.flatten_append] at g1 g2
  refine WO.of (by rw [ho]; intro c h; cases h) ?_
  unfold execOp
  have : (do let dd ← resolve a.eval { callee := .builtin .append, args := #[x, y], argTypes := #[t, t] } o.type; invoke dd.target dd.args : Sem Next).run P W = .ok (.value v') W' := by
    simp [resolve, invoke, builtin, hrun]
  simp only [ho]
  rw [this]
  dsimp only [Oper.uponIn]
  rw [hdst]
  exact hK _ _ _ (g1.put g2 (by simpa using hd))
/-! #### One step, whichever -/
theorem G.sto (h : G P X al (e :: bs) (WL P ro ops Q rest)) (lt : LT P X al bs op none rb [] [e] := by first | exact LT.sts | exact LT.stw | exact LT.stwA) :
    G P X al bs (WL P ro ops Q ({ dst := none, op := op, type := ty, pos := ps, after := af, guard := none } :: rest)) := G.w0 h lt
theorem G.new (h : G P X ((d, u) :: al) (e :: bs) (WL P ro ops Q rest)) (lt : LT P X al bs op (some d) rb [(d, u)] [e] := by first | exact LT.alc | exact LT.bx | exact LT.bx1) :
    G P X al bs (WL P ro ops Q ({ dst := some d, op := op, type := ty, pos := ps, after := af, guard := none } :: rest)) := G.w2 h lt
theorem GD.sto {l : List Oper} {id : Nat} {al0 : List (Nat × AV)} {bs0 : Bs} {sts : List Stp} (h : GD P X l Q id al0 bs0 (sts ++ [⟨opT op, [], rb, [e.1]⟩]) al (e :: bs) rest) (lt : LT P X al bs op none rb [] [e] := by first | exact LT.sts | exact LT.stw | exact LT.stwA) :
    GD P X l Q id al0 bs0 sts al bs ({ dst := none, op := op, type := ty, pos := ps, after := af, guard := none } :: rest) := GD.w0 h lt
theorem GD.new {l : List Oper} {id : Nat} {al0 : List (Nat × AV)} {bs0 : Bs} {sts : List Stp} (h : GD P X l Q id al0 bs0 (sts ++ [⟨opT op, [d], rb, [e.1]⟩]) ((d, u) :: al) (e :: bs) rest) (lt : LT P X al bs op (some d) rb [(d, u)] [e] := by first | exact LT.alc | exact LT.bx | exact LT.bx1) :
    GD P X l Q id al0 bs0 sts al bs ({ dst := some d, op := op, type := ty, pos := ps, after := af, guard := none } :: rest) := GD.w2 h lt
end

/-! ### Slots told otherwise -/
theorem G.slots {c : Act → World → Prop} {n : Nat} {y : AV} {E' : Env} {al' : List (Nat × AV)} {bs' : Bs} {v : Value} (h3 : HdE P X al bs' E' a W) (h1 : a.tmps[n]? = some v) (h2 : RA E' (dom bs') (ownS E' X.o bs') W v y) (hc : G P X ((n, y) :: al) bs' c) : c a W := by
  refine hc E' a W ⟨h3.ext, h3.o0, h3.df, h3.sz, h3.en, fun k z hk => ?_, h3.bk, h3.lo, h3.nd⟩
  rw [lk_cons] at hk
  split at hk
  · rename_i he
    subst he
    simp only [Option.some.injEq] at hk
    subst hk
    exact ⟨_, h1, h2⟩
  · exact h3.sl k z hk
/-- A slot that holds nil becomes a row of one's own. -/
theorem G.nilRow {c : Act → World → Prop} {k : Nat} (n : Nat) (T : TypeId) (h : G P X ((n, .o k 0) :: al) ((k, some (T, ([] : List (List D)).flatten.map .d)) :: bs) c) (hk : bs.length = k := by simp only [List.length_cons, List.length_nil, Nat.reduceAdd]; rfl) (hf : lk bs k = none := by rfl) (hx : lk al n = some (.d (.s (.slice none 0 0))) := by rfl) : G P X al bs c := fun E a W hh => by
  obtain ⟨v, h1, h2⟩ := hh.sl n _ hx
  obtain rfl := h2.scalar
  exact G.slots (al' := al) (hh.nilRow k T hf) h1 (.o ⟨_, lk_self _ _ _⟩ (by rw [Env.set_V])) h
/-- A slot is told otherwise. -/
theorem G.tell {c : Act → World → Prop} (n : Nat) {x y : AV} (hx : lk al n = some x) (hxy : ∀ E dm own W v, RA E dm own W v x → RA E dm own W v y) (h : G P X ((n, y) :: al) bs c) : G P X al bs c := fun E a W hh => by
  obtain ⟨v, h1, h2⟩ := hh.sl n x hx
  exact G.slots (al' := al) hh h1 (hxy _ _ _ _ _ h2) h
theorem RD.nilL {own : Nat → Prop} {v : Value} (h : RD own W v (.s (.slice none 0 0))) : RD own W v (.l []) := by
  cases h with
  | s h => exact .nl
/-- nil is an empty list. -/
theorem G.nilL {c : Act → World → Prop} (n : Nat) (h : G P X ((n, .d (.l [])) :: al) bs c) (hx : lk al n = some (.d (.s (.slice none 0 0))) := by rfl) : G P X al bs c :=
  G.tell n hx (fun _ _ _ _ _ h => by cases h with | d h => exact .d h.nilL) h
/-- A row that is not changed any more. -/
theorem G.frz {c : Act → World → Prop} {b k m : Nat} {T : TypeId} {rows : List (List D)} (n : Nat) [hT : TZs P T m] (h : G P X ((n, .d (.l rows)) :: al) ((b, none) :: bs) c) (hm : ∀ r ∈ rows, r.length = m) (hk : k = rows.length) (hx : lk al n = some (.o b k) := by rfl) (hb : lk bs b = some (some (T, rows.flatten.map .d)) := by rfl) : G P X al bs c := fun E a W hh => by
  obtain ⟨v, e1, e2⟩ := hh.sl n _ hx
  exact G.slots (al' := al) (hh.drop b) e1 (.d (hh.data hb hm hT.h hk e2)) h

/-! ### Code -/
section
variable {Q : Exit → Act → World → Prop} {x y : Code}
theorem G.seq (h : ∀ K : Act → World → Prop, (∀ a w, Wp P ro y Q a w → K a w) → G P X al bs (Wp P ro x (Exit.then K Q))) : G P X al bs (Wp P ro (Code.seq x y) Q) := fun E a W hh => wpIn_seq_k (fun K hK => h K hK E a W hh)
theorem G.k {c K : Act → World → Prop} (hK : ∀ a w, c a w → K a w) (h : G P X al bs c) : G P X al bs K := fun E a W hh => hK a W (h E a W hh)
theorem G.reg {id : Nat} {l : List Oper} (h : G P X al bs (WL P ro l.toArray Q l)) : G P X al bs (Wp P ro (Code.region id l.toArray false) Q) := fun E a W hh => wpIn_region_lit (h E a W hh)
theorem G.nl {ops : Array Oper} (h : G P X al bs (Q .normal)) : G P X al bs (WL P ro ops Q []) := fun E a W hh => wpListIn_nil (h E a W hh)
theorem G.skip (h : G P X al bs (Q .normal)) : G P X al bs (Wp P ro Code.skip Q) := fun E a W hh => wpIn_skip (h E a W hh)
theorem G.block {id : Nat} (h : G P X al bs (Wp P ro x (Exit.inBlock id Q))) : G P X al bs (Wp P ro (Code.block id x) Q) := fun E a W hh => wpIn_block (h E a W hh)
theorem G.exit {id : Nat} (h : G P X al bs (Q (.exit id))) : G P X al bs (Wp P ro (Code.exit id) Q) := fun E a W hh => wpIn_exit (h E a W hh)
theorem G.ret (h : G P X al bs (Q .ret)) : G P X al bs (Wp P ro Code.ret Q) := fun E a W hh => wpIn_ret (h E a W hh)
theorem G.qN {K : Act → World → Prop} (h : G P X al bs K) : G P X al bs (Exit.then K Q .normal) := h
theorem G.qE {K : Act → World → Prop} {id : Nat} (h : G P X al bs (Q (.exit id))) : G P X al bs (Exit.then K Q (.exit id)) := h
theorem G.qR {K : Act → World → Prop} (h : G P X al bs (Q .ret)) : G P X al bs (Exit.then K Q .ret) := h
theorem G.bN {id : Nat} (h : G P X al bs (Q .normal)) : G P X al bs (Exit.inBlock id Q .normal) := h
theorem G.bR {id : Nat} (h : G P X al bs (Q .ret)) : G P X al bs (Exit.inBlock id Q .ret) := h
theorem G.bE {id : Nat} (h : G P X al bs (Q .normal)) : G P X al bs (Exit.inBlock id Q (.exit id)) := fun E a W hh => by
  simp only [Exit.inBlock, if_pos]
  exact h E a W hh
theorem G.bE' {id id' : Nat} (h : G P X al bs (Q (.exit id'))) (hne : Nat.beq id' id = false := by rfl) : G P X al bs (Exit.inBlock id Q (.exit id')) := fun E a W hh => by
  have : id' ≠ id := fun e => by subst e; simp at hne
  simp only [Exit.inBlock, if_neg this]
  exact h E a W hh
theorem G.ifT {c : Operand} {t : Bool} (ht : t = true) (h : G P X al bs (Wp P ro x Q)) (hc : ev al c = some (.d (.s (.bool t))) := by rfl) : G P X al bs (Wp P ro (Code.cond c x y) Q) := fun E a W hh => wpIn_cond_true (by rw [hh.evs (.of hc), ht]) (h E a W hh)
theorem G.ifF {c : Operand} {t : Bool} (ht : t = false) (h : G P X al bs (Wp P ro y Q)) (hc : ev al c = some (.d (.s (.bool t))) := by rfl) : G P X al bs (Wp P ro (Code.cond c x y) Q) := fun E a W hh => wpIn_cond_false (by rw [hh.evs (.of hc), ht]) (h E a W hh)
theorem G.ifS {c : Operand} {t : Bool} (h1 : t = true → G P X al bs (Wp P ro x Q)) (h2 : t = false → G P X al bs (Wp P ro y Q)) (hc : ev al c = some (.d (.s (.bool t))) := by rfl) : G P X al bs (Wp P ro (Code.cond c x y) Q) := by
  cases t with
  | true => exact G.ifT rfl (h1 rfl) hc
  | false => exact G.ifF rfl (h2 rfl) hc
/-- A state told as a member of a family. -/
def At (P : Program) (X : Cx) {α : Type} (I : α → List (Nat × AV) × Bs) (Φ : α → Prop) (a : Act) (W : World) : Prop := ∃ z E, Φ z ∧ HdE P X (I z).1 (I z).2 E a W
theorem G.at {α : Type} {I : α → List (Nat × AV) × Bs} {Φ : α → Prop} (z : α) (π : List (Nat × Nat)) (hΦ : Φ z) (hs : SubR π al (I z).1) (hb : BsR bs π π (I z).2) (hd : (π.map (·.2)).Nodup) (hk : X.k.all (fun b => (lk (I z).2 b).isSome && Nat.beq ((lk π b).getD 0) b) = true := by rfl) : G P X al bs (At P X I Φ) := fun E a W hh => ⟨z, _, hΦ, hh.ren π hs hb hd hk⟩
theorem G.of_at {α : Type} {I : α → List (Nat × AV) × Bs} {Φ : α → Prop} {c : Act → World → Prop} (h : ∀ z, Φ z → G P X (I z).1 (I z).2 c) {a : Act} {W : World} (hh : At P X I Φ a W) : c a W := by
  obtain ⟨z, E, h1, h2⟩ := hh
  exact h z h1 E a W h2
/-- A loop: every round takes a member z of the family to one of a smaller measure, or leaves. -/
theorem G.loop {α : Type} (I : α → List (Nat × AV) × Bs) (Φ : α → Prop) (μ : α → Nat) (h0 : G P X al bs (At P X I Φ)) (h : ∀ z, Φ z → G P X (I z).1 (I z).2 (Wp P ro x (Exit.then (At P X I (fun z' => Φ z' ∧ μ z' < μ z)) Q))) : G P X al bs (Wp P ro (Code.loop x) Q) := fun E a W hh => by
  obtain ⟨z0, E0, h1, h2⟩ := h0 E a W hh
  refine Wp.loopG (fun n a W => ∃ z E, (Φ z ∧ μ z = n) ∧ HdE P X (I z).1 (I z).2 E a W) (μ z0) ⟨z0, E0, ⟨h1, rfl⟩, h2⟩ ?_
  · rintro n a W ⟨z, E', ⟨h1, h2⟩, h3⟩
    refine Wp.mono (h z h1 E' a W h3) ?_
    intro e a' W' hq
    cases e with
    | normal =>
      obtain ⟨z', E'', ⟨g1, g2⟩, g3⟩ := hq
      exact ⟨μ z', by omega, z', E'', ⟨g1, rfl⟩, g3⟩
    | _ => exact hq
/-- A cut: what follows a piece is walked once, from a family of states. -/
theorem G.cut {α : Type} {K : Act → World → Prop} (I : α → List (Nat × AV) × Bs) (Φ : α → Prop) (h1 : ∀ z, Φ z → G P X (I z).1 (I z).2 K) (h : ∀ J : Act → World → Prop, (∀ a w, At P X I Φ a w → J a w) → G P X al bs (Wp P ro x (Exit.then J Q))) : G P X al bs (Wp P ro x (Exit.then K Q)) := fun E a W hh => by
  refine Wp.mono (h (At P X I Φ) (fun _ _ h => h) E a W hh) ?_
  intro e a' W' hq
  cases e with
  | normal => exact G.of_at h1 hq
  | _ => exact hq
end

/-! ### Functions -/
theorem rangeAt.nocells {W W' : World} {l r o : Nat} {vs : List Value} {ob : Obj} (hl : W.heap[l]? = some ob) (hc : ob.isCells = false) (hg : W.grownBy W' (some l)) (hr : r < W.heap.size) (h : W.rangeAt r o vs) : W'.rangeAt r o vs := by
  by_cases he : r = l
  · subst he
    intro j v hv
    have h1 := h j v hv
    exfalso
    unfold World.cell? at h1
    simp only [hl] at h1
    cases ob <;> simp [Obj.isCells] at hc h1
  · exact rangeAt.keeps h (hg.block r hr (fun e => he (Option.some.inj e)))
/-- An object that is no variable is replaced. -/
theorem HdE.putObj (h : HdE P X al bs E a W) {l : Nat} {ob ob' : Obj} {a' : Act} (hl : W.heap[l]? = some ob) (hc : ob.isCells = false) (hx : X.w.heap.size ≤ l ∨ X.m l) (ha : a'.tmps = a.tmps) (hd : DfOk (fun D => X.w.heap.size ≤ D ∨ X.m D) a' (W.putObj l ob')) : HdE P X al bs E a' (W.putObj l ob') := by
  have hg := grownBy_putObj' W l ob'
  have hne : ∀ b, live E bs b → E.A b ≠ l := by
    intro b hb e
    obtain ⟨T, cs, h1⟩ := h.blkOf hb
    unfold Blk at h1
    rw [e, hl] at h1
    simp only [Option.some.injEq] at h1
    subst h1
    cases hc
  have k : Keeps (ownS E X.o bs) (ownS E X.o bs) W (W.putObj l ob') := ⟨fun r hr _ o vs h1 => rangeAt.nocells hl hc hg hr h1, hg.size, fun _ _ h => h⟩
  refine ⟨h.ext.grow hg (fun r e => by cases e; exact hx), h.o0, hd, by rw [ha]; exact h.sz, h.en, fun n x hn => ?_, fun b T cs hb => ?_, h.lo, h.nd⟩
  · obtain ⟨v, h1, h2⟩ := h.sl n x hn
    exact ⟨v, by rw [ha]; exact h1, h2.keeps k (Env.le.refl _ _) (fun _ h => h)⟩
  · exact (h.bk b T cs hb).keeps k (Env.le.refl _ _) (fun _ h => h) ⟨_, hb⟩ (fun hn => hg.block _ (h.live_lt ⟨⟨_, hb⟩, hn⟩) (fun e => hne b ⟨⟨_, hb⟩, hn⟩ (Option.some.inj e)))
/-- A frame that leaves shuts its rounds' block. -/
theorem HdE.leave {fn : Func} {R : Ending → World → Prop} (hh : HdE P X al bs E a W) (h : ∀ a' W', a'.tmps = a.tmps → HdE P X al bs E a' W' → ∃ v, (results fn a'.tmps).run P W' = .ok v W' ∧ R (.returned v) W') : bodyPostM (FR none) 0 P fn R .ret a W := by
  show LeavesInM (FR none) 0 P fn a.tmps R a.defers .returning W
  have key : ∀ (Ds : List Nat) (a' : Act) (W' : World), a'.tmps = a.tmps → a'.defers = Ds.map (fun D => { target := .collected D, args := #[] }) → Ds.Nodup → (∀ D ∈ Ds, (X.w.heap.size ≤ D ∨ X.m D) ∧ W'.heap[D]? = some (.deferred (some []))) → HdE P X al bs E a' W' → LeavesInM (FR none) 0 P fn a.tmps R a'.defers .returning W' := by
    intro Ds
    induction Ds with
    | nil =>
      intro a' W' ht hd _ _ hh'
      rw [hd, ← ht]
      exact h a' W' ht hh'
    | cons D Ds ih =>
      intro a' W' ht hd hn hD hh'
      rw [hd]
      obtain ⟨h1, h2⟩ := hD D (List.mem_cons_self ..)
      obtain ⟨hn1, hn2⟩ := List.nodup_cons.1 hn
      have hrest : ∀ D' ∈ Ds, (X.w.heap.size ≤ D' ∨ X.m D') ∧ (W'.putObj D (.deferred none)).heap[D']? = some (.deferred (some [])) := fun D' hD' => by
        obtain ⟨h3, h4⟩ := hD D' (List.mem_cons_of_mem _ hD')
        exact ⟨h3, (World.putObj_heap_other (fun e => hn1 (by rw [← e]; exact hD'))).trans h4⟩
      refine ⟨by simp, .inl ⟨D, _, rfl, run_takeDeferred h2, ?_⟩⟩
      exact ih { a' with defers := Ds.map (fun D => { target := .collected D, args := #[] }) } _ ht rfl hn2 hrest (hh'.putObj h2 rfl h1 rfl ⟨Ds, rfl, hn2, hrest⟩)
  obtain ⟨Ds, h1, h2, h3⟩ := hh.df
  exact key Ds a W rfl h1 h2 h3 hh
def alOf : Nat → List D → List (Nat × AV)
  | _, [] => []
  | n, x :: xs => (n, .d x) :: alOf (n + 1) xs
theorem lk_alOf {n k : Nat} {x : AV} : ∀ (ds : List D) (m : Nat), lk (alOf m ds) k = some x → m ≤ k ∧ ∃ y, ds[k - m]? = some y ∧ x = .d y
  | [], m, h => by simp [alOf, lk] at h
  | y :: ds, m, h => by
    simp only [alOf, lk] at h
    cases hb : Nat.beq m k with
    | true =>
      obtain rfl := Nat.eq_of_beq_eq_true hb
      rw [hb, cond_true, Option.some.injEq] at h
      exact ⟨Nat.le_refl _, y, by simp, h.symm⟩
    | false =>
      rw [hb, cond_false] at h
      obtain ⟨h1, z, h2, h3⟩ := lk_alOf (n := n) ds (m + 1) h
      refine ⟨by omega, z, ?_, h3⟩
      rw [show k - m = (k - (m + 1)) + 1 by omega, List.getElem?_cons_succ]
      exact h2
/-- What a function owes where it ends. -/
def fin (P : Program) (fn : Func) (X : Cx) (R : D → Prop) : Exit → Act → World → Prop := bodyPostM (FR none) 0 P fn (fun e W' => ∃ v x, e = .returned v ∧ R x ∧ ExtM X.m X.w W' ∧ RD X.o W' v x)
theorem Fn.of {K : Nat} {fn : Func} {c : Code} {ds : List D} {R : D → Prop} {N : Nat} {al : List (Nat × AV)} (hf : P.funcs[K]? = some fn) (hN : fn.ntmps = N) (hb : fn.body = some c) (hn : fbody P K = true)
    (h : ∀ w o, G P (cx0 w o N) al [] (Wp P none c (fin P fn (cx0 w o N) R))) (hl : Nat.ble ds.length N = true := by rfl) (hal : alOf 0 ds = al := by simp only [alOf, Nat.reduceAdd]; rfl) : Fn P K ds R := by
  subst hN
  subst hal
  simp only [Nat.ble_eq] at hl
  refine ⟨hn, fun own W vs ho hv => Calls.mono (R := fun e W' => ∃ v x, e = .returned v ∧ R x ∧ ExtM (fun _ => False) W W' ∧ RD own W' v x) ((callsIn_wide (n := 0)).1 (callsIn_of_wp_marks (F := FR none) hf hb trivial ?_)) (fun e W' ⟨v, x, h1, h2, h3, h4⟩ => ⟨v, x, h1, h2, h3.ext, h4⟩)⟩
  have hlen := hv.len
  refine h W own { A := fun _ => 0, V := fun _ => .nilFunc, nl := fun _ => true } _ W ⟨ExtM.refl _ W, fun r hr => ⟨ho r hr, id⟩, .nil rfl, ?_, .nil, fun n x hx => ?_, fun b T cs hb => ?_, fun b hb => ?_, fun b b' hb => ?_⟩
  · simp only [Array.size_append, List.size_toArray, Array.size_replicate]
    omega
  · obtain ⟨_, y, h1, rfl⟩ := lk_alOf (n := n) ds 0 hx
    obtain ⟨v, h2, h3⟩ := hv.get _ y h1
    refine ⟨v, ?_, .d (h3.keeps (.of (fun _ _ _ => rfl) (Nat.le_refl _) (fun r _ hr => ?_)))⟩
    · rw [Nat.sub_zero] at h2
      have h4 := (List.getElem?_eq_some_iff.1 h2).1
      rw [Array.getElem?_append_left (by simpa using h4)]
      simpa using h2
    · rcases hr with hr | ⟨b, ⟨⟨en, hb⟩, _⟩, _⟩
      · exact hr
      · simp [lk] at hb
  · simp [lk] at hb
  · obtain ⟨⟨en, h1⟩, _⟩ := hb
    simp [lk] at h1
  · obtain ⟨⟨en, h1⟩, _⟩ := hb
    simp [lk] at h1
def rdv (tm : Array Value) : ResultVar → Sem Value
  | .tmp t => pure (tm.getD t undef)
  | .cell c t => do loadVar t (← asAddr (tm.getD c undef))
theorem results_rdv (fn : Func) (tm : Array Value) : results fn tm = (do let vs ← fn.results.mapM (rdv tm); pure (if h : vs.size = 1 then vs[0] else .tuple vs)) := by
  unfold results
  congr 1
/-- A result that can be told. -/
def rvOk (P : Program) (X : Cx) (al : List (Nat × AV)) (bs : Bs) : ResultVar → D → Prop := fun r x => ∀ E a W, HdE P X al bs E a W → ∃ v, (rdv a.tmps r).run P W = .ok v W ∧ RD (ownS E X.o bs) W v x
theorem rvOk.tmp {n : Nat} {x : D} (h : lk al n = some (.d x) := by rfl) : rvOk P X al bs (.tmp n) x := fun E a W hh => by
  obtain ⟨v, h1, h2⟩ := hh.sl n _ h
  cases h2 with
  | d h2 =>
    refine ⟨v, ?_, h2⟩
    unfold rdv
    rw [Sem.run_pure, Array.getD_eq_getD_getElem?, h1]
    rfl
theorem rvOk.cellS {n b N T T' : Nat} {cs : List AV} {ds : List D} [hT : TRw P T N] (h : lk al n = some (.p b 0) := by rfl) (hb : lk bs b = some (some (T', cs)) := by rfl) (hN : cs.length = N := by rfl) [hp : Pl cs ds] : rvOk P X al bs (.cell n T) (.st ds) := fun E a W hh => by
  obtain ⟨v, h1, h2⟩ := hh.sl n _ h
  cases h2 with
  | p hb' hn =>
    obtain ⟨vs, sp, m, k, c, g1, g2, _⟩ := hh.blk hb hn
    have hl := g2.len
    rw [hp.h] at g2
    obtain ⟨dd, hu, hd, hi⟩ := hT.get
    refine ⟨.agg vs.toArray, ?_, .st g2.unmap⟩
    have h3 : a.tmps.getD n undef = .pointer (some ⟨E.A b, 0, none⟩) := by rw [Array.getD_eq_getD_getElem?, h1]; rfl
    have h4 := run_loadVar_mid (P := P) W (E.A b) 0 T vs dd (g1.rangeIn 0 vs (fun j hj => by rw [Nat.zero_add, List.getElem?_append_left hj])) hu hd (by rw [hi, hl, hN])
    simp [rdv, h3, asAddr, h4]
theorem rvOk.cell1 {n b T T' : Nat} {x : D} {cs : List AV} [hT : TSc P T] (h : lk al n = some (.p b 0) := by rfl) (hb : lk bs b = some (some (T', .d x :: cs)) := by rfl) : rvOk P X al bs (.cell n T) x := fun E a W hh => by
  obtain ⟨v, h1, h2⟩ := hh.sl n _ h
  cases h2 with
  | p hb' hn =>
    obtain ⟨vs, sp, m, k, c, g1, g2, _⟩ := hh.blk hb hn
    obtain ⟨u, g3, g4⟩ := g2.at (sp := sp) (off := 0) rfl
    obtain ⟨dd, hu, hd⟩ := hT.get
    cases g4 with
    | d g4 =>
      refine ⟨u, ?_, g4⟩
      have h3 : a.tmps.getD n undef = .pointer (some ⟨E.A b, 0, none⟩) := by rw [Array.getD_eq_getD_getElem?, h1]; rfl
      have hc : W.cell? ⟨E.A b, 0, none⟩ = some u := (g1.cell 0).trans g3
      simp [rdv, h3, asAddr, loadVar, isAgg_false hu hd, hc]
theorem RD.fin {own own' : Nat → Prop} {v : Value} {x : D} (h : RD own W v x) (ho : ∀ r, own' r → own r) : RD own' W v x := h.keeps (.of (fun _ _ _ => rfl) (Nat.le_refl _) (fun r _ h => ho r h))
section
variable {fn : Func} {R : D → Prop} {r1 r2 r3 : ResultVar} {x y z : D}
theorem G.fin1 (hx : rvOk P X al bs r1 x) (hr : fn.results = #[r1]) (h : R x) : G P X al bs (fin P fn X R .ret) := fun E a W hh => hh.leave fun a' W' _ hh => by
  obtain ⟨v, h1, h2⟩ := hx E a' W' hh
  refine ⟨v, ?_, v, x, rfl, h, hh.ext, h2.fin (fun r ho => .inl ho)⟩
  simp [results_rdv, hr, h1]
theorem G.fin2 (hx : rvOk P X al bs r1 x) (hy : rvOk P X al bs r2 y) (hr : fn.results = #[r1, r2]) (h : R (.tup [x, y])) : G P X al bs (fin P fn X R .ret) := fun E a W hh => hh.leave fun a' W' _ hh => by
  obtain ⟨v, h1, h2⟩ := hx E a' W' hh
  obtain ⟨u, h3, h4⟩ := hy E a' W' hh
  refine ⟨.tuple #[v, u], ?_, _, _, rfl, h, hh.ext, (RD.tup (.cons h2 (.cons h4 .nil))).fin (fun r ho => .inl ho)⟩
  simp [results_rdv, hr, h1, h3]
theorem G.fin3 (hx : rvOk P X al bs r1 x) (hy : rvOk P X al bs r2 y) (hz : rvOk P X al bs r3 z) (hr : fn.results = #[r1, r2, r3]) (h : R (.tup [x, y, z])) : G P X al bs (fin P fn X R .ret) := fun E a W hh => hh.leave fun a' W' _ hh => by
  obtain ⟨v, h1, h2⟩ := hx E a' W' hh
  obtain ⟨u, h3, h4⟩ := hy E a' W' hh
  obtain ⟨t, h5, h6⟩ := hz E a' W' hh
  refine ⟨.tuple #[v, u, t], ?_, _, _, rfl, h, hh.ext, (RD.tup (.cons h2 (.cons h4 (.cons h6 .nil)))).fin (fun r ho => .inl ho)⟩
  simp [results_rdv, hr, h1, h3, h5]
end
end

end Go.Proofs.Ytohpbfcechbngaa
