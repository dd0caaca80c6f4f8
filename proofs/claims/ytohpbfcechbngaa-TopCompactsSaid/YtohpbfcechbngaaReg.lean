/- A region that draws its order: its operations that only read may be taken first wherever the operations that could come ahead of them leave the world in a class; the others are taken one by one.
   (The road is that of the kit's own theorem on operations taken first in every world that meets S; here S is asked only behind the early operations.) -/
import Derived.Test.YtohpbfcechbngaaLib
import Derived.OrdersHeld
set_option linter.unusedSimpArgs false
set_option linter.unusedVariables false
namespace Go.Proofs.Ytohpbfcechbngaa
open Go.RowKit

section
variable {P : Program} {ops : Array Oper} {Q : Exit → Act → World → Prop} {md : Region.Mode} {S : World → Prop} {e : Nat → Bool}

def wpAnyD (P : Program) (md : Region.Mode) (ops : Array Oper) (Q : Exit → Act → World → Prop) (S : World → Prop) (e : Nat → Bool) : Nat → Array Bool → Act → World → Prop
  | 0, listed, a, w => Region.ready md ops listed = [] ∧ Q .normal a w
  | fuel + 1, listed, a, w =>
    (Region.ready md ops listed = [] → Q .normal a w) ∧
    ∀ i ∈ Region.ready md ops listed, wpOp P ops Q i (fun a' w' => (e i = true → S w') ∧ wpAnyD P md ops Q S e fuel (listed.setIfInBounds i true) a' w') a w

theorem wpAny_of_D : ∀ (fuel : Nat) (listed : Array Bool) (a : Act) (w : World), wpAnyD P md ops Q S e fuel listed a w → wpAny P md ops Q fuel listed a w
  | 0, _, _, _, h => h
  | fuel + 1, _, _, _, h => ⟨h.1, fun i hi => wpOp_mono (fun a' w' h' => wpAny_of_D fuel _ a' w' h'.2) (h.2 i hi)⟩

theorem wpAnyD_first {S0 : World → Prop} {blk : Nat → Bool} {i : Nat} {oi : Oper} {v : Value} (hi : ops[i]? = some oi) (hsel : ∀ (j : Nat) (o : Oper) cs b, ops[j]? = some o → o.op ≠ .select cs b)
    (hQ : ∀ c a w, Q (.panic c) (a.put oi.dst v) w → Q (.panic c) a w)
    (hb : ∀ j oj, ops[j]? = some oj → blk j = true → ∃ x ∈ oj.after, Region.binds md x = true ∧ (x.on = i ∨ blk x.on = true))
    (hSi : ∀ w', S0 w' → e i = true → S w') :
    ∀ (fuel : Nat) (listed : Array Bool) (a : Act) (w : World),
      (∀ j, blk j = true → listed.getD j false = false) →
      (∀ j oj, ops[j]? = some oj → j ≠ i → blk j = false → listed.getD j true = false → ∀ w', (e j = true → S w') → S0 w') →
      (∀ j oj, ops[j]? = some oj → j ≠ i → listed.getD j true = false → (∀ x ∈ oj.after, Region.binds md x = true → x.on ≠ i) → oi.apart ops oj = true) →
      i ∈ Region.ready md ops listed → YieldsIf P ops S0 oi v a → S0 w →
      wpAnyD P md ops Q S e fuel (listed.setIfInBounds i true) (a.put oi.dst v) w → wpAnyD P md ops Q S e (fuel + 1) listed a w := by
  intro fuel
  induction fuel with
  | zero =>
    intro listed a w _ _ _ hr hy hS H
    refine ⟨fun h => (by rw [h] at hr; cases hr), fun j hj => ?_⟩
    by_cases hji : j = i
    · subst hji; exact hy.wpOp hi hS ⟨hSi w hS, H⟩
    · have := ready_mono hj hji
      rw [H.1] at this
      cases this
  | succ fuel ih =>
    intro listed a w hun hE hfree hr hy hS H
    refine ⟨fun h => (by rw [h] at hr; cases hr), fun j hj => ?_⟩
    by_cases hji : j = i
    · subst hji; exact hy.wpOp hi hS ⟨hSi w hS, H⟩
    · have h1 := H.2 j (ready_mono hj hji)
      obtain ⟨hjun, oj, hoj, hall⟩ := mem_ready.1 hj
      have hin : listed.getD i false = false := by
        have h0 := (mem_ready.1 hr).1
        rcases Nat.lt_or_ge i listed.size with h' | h'
        · simp [h'] at h0 ⊢; exact h0
        · simp [Array.getElem?_eq_none h']
      have hnot : ∀ x ∈ oj.after, Region.binds md x = true → x.on ≠ i := fun x hx hbx heq => by
        have h2 := hall x hx hbx
        rw [heq, hin] at h2
        cases h2
      have hblk : blk j = false := by
        cases hbj : blk j with
        | false => rfl
        | true =>
          obtain ⟨x, hx, hbx, hon⟩ := hb j oj hoj hbj
          rcases hon with hon | hon
          · exact absurd hon (hnot x hx hbx)
          · have h2 := hall x hx hbx
            rw [hun _ hon] at h2
            cases h2
      have h2 := wpOp_putIf hoj (hfree j oj hoj hji hjun hnot) (fun cs b => hsel i oi cs b hi) (fun cs b => hsel j oj cs b hoj) hQ hy h1
      have hset : ∀ k, k ≠ j → ∀ d, (listed.setIfInBounds j true).getD k d = listed.getD k d := fun k hk d => getD_set_ne d (Ne.symm hk)
      have hfree' : ∀ k ok, ops[k]? = some ok → k ≠ i → (listed.setIfInBounds j true).getD k true = false →
          (∀ x ∈ ok.after, Region.binds md x = true → x.on ≠ i) → oi.apart ops ok = true := fun k ok hk hki hun' hno => by
        refine hfree k ok hk hki ?_ hno
        by_cases hjk : j = k
        · subst hjk; exact hjun
        · rw [getD_set_ne true hjk] at hun'; exact hun'
      have hE' : ∀ k ok, ops[k]? = some ok → k ≠ i → blk k = false → (listed.setIfInBounds j true).getD k true = false → ∀ w', (e k = true → S w') → S0 w' := fun k ok hk hki hbk hun' => by
        refine hE k ok hk hki hbk ?_
        by_cases hjk : j = k
        · subst hjk; exact hjun
        · rw [getD_set_ne true hjk] at hun'; exact hun'
      have hun2 : ∀ k, blk k = true → (listed.setIfInBounds j true).getD k false = false := fun k hk => by
        have hkj : k ≠ j := fun he => by rw [he, hblk] at hk; cases hk
        rw [hset k hkj]
        exact hun k hk
      refine wpOp_mono (fun a' w' h3 => ⟨h3.2.1, ih (listed.setIfInBounds j true) a' w' hun2 hE' hfree' (ready_mono hr (Ne.symm hji)) h3.1 (hE j oj hoj hji hblk hjun w' h3.2.1) ?_⟩) h2
      rw [Array.setIfInBounds_comm _ _ hji]
      exact h3.2.2

/-- What waits for number i, nearly or far. -/
def behindOf (md : Region.Mode) (ops : Array Oper) (i : Nat) : List Nat :=
  (List.range ops.size).foldl (fun acc j => match ops[j]? with
    | some o => if o.after.any (fun x => Region.binds md x && (x.on == i || acc.contains x.on)) then j :: acc else acc
    | none => acc) []
/-- Number i may be taken first: nobody that could come ahead of it touches its temporaries; those that could are early (at 'r = true': it reads the world), and so is it, or it reads nothing. -/
def takeB (md : Region.Mode) (ops : Array Oper) (e : Nat → Bool) (listed : Array Bool) (i : Nat) (r : Bool) (B : List Nat) : Bool :=
  Region.noSelect ops && Region.free md ops listed i && (Region.ready md ops listed).contains i && (r || !e i) &&
  B.all (fun j => !listed.getD j false) &&
  (List.range ops.size).all (fun j => match ops[j]? with
    | some o => (!B.contains j || o.after.any (fun x => Region.binds md x && (x.on == i || B.contains x.on))) && (j == i || B.contains j || listed.getD j true || !r || e j)
    | none => true)

theorem takeB_spec {listed : Array Bool} {i : Nat} {r : Bool} {B : List Nat} (h : takeB md ops e listed i r B = true) :
    Region.noSelect ops = true ∧ Region.free md ops listed i = true ∧ (Region.ready md ops listed).contains i = true ∧ (r = false → e i = false) ∧
    (∀ j, B.contains j = true → listed.getD j false = false) ∧
    (∀ j oj, ops[j]? = some oj → B.contains j = true → ∃ x ∈ oj.after, Region.binds md x = true ∧ (x.on = i ∨ B.contains x.on = true)) ∧
    (∀ j oj, ops[j]? = some oj → j ≠ i → B.contains j = false → listed.getD j true = false → r = true → e j = true) := by
  unfold takeB at h
  simp only [Bool.and_eq_true] at h
  obtain ⟨⟨⟨⟨⟨h1, h2⟩, h3⟩, h4⟩, h5⟩, h6⟩ := h
  refine ⟨h1, h2, h3, ?_, ?_, ?_, ?_⟩
  · intro hr
    subst hr
    simpa using h4
  · intro j hj
    have := List.all_eq_true.1 h5 j (by simpa using hj)
    simpa using this
  · intro j oj hoj hj
    have := List.all_eq_true.1 h6 j (List.mem_range.2 (Array.getElem?_eq_some_iff.1 hoj).1)
    simp only [hoj, Bool.and_eq_true, Bool.or_eq_true, hj, Bool.not_true, Bool.false_eq_true, false_or] at this
    obtain ⟨x, hx, hbx⟩ := Array.any_eq_true'.1 this.1
    simp only [Bool.and_eq_true, Bool.or_eq_true, beq_iff_eq] at hbx
    exact ⟨x, hx, hbx.1, hbx.2⟩
  · intro j oj hoj hji hj hl hr
    have := List.all_eq_true.1 h6 j (List.mem_range.2 (Array.getElem?_eq_some_iff.1 hoj).1)
    have hji' : (j == i) = false := by simpa using hji
    simp only [hoj, Bool.and_eq_true, hj, hl, hr, hji', Bool.not_true, Bool.or_false, Bool.false_or] at this
    exact this.2

/-- It reads in the class S: taken first. -/
theorem wpAnyD_takeS {i : Nat} {oi : Oper} {v : Value} {fuel : Nat} {listed : Array Bool} {a : Act} {w : World} (B : List Nat) (hi : ops[i]? = some oi)
    (ht : takeB md ops e listed i true B = true) (hQ : ∀ c a w, Q (.panic c) (a.put oi.dst v) w → Q (.panic c) a w) (hS : S w) (hy : YieldsIf P ops S oi v a)
    (h : wpAnyD P md ops Q S e fuel (listed.setIfInBounds i true) (a.put oi.dst v) w) : wpAnyD P md ops Q S e (fuel + 1) listed a w := by
  obtain ⟨h1, h2, h3, h4, h5, h6, h7⟩ := takeB_spec ht
  exact wpAnyD_first (blk := fun j => B.contains j) hi (Region.noSelect_spec h1) hQ h6 (fun w' hw' _ => hw') fuel listed a w h5 (fun j oj hoj hji hbj hl w' hw' => hw' (h7 j oj hoj hji hbj hl rfl)) (Region.free_spec hi h2) (by simpa using h3) hy hS h
/-- It reads nothing: taken first. -/
theorem wpAnyD_take0 {i : Nat} {oi : Oper} {v : Value} {fuel : Nat} {listed : Array Bool} {a : Act} {w : World} (hi : ops[i]? = some oi)
    (ht : takeB md ops e listed i false [] = true) (hQ : ∀ c a w, Q (.panic c) (a.put oi.dst v) w → Q (.panic c) a w) (hy : YieldsIf P ops (fun _ => True) oi v a)
    (h : wpAnyD P md ops Q S e fuel (listed.setIfInBounds i true) (a.put oi.dst v) w) : wpAnyD P md ops Q S e (fuel + 1) listed a w := by
  obtain ⟨h1, h2, h3, h4, h5, h6, h7⟩ := takeB_spec ht
  exact wpAnyD_first (blk := fun j => ([] : List Nat).contains j) hi (Region.noSelect_spec h1) hQ h6 (fun w' _ he => by rw [h4 rfl] at he; cases he) fuel listed a w h5 (fun j oj hoj hji hbj hl w' hw' => trivial) (Region.free_spec hi h2) (by simpa using h3) hy trivial h
theorem wpAnyD_takeSx {i : Nat} {oi : Oper} {fuel : Nat} {listed : Array Bool} {a : Act} {w : World} (hi : ops[i]? = some oi)
    (ht : takeB md ops e listed i true (behindOf md ops i) = true) (hQ : ∀ v c a w, Q (.panic c) (a.put oi.dst v) w → Q (.panic c) a w) (hS : S w)
    (h : ∃ v, YieldsIf P ops S oi v a ∧ wpAnyD P md ops Q S e fuel (listed.setIfInBounds i true) (a.put oi.dst v) w) : wpAnyD P md ops Q S e (fuel + 1) listed a w := by
  obtain ⟨v, h1, h2⟩ := h
  exact wpAnyD_takeS _ hi ht (hQ v) hS h1 h2
theorem wpAnyD_take0x {i : Nat} {oi : Oper} {fuel : Nat} {listed : Array Bool} {a : Act} {w : World} (hi : ops[i]? = some oi)
    (ht : takeB md ops e listed i false [] = true) (hQ : ∀ v c a w, Q (.panic c) (a.put oi.dst v) w → Q (.panic c) a w)
    (h : ∃ v, YieldsIf P ops (fun _ => True) oi v a ∧ wpAnyD P md ops Q S e fuel (listed.setIfInBounds i true) (a.put oi.dst v) w) : wpAnyD P md ops Q S e (fuel + 1) listed a w := by
  obtain ⟨v, h1, h2⟩ := h
  exact wpAnyD_take0 hi ht (hQ v) h1 h2
/-- One alone may come up. -/
theorem wpAnyD_one {i : Nat} {o : Oper} {fuel : Nat} {listed : Array Bool} {a : Act} {w : World} (hi : ops[i]? = some o) (hr : Region.ready md ops listed = [i])
    (h : ∀ K : Act → World → Prop, Hid (∀ a' w', (e i = true → S w') → wpAnyD P md ops Q S e fuel (listed.setIfInBounds i true) a' w' → K a' w') → if Region.wanted o (yielded ops a.tmps) = true then o.wp P a w K Q else K (a.put o.dst undef) w) : wpAnyD P md ops Q S e (fuel + 1) listed a w := by
  refine ⟨fun h0 => (by rw [hr] at h0; cases h0), fun j hj => ?_⟩
  rw [hr] at hj
  obtain rfl := List.mem_singleton.1 hj
  have := h (fun a' w' => (e j = true → S w') ∧ wpAnyD P md ops Q S e fuel (listed.setIfInBounds j true) a' w') (fun a' w' h1 h2 => ⟨h1, h2⟩)
  unfold wpOp
  simp only [hi]
  split
  · rename_i hw
    rw [if_pos hw] at this
    exact .inl this
  · rename_i hw
    rw [if_neg hw] at this
    exact this
/-- Several may come up. -/
def AllD (P : Program) (md : Region.Mode) (ops : Array Oper) (Q : Exit → Act → World → Prop) (S : World → Prop) (e : Nat → Bool) (fuel : Nat) (listed : Array Bool) (a : Act) (w : World) (rs : List Nat) : Prop :=
  ∀ i ∈ rs, wpOp P ops Q i (fun a' w' => (e i = true → S w') ∧ wpAnyD P md ops Q S e fuel (listed.setIfInBounds i true) a' w') a w
theorem AllD_nil {fuel : Nat} {listed : Array Bool} {a : Act} {w : World} : AllD P md ops Q S e fuel listed a w [] := fun _ h => by cases h
theorem AllD_cons {i : Nat} {o : Oper} {rs : List Nat} {fuel : Nat} {listed : Array Bool} {a : Act} {w : World} (hi : ops[i]? = some o)
    (h : ∀ K : Act → World → Prop, Hid (∀ a' w', (e i = true → S w') → wpAnyD P md ops Q S e fuel (listed.setIfInBounds i true) a' w' → K a' w') → if Region.wanted o (yielded ops a.tmps) = true then o.wp P a w K Q else K (a.put o.dst undef) w)
    (hs : AllD P md ops Q S e fuel listed a w rs) : AllD P md ops Q S e fuel listed a w (i :: rs) := fun j hj => by
  rcases List.mem_cons.1 hj with rfl | hj
  · have := h (fun a' w' => (e j = true → S w') ∧ wpAnyD P md ops Q S e fuel (listed.setIfInBounds j true) a' w') (fun a' w' h1 h2 => ⟨h1, h2⟩)
    unfold wpOp
    simp only [hi]
    split
    · rename_i hw
      rw [if_pos hw] at this
      exact .inl this
    · rename_i hw
      rw [if_neg hw] at this
      exact this
  · exact hs j hj
theorem wpAnyD_many (rs : List Nat) {fuel : Nat} {listed : Array Bool} {a : Act} {w : World} (hr : Region.ready md ops listed = rs) (hne : rs ≠ []) (h : AllD P md ops Q S e fuel listed a w rs) : wpAnyD P md ops Q S e (fuel + 1) listed a w :=
  ⟨fun h0 => absurd (hr ▸ h0) hne, hr ▸ h⟩
theorem wpAnyD_done {listed : Array Bool} {a : Act} {w : World} (hr : Region.ready md ops listed = []) (h : Q .normal a w) : ∀ fuel, wpAnyD P md ops Q S e fuel listed a w
  | 0 => ⟨hr, h⟩
  | _ + 1 => ⟨fun _ => h, by rw [hr]; simp⟩
theorem wp_region_D (W : World) (E : List Nat) {id : Nat} {a : Act} {w : World} (hm : P.follows .mixedOrders = true)
    (h : wpAnyD P .any ops Q (fun w' => ∃ g : Grow, w' = wext W g.os g.n) (fun j => E.contains j) ops.size (Array.replicate ops.size false) a w.drew) : (Code.region id ops true).wp P Q a w :=
  wp_region_any hm (wpAny_of_D _ _ _ _ h)
end
theorem grow_of_ext {W w : World} (h : Ext W w) : ∃ g : Grow, w = wext W g.os g.n := by
  obtain ⟨os, n, h⟩ := h
  exact ⟨⟨os, n⟩, h⟩

section
variable {P : Program} {l : List Oper} {Q : Exit → Act → World → Prop} {md : Region.Mode} {S : World → Prop} {e : Nat → Bool} {i : Nat} {oi : Oper} {fuel : Nat} {listed : Array Bool} {a : Act} {w : World}
theorem wpAnyD_takeSL (hi : l[i]? = some oi) (ht : takeB md l.toArray e listed i true (behindOf md l.toArray i) = true) (hQ : ∀ v c a w, Q (.panic c) (a.put oi.dst v) w → Q (.panic c) a w) (hS : S w)
    (h : ∃ v, YieldsIf P l.toArray S oi v a ∧ wpAnyD P md l.toArray Q S e fuel (listed.setIfInBounds i true) (a.put oi.dst v) w) : wpAnyD P md l.toArray Q S e (fuel + 1) listed a w :=
  wpAnyD_takeSx (by simpa using hi) ht hQ hS h
theorem wpAnyD_take0L (hi : l[i]? = some oi) (ht : takeB md l.toArray e listed i false [] = true) (hQ : ∀ v c a w, Q (.panic c) (a.put oi.dst v) w → Q (.panic c) a w)
    (h : ∃ v, YieldsIf P l.toArray (fun _ => True) oi v a ∧ wpAnyD P md l.toArray Q S e fuel (listed.setIfInBounds i true) (a.put oi.dst v) w) : wpAnyD P md l.toArray Q S e (fuel + 1) listed a w :=
  wpAnyD_take0x (by simpa using hi) ht hQ h
theorem wpAnyD_oneL (hi : l[i]? = some oi) (hr : Region.ready md l.toArray listed = [i])
    (h : ∀ K : Act → World → Prop, Hid (∀ a' w', (e i = true → S w') → wpAnyD P md l.toArray Q S e fuel (listed.setIfInBounds i true) a' w' → K a' w') → if Region.wanted oi (yielded l.toArray a.tmps) = true then oi.wp P a w K Q else K (a.put oi.dst undef) w) : wpAnyD P md l.toArray Q S e (fuel + 1) listed a w :=
  wpAnyD_one (by simpa using hi) hr h
theorem AllD_consL {rs : List Nat} (hi : l[i]? = some oi)
    (h : ∀ K : Act → World → Prop, Hid (∀ a' w', (e i = true → S w') → wpAnyD P md l.toArray Q S e fuel (listed.setIfInBounds i true) a' w' → K a' w') → if Region.wanted oi (yielded l.toArray a.tmps) = true then oi.wp P a w K Q else K (a.put oi.dst undef) w)
    (hs : AllD P md l.toArray Q S e fuel listed a w rs) : AllD P md l.toArray Q S e fuel listed a w (i :: rs) :=
  AllD_cons (by simpa using hi) h hs
end

end Go.Proofs.Ytohpbfcechbngaa
