/- A region that draws its order: told once, in the order of the text. What an operation reads and writes is asked of its neighbours' numbers alone. -/
import Derived.Test.YtohpbfcechbngaaAve
import Derived.Orders
set_option linter.unusedSimpArgs false
set_option linter.unusedVariables false
namespace Go.Proofs.Ytohpbfcechbngaa
open Go.RowKit

section
variable {α : Type}
/-- The words of the steps that S has, in the order of the text, upon l. -/
def pushS (S : Nat → Bool) : Nat → List (List (Nat × α)) → List (Nat × α) → List (Nat × α)
  | _, [], l => l
  | i, w :: rest, l => pushS S (i + 1) rest (if S i = true then w ++ l else l)
theorem lk_app (w l : List (Nat × α)) (n : Nat) : lk (w ++ l) n = (lk w n).or (lk l n) := by
  induction w with
  | nil => simp [lk]
  | cons p w ih =>
    obtain ⟨m, v⟩ := p
    rw [List.cons_append, lk_cons, lk_cons]
    split
    · rfl
    · exact ih
theorem lk_notin {w : List (Nat × α)} {n : Nat} (h : n ∉ w.map (·.1)) : lk w n = none := by
  induction w with
  | nil => rfl
  | cons p w ih =>
    obtain ⟨m, v⟩ := p
    simp only [List.map_cons, List.mem_cons, not_or] at h
    rw [lk_ne _ _ (fun e => h.1 e.symm)]
    exact ih h.2
theorem lk_isin {w : List (Nat × α)} {n : Nat} (h : n ∈ w.map (·.1)) : ∃ v, lk w n = some v := by
  induction w with
  | nil => simp at h
  | cons p w ih =>
    obtain ⟨m, v⟩ := p
    rw [lk_cons]
    split
    · exact ⟨v, rfl⟩
    · rename_i hne
      simp only [List.map_cons, List.mem_cons] at h
      rcases h with h | h
      · exact absurd h.symm hne
      · exact ih h
/-- Only the steps that write n matter. -/
theorem lk_push {S S' : Nat → Bool} {n : Nat} : ∀ (ws : List (List (Nat × α))) (i : Nat) (l l' : List (Nat × α)), lk l n = lk l' n → (∀ j w, ws[j]? = some w → n ∈ w.map (·.1) → S (i + j) = S' (i + j)) → lk (pushS S i ws l) n = lk (pushS S' i ws l') n
  | [], _, _, _, h, _ => h
  | w :: ws, i, l, l', h, hs => by
    unfold pushS
    refine lk_push ws (i + 1) _ _ ?_ (fun j w' hj hn => by have := hs (j + 1) w' hj hn; rw [show i + 1 + j = i + (j + 1) by omega]; exact this)
    by_cases hn : n ∈ w.map (·.1)
    · have h0 := hs 0 w rfl hn
      rw [Nat.add_zero] at h0
      rw [h0]
      split
      · rw [lk_app, lk_app, h]
      · exact h
    · have h1 := lk_notin hn
      split <;> split <;> simp only [lk_app, h1, Option.none_or, h]
/-- The last step that writes n tells it. -/
theorem lk_push_last {S : Nat → Bool} {n : Nat} {k : Nat} {wk : List (Nat × α)} : ∀ (ws : List (List (Nat × α))) (i : Nat) (l : List (Nat × α)), ws[k]? = some wk → S (i + k) = true → n ∈ wk.map (·.1) → (∀ j w, k < j → ws[j]? = some w → n ∈ w.map (·.1) → S (i + j) = false) → lk (pushS S i ws l) n = lk wk n := by
  induction k with
  | zero =>
    intro ws i l hk hS hn hl
    cases ws with
    | nil => simp at hk
    | cons w ws =>
      simp only [List.getElem?_cons_zero, Option.some.injEq] at hk
      subst hk
      unfold pushS
      rw [Nat.add_zero] at hS
      rw [if_pos hS]
      have := lk_push (S := S) (S' := fun _ => false) (n := n) ws (i + 1) (w ++ l) (w ++ l) rfl (fun j w' hj hn' => by have := hl (j + 1) w' (by omega) hj hn'; rw [show i + 1 + j = i + (j + 1) by omega, this])
      rw [this]
      have hnone : ∀ (ws : List (List (Nat × α))) (i : Nat) (l : List (Nat × α)), pushS (fun _ => false) i ws l = l := by
        intro ws
        induction ws with
        | nil => intros; rfl
        | cons w ws ih => intro i l; unfold pushS; exact ih _ _
      rw [hnone, lk_app]
      obtain ⟨v, hv⟩ := lk_isin hn
      rw [hv]
      rfl
  | succ k ih =>
    intro ws i l hk hS hn hl
    cases ws with
    | nil => simp at hk
    | cons w ws =>
      unfold pushS
      exact ih ws (i + 1) _ hk (by rw [show i + 1 + k = i + (k + 1) by omega]; exact hS) hn (fun j w' hj hw hn' => by have := hl (j + 1) w' (by omega) hw hn'; rw [show i + 1 + j = i + (j + 1) by omega]; exact this)
end

theorem nblt {a b : Nat} (h : b ≤ a) : Nat.blt a b = false := by
  cases hb : Nat.blt a b with
  | false => rfl
  | true => simp at hb; omega
/-- What a step reads and writes: slots, blocks. -/
structure Stp where
  rs : List Nat
  ws : List Nat
  rb : List Nat
  wb : List Nat
def meetsN (a b : List Nat) : Bool := a.any (fun x => b.any (fun y => Nat.beq x y))
theorem meetsN_of {a b : List Nat} {x : Nat} (h1 : x ∈ a) (h2 : x ∈ b) : meetsN a b = true := by
  unfold meetsN
  rw [List.any_eq_true]
  exact ⟨x, h1, by rw [List.any_eq_true]; exact ⟨x, h2, by simp⟩⟩
/-- The two must not change places. -/
def Stp.bound (a b : Stp) : Bool := meetsN a.ws b.rs || meetsN a.ws b.ws || meetsN b.ws a.rs || meetsN a.wb b.rb || meetsN a.wb b.wb || meetsN b.wb a.rb
/-- What stands ahead of each, nearly or far. -/
def nextA (acc : List Nat) (o : Oper) : List Nat := acc ++ [o.after.toList.foldl (fun s e => if Region.binds .any e then 2 ^ e.on ||| (acc.getD e.on 0 ||| s) else s) 0]
def aheads (ops : List Oper) : List Nat := ops.foldl nextA []
def boundOk (A : List Nat) : Nat → List Stp → List Stp → Bool
  | _, _, [] => true
  | j, done, b :: rest => (done.zipIdx.all fun (a, i) => !a.bound b || (A.getD j 0).testBit i) && boundOk A (j + 1) (done ++ [b]) rest
def edgesOk (ops : List Oper) : Bool := ops.zipIdx.all fun (o, j) => o.after.toList.all fun e => !Region.binds .any e || Nat.blt e.on j
def chkS (ops : List Oper) (sts : List Stp) : Bool := edgesOk ops && Nat.beq sts.length ops.length && boundOk (aheads ops) 0 [] sts

/-- S has with each step what stands ahead of it. -/
def Down (ops : List Oper) (S : Nat → Bool) : Prop := ∀ j o, ops[j]? = some o → S j = true → ∀ e ∈ o.after, Region.binds .any e = true → S e.on = true
def InvA (ops : List Oper) (A : List Nat) : Prop := A.length = ops.length ∧ ∀ (j : Nat) (o : Oper), ops[j]? = some o → ∀ x, (A.getD j 0).testBit x = true → ∃ e ∈ o.after, Region.binds .any e = true ∧ (x = e.on ∨ ((A.take j).getD e.on 0).testBit x = true)
theorem InvA.step {ops : List Oper} {A : List Nat} (h : InvA ops A) (o : Oper) : InvA (ops ++ [o]) (nextA A o) := by
  obtain ⟨h1, h2⟩ := h
  unfold nextA
  refine ⟨by simp [h1], fun j p hj x hx => ?_⟩
  rcases Nat.lt_or_ge j ops.length with hlt | hge
  · rw [List.getElem?_append_left hlt] at hj
    rw [List.getD_eq_getElem?_getD, List.getElem?_append_left (by omega), ← List.getD_eq_getElem?_getD] at hx
    obtain ⟨e, h3, h4, h5⟩ := h2 j p hj x hx
    refine ⟨e, h3, h4, ?_⟩
    rw [List.take_append_of_le_length (by omega)]
    exact h5
  · rw [List.getElem?_append_right hge] at hj
    have hj0 : j - ops.length = 0 := by
      have := (List.getElem?_eq_some_iff.1 hj).1
      simpa using this
    rw [hj0] at hj
    simp only [List.getElem?_cons_zero, Option.some.injEq] at hj
    subst hj
    obtain rfl : j = ops.length := by omega
    rw [← h1] at hx
    simp only [List.getD_eq_getElem?_getD, List.getElem?_concat_length, Option.getD_some] at hx
    have key : ∀ (es : List Edge) (s : Nat), (es.foldl (fun s e => if Region.binds .any e then 2 ^ e.on ||| (A[e.on]?.getD 0 ||| s) else s) s).testBit x = true → s.testBit x = true ∨ ∃ e ∈ es, Region.binds .any e = true ∧ (x = e.on ∨ (A[e.on]?.getD 0).testBit x = true) := by
      intro es
      induction es with
      | nil => intro s h; exact .inl h
      | cons e es ih =>
        intro s h
        simp only [List.foldl_cons] at h
        rcases ih _ h with h | ⟨e', h3, h4⟩
        · by_cases hb : Region.binds .any e = true
          · rw [if_pos hb] at h
            rw [Nat.testBit_or, Nat.testBit_or, Nat.testBit_two_pow, Bool.or_eq_true, Bool.or_eq_true, decide_eq_true_eq] at h
            rcases h with h | h | h
            · exact .inr ⟨e, List.mem_cons_self .., hb, .inl h.symm⟩
            · exact .inr ⟨e, List.mem_cons_self .., hb, .inr h⟩
            · exact .inl h
          · rw [if_neg hb] at h
            exact .inl h
        · exact .inr ⟨e', List.mem_cons_of_mem _ h3, h4⟩
    rcases key _ _ hx with h | ⟨e, h3, h4, h5⟩
    · simp at h
    · refine ⟨e, by simpa using h3, h4, ?_⟩
      rw [List.take_append_of_le_length (by omega), ← h1, List.take_length, List.getD_eq_getElem?_getD]
      exact h5
theorem InvA.all : ∀ (ops done : List Oper) (A : List Nat), InvA done A → InvA (done ++ ops) (ops.foldl nextA A)
  | [], done, A, h => by simpa using h
  | o :: ops, done, A, h => by
    have := InvA.all ops (done ++ [o]) (nextA A o) (h.step o)
    simpa using this
theorem aheads_spec (ops : List Oper) : InvA ops (aheads ops) := by
  have := InvA.all ops [] [] ⟨rfl, fun j o h => by simp at h⟩
  rw [List.nil_append] at this
  exact this
theorem ahead_in {ops : List Oper} {S : Nat → Bool} (hd : Down ops S) (he : edgesOk ops = true) : ∀ (j : Nat) (o : Oper), ops[j]? = some o → (∀ e ∈ o.after, Region.binds .any e = true → S e.on = true) → ∀ x, ((aheads ops).getD j 0).testBit x = true → S x = true := by
  intro j
  induction j using Nat.strongRecOn with
  | _ j ih =>
    intro o ho hS x hx
    obtain ⟨e, h1, h2, h3⟩ := (aheads_spec ops).2 j o ho x hx
    have hlt : e.on < j := by
      unfold edgesOk at he
      rw [List.all_eq_true] at he
      have h4 := he (o, j) (by rw [List.mem_zipIdx_iff_getElem?]; exact ho)
      rw [List.all_eq_true] at h4
      have h6 := h4 e (by simpa using h1)
      rw [h2] at h6
      simpa using h6
    rcases h3 with h3 | h3
    · rw [h3]; exact hS e h1 h2
    · have hj : j < ops.length := (List.getElem?_eq_some_iff.1 ho).1
      have h5 : ((aheads ops).getD e.on 0).testBit x = true := by
        rw [List.getD_eq_getElem?_getD, List.getElem?_take_of_lt hlt, ← List.getD_eq_getElem?_getD] at h3
        exact h3
      have ho' : ops[e.on]? = some ops[e.on] := List.getElem?_eq_getElem (by omega)
      exact ih e.on hlt _ ho' (fun e' h6 h7 => hd e.on _ ho' (hS e h1 h2) e' h6 h7) x h5
theorem boundOk_spec {A : List Nat} : ∀ (rest : List Stp) (j : Nat) (done : List Stp), done.length = j → boundOk A j done rest = true → ∀ (i k : Nat) (a b : Stp), (done ++ rest)[i]? = some a → (done ++ rest)[k]? = some b → i < k → j ≤ k → a.bound b = true → (A.getD k 0).testBit i = true
  | [], j, done, hl, _, i, k, a, b, hi, hk, hik, hjk, _ => by
    rw [List.append_nil] at hk
    have := (List.getElem?_eq_some_iff.1 hk).1
    omega
  | c :: rest, j, done, hl, h, i, k, a, b, hi, hk, hik, hjk, hb => by
    simp only [boundOk, Bool.and_eq_true] at h
    rcases Nat.lt_or_ge j k with hlt | hge
    · refine boundOk_spec rest (j + 1) (done ++ [c]) (by simp [hl]) h.2 i k a b ?_ ?_ hik hlt hb
      · rw [List.append_assoc]; exact hi
      · rw [List.append_assoc]; exact hk
    · obtain rfl : k = j := by omega
      rw [List.getElem?_append_right (by omega), hl, Nat.sub_self] at hk
      simp only [List.getElem?_cons_zero, Option.some.injEq] at hk
      subst hk
      rw [List.getElem?_append_left (by omega)] at hi
      have h1 := h.1
      rw [List.all_eq_true] at h1
      have h2 := h1 (a, i) (by rw [List.mem_zipIdx_iff_getElem?]; exact hi)
      simp only [hb, Bool.not_true, Bool.false_or] at h2
      exact h2

section
variable {P : Program} {X : Cx} {l : List Oper} {Q : Exit → Act → World → Prop}
/-- Operation i does what its words say, wherever what it reads is told as in the text's order. -/
def LOp (P : Program) (X : Cx) (l : List Oper) (Q : Exit → Act → World → Prop) (i : Nat) (al : List (Nat × AV)) (bs : Bs) (rs rb : List Nat) (sl : List (Nat × AV)) (bl : Bs) : Prop :=
  ∀ (ro : Option Nat) al2 bs2, (∀ n ∈ rs, lk al2 n = lk al n) → (∀ b ∈ rb, lk bs2 b = lk bs b) → ∀ E a W, HdE P X al2 bs2 E a W → ∀ K : Act → World → Prop, (∀ E' a' W', HdE P X (sl ++ al2) (bl ++ bs2) E' a' W' → K a' W') → WOp P ro l.toArray Q i K a W
/-- The steps of a region, told in the order of the text. -/
inductive Chain (P : Program) (X : Cx) (l : List Oper) (Q : Exit → Act → World → Prop) (al0 : List (Nat × AV)) (bs0 : Bs) : List Stp → List (List (Nat × AV)) → List Bs → List (Nat × AV) → Bs → Prop
  | nil : Chain P X l Q al0 bs0 [] [] [] al0 bs0
  | snoc {sts : List Stp} {sls : List (List (Nat × AV))} {bls : List Bs} {al : List (Nat × AV)} {bs : Bs} {rs rb : List Nat} {sl : List (Nat × AV)} {bl : Bs} (c : Chain P X l Q al0 bs0 sts sls bls al bs) (h : LOp P X l Q sts.length al bs rs rb sl bl) :
      Chain P X l Q al0 bs0 (sts ++ [⟨rs, sl.map (·.1), rb, bl.map (·.1)⟩]) (sls ++ [sl]) (bls ++ [bl]) (sl ++ al) (bl ++ bs)
theorem pushS_snoc {α : Type} (S : Nat → Bool) : ∀ (ws : List (List (Nat × α))) (i : Nat) (w l : List (Nat × α)), pushS S i (ws ++ [w]) l = if S (i + ws.length) = true then w ++ pushS S i ws l else pushS S i ws l
  | [], i, w, l => rfl
  | x :: ws, i, w, l => by
    rw [List.cons_append]
    unfold pushS
    rw [pushS_snoc S ws (i + 1) w, List.length_cons, show i + 1 + ws.length = i + (ws.length + 1) by omega]
theorem pushS_lt {α : Type} {S S' : Nat → Bool} : ∀ (ws : List (List (Nat × α))) (i : Nat) (l : List (Nat × α)), (∀ j, j < ws.length → S (i + j) = S' (i + j)) → pushS S i ws l = pushS S' i ws l
  | [], _, _, _ => rfl
  | w :: ws, i, l, h => by
    unfold pushS
    have h0 := h 0 (by simp)
    rw [Nat.add_zero] at h0
    rw [h0]
    exact pushS_lt ws (i + 1) _ (fun j hj => by have := h (j + 1) (by simp; omega); rw [show i + 1 + j = i + (j + 1) by omega]; exact this)
/-- What is known of step i. -/
structure Known (P : Program) (X : Cx) (l : List Oper) (Q : Exit → Act → World → Prop) (al0 : List (Nat × AV)) (bs0 : Bs) (sts : List Stp) (sls : List (List (Nat × AV))) (bls : List Bs) (i : Nat) : Prop where
  h : ∃ st sl bl, sts[i]? = some st ∧ sls[i]? = some sl ∧ bls[i]? = some bl ∧ st.ws = sl.map (·.1) ∧ st.wb = bl.map (·.1) ∧ LOp P X l Q i (pushS (fun j => Nat.blt j i) 0 sls al0) (pushS (fun j => Nat.blt j i) 0 bls bs0) st.rs st.rb sl bl
theorem Chain.known {al0 al : List (Nat × AV)} {bs0 bs : Bs} {sts : List Stp} {sls : List (List (Nat × AV))} {bls : List Bs} (c : Chain P X l Q al0 bs0 sts sls bls al bs) :
    sls.length = sts.length ∧ bls.length = sts.length ∧ al = pushS (fun _ => true) 0 sls al0 ∧ bs = pushS (fun _ => true) 0 bls bs0 ∧ ∀ i, i < sts.length → Known P X l Q al0 bs0 sts sls bls i := by
  induction c with
  | nil => exact ⟨rfl, rfl, rfl, rfl, fun i h => by simp at h⟩
  | @snoc sts sls bls al bs rs rb sl bl c h ih =>
    obtain ⟨h1, h2, h3, h4, h5⟩ := ih
    refine ⟨by simp [h1], by simp [h2], by rw [pushS_snoc, if_pos rfl, h3], by rw [pushS_snoc, if_pos rfl, h4], fun i hi => ?_⟩
    have cut : ∀ {α : Type} (ws : List (List (Nat × α))) (w l0 : List (Nat × α)), ws.length = sts.length → i ≤ sts.length → pushS (fun j => Nat.blt j i) 0 (ws ++ [w]) l0 = pushS (fun j => Nat.blt j i) 0 ws l0 := by
      intro α ws w l0 hw hi
      rw [pushS_snoc, if_neg (by simp; omega)]
    have all : ∀ {α : Type} (ws : List (List (Nat × α))) (l0 : List (Nat × α)), ws.length = sts.length → i = sts.length → pushS (fun j => Nat.blt j i) 0 ws l0 = pushS (fun _ => true) 0 ws l0 := by
      intro α ws l0 hw hi
      exact pushS_lt ws 0 l0 (fun j hj => by simp; omega)
    simp only [List.length_append, List.length_cons, List.length_nil, Nat.zero_add] at hi
    rcases Nat.lt_or_ge i sts.length with hlt | hge
    · obtain ⟨st, sl', bl', e1, e2, e3, e4, e5, e6⟩ := (h5 i hlt).h
      refine ⟨st, sl', bl', by rw [List.getElem?_append_left hlt]; exact e1, by rw [List.getElem?_append_left (by omega)]; exact e2, by rw [List.getElem?_append_left (by omega)]; exact e3, e4, e5, ?_⟩
      rw [cut sls sl al0 h1 (by omega), cut bls bl bs0 h2 (by omega)]
      exact e6
    · obtain rfl : i = sts.length := by omega
      refine ⟨_, sl, bl, List.getElem?_concat_length .., by rw [← h1]; exact List.getElem?_concat_length .., by rw [← h2]; exact List.getElem?_concat_length .., rfl, rfl, ?_⟩
      rw [cut sls sl al0 h1 (by omega), cut bls bl bs0 h2 (by omega), all sls al0 h1 rfl, all bls bs0 h2 rfl, ← h3, ← h4]
      exact h
/-- The region's whole, in any order. -/
theorem Chain.any (ro : Option Nat) {al0 al : List (Nat × AV)} {bs0 bs : Bs} {sts : List Stp} {sls : List (List (Nat × AV))} {bls : List Bs} (c : Chain P X l Q al0 bs0 sts sls bls al bs) (hchk : chkS l sts = true) (hQ : G P X al bs (Q .normal)) :
    ∀ (fuel : Nat) (listed : Array Bool), listed.size = l.length → listed.toList.count false = fuel → Down l (fun j => listed.getD j false) →
      ∀ al2 bs2 E a W, HdE P X al2 bs2 E a W → (∀ n, lk al2 n = lk (pushS (fun j => listed.getD j false) 0 sls al0) n) → (∀ b, lk bs2 b = lk (pushS (fun j => listed.getD j false) 0 bls bs0) b) → wpAnyIn (FR ro) 0 P .any l.toArray Q fuel listed a W := by
  obtain ⟨k1, k2, k3, k4, k5⟩ := c.known
  simp only [chkS, Bool.and_eq_true] at hchk
  obtain ⟨⟨hedge, hlen⟩, hbound⟩ := hchk
  have hlen' : sts.length = l.length := Nat.eq_of_beq_eq_true hlen
  have hbd : ∀ (i k : Nat) (x y : Stp), sts[i]? = some x → sts[k]? = some y → i < k → x.bound y = true → ((aheads l).getD k 0).testBit i = true := fun i k x y hi hk hik hb => boundOk_spec sts 0 [] rfl hbound i k x y hi hk hik (Nat.zero_le _) hb
  have done : ∀ (listed : Array Bool), listed.size = l.length → Region.ready .any l.toArray listed = [] → ∀ j, j < l.length → listed.getD j false = true := by
    intro listed hs hr j
    induction j using Nat.strongRecOn with
    | _ j ih =>
      intro hj
      cases hb : listed.getD j false with
      | true => rfl
      | false =>
        exfalso
        have : j ∈ Region.ready .any l.toArray listed := by
          refine mem_ready.2 ⟨?_, l[j], by simp [hj], fun e he hbe => ?_⟩
          · rw [Array.getD_eq_getD_getElem?, Array.getElem?_eq_getElem (by omega)] at hb ⊢
            exact hb
          · have hlt : e.on < j := by
              unfold edgesOk at hedge
              rw [List.all_eq_true] at hedge
              have h4 := hedge (l[j], j) (by rw [List.mem_zipIdx_iff_getElem?]; exact List.getElem?_eq_getElem hj)
              rw [List.all_eq_true] at h4
              have h6 := h4 e (by simpa using he)
              rw [hbe] at h6
              simpa using h6
            exact ih e.on hlt (by omega)
        rw [hr] at this
        cases this
  have fin : ∀ (listed : Array Bool), listed.size = l.length → Region.ready .any l.toArray listed = [] → ∀ al2 bs2 E a W, HdE P X al2 bs2 E a W → (∀ n, lk al2 n = lk (pushS (fun j => listed.getD j false) 0 sls al0) n) → (∀ b, lk bs2 b = lk (pushS (fun j => listed.getD j false) 0 bls bs0) b) → Q .normal a W := by
    intro listed hs hr al2 bs2 E a W hh ha hb
    have hd := done listed hs hr
    have e1 : pushS (fun j => listed.getD j false) 0 sls al0 = al := by
      rw [k3]
      exact pushS_lt sls 0 al0 (fun j hj => by rw [Nat.zero_add]; exact hd j (by omega))
    have e2 : pushS (fun j => listed.getD j false) 0 bls bs0 = bs := by
      rw [k4]
      exact pushS_lt bls 0 bs0 (fun j hj => by rw [Nat.zero_add]; exact hd j (by omega))
    rw [e1] at ha
    rw [e2] at hb
    exact hQ E a W (hh.same (fun n x hx => by rw [ha]; exact hx) (fun b => (hb b).symm))
  intro fuel
  induction fuel with
  | zero =>
    intro listed hs hc hD al2 bs2 E a W hh ha hb
    have hr : Region.ready .any l.toArray listed = [] := by
      rw [List.eq_nil_iff_forall_not_mem]
      intro j hj
      obtain ⟨h1, o, h2, _⟩ := mem_ready.1 hj
      have hjl : j < listed.size := by
        have := (Array.getElem?_eq_some_iff.1 h2).1
        simp only [List.size_toArray] at this
        omega
      rw [List.count_eq_zero] at hc
      apply hc
      rw [Array.getD_eq_getD_getElem?, Array.getElem?_eq_getElem hjl, Option.getD_some] at h1
      rw [← h1]
      simp
    exact ⟨hr, fin listed hs hr al2 bs2 E a W hh ha hb⟩
  | succ fuel ih =>
    intro listed hs hc hD al2 bs2 E a W hh ha hb
    refine ⟨fun hr => fin listed hs hr al2 bs2 E a W hh ha hb, fun i hi => ?_⟩
    obtain ⟨h1, o, h2, h3⟩ := mem_ready.1 hi
    have hil : i < l.length := by
      have := (Array.getElem?_eq_some_iff.1 h2).1
      simpa using this
    have h2' : l[i]? = some o := by simpa using h2
    have hSi : listed.getD i false = false := by
      rw [Array.getD_eq_getD_getElem?, Array.getElem?_eq_getElem (by omega)] at h1 ⊢
      exact h1
    obtain ⟨st, sl, bl, e1, e2, e3, e4, e5, e6⟩ := (k5 i (by omega)).h
    -- who is bound to i
    have before : ∀ (j : Nat) (x : Stp), sts[j]? = some x → j < i → x.bound st = true → listed.getD j false = true := fun j x hj hji hb => ahead_in hD hedge i o h2' h3 j (hbd j i x st hj e1 hji hb)
    have after : ∀ (j : Nat) (x : Stp), sts[j]? = some x → i < j → st.bound x = true → listed.getD j false = false := by
      intro j x hj hij hb
      cases hlj : listed.getD j false with
      | false => rfl
      | true =>
        have hjl : j < l.length := by have := (List.getElem?_eq_some_iff.1 hj).1; omega
        have := ahead_in hD hedge j l[j] (List.getElem?_eq_getElem hjl) (fun e he hbe => hD j l[j] (List.getElem?_eq_getElem hjl) hlj e he hbe) i (hbd i j st x e1 hj hij hb)
        rw [hSi] at this
        cases this
    have kn : ∀ (j : Nat) (w : List (Nat × AV)), sls[j]? = some w → ∃ x : Stp, sts[j]? = some x ∧ x.ws = w.map (·.1) := by
      intro j w hj
      have hjl : j < sts.length := by have := (List.getElem?_eq_some_iff.1 hj).1; omega
      obtain ⟨x, sl', bl', f1, f2, f3, f4, f5, _⟩ := (k5 j hjl).h
      rw [hj] at f2
      cases f2
      exact ⟨x, f1, f4⟩
    have knb : ∀ (j : Nat) (w : Bs), bls[j]? = some w → ∃ x : Stp, sts[j]? = some x ∧ x.wb = w.map (·.1) := by
      intro j w hj
      have hjl : j < sts.length := by have := (List.getElem?_eq_some_iff.1 hj).1; omega
      obtain ⟨x, sl', bl', f1, f2, f3, f4, f5, _⟩ := (k5 j hjl).h
      rw [hj] at f3
      cases f3
      exact ⟨x, f1, f5⟩
    have or1 : ∀ {a b c d e f : Bool}, (a = true ∨ b = true ∨ c = true ∨ d = true ∨ e = true ∨ f = true) → (a || b || c || d || e || f) = true := by
      intro a b c d e f h
      rcases h with h | h | h | h | h | h <;> simp [h]
    refine e6 ro al2 bs2 ?_ ?_ E a W hh _ (fun E' a' W' hh' => ?_)
    · intro n hn
      rw [ha]
      refine lk_push sls 0 _ _ rfl (fun j w hj hnw => ?_)
      obtain ⟨x, f1, f2⟩ := kn j w hj
      rw [← f2] at hnw
      simp only [Nat.zero_add]
      rcases Nat.lt_trichotomy j i with hji | hji | hji
      · rw [before j x f1 hji (or1 (.inl (meetsN_of hnw hn)))]
        simp [hji]
      · subst hji
        rw [hSi, nblt (Nat.le_refl _)]
      · rw [after j x f1 hji (or1 (.inr (.inr (.inl (meetsN_of hnw hn)))))]
        rw [nblt (Nat.le_of_lt hji)]
    · intro n hn
      rw [hb]
      refine lk_push bls 0 _ _ rfl (fun j w hj hnw => ?_)
      obtain ⟨x, f1, f2⟩ := knb j w hj
      rw [← f2] at hnw
      simp only [Nat.zero_add]
      rcases Nat.lt_trichotomy j i with hji | hji | hji
      · rw [before j x f1 hji (or1 (.inr (.inr (.inr (.inl (meetsN_of hnw hn))))))]
        simp [hji]
      · subst hji
        rw [hSi, nblt (Nat.le_refl _)]
      · rw [after j x f1 hji (or1 (.inr (.inr (.inr (.inr (.inr (meetsN_of hnw hn)))))))]
        rw [nblt (Nat.le_of_lt hji)]
    · have hset : ∀ j, (listed.setIfInBounds i true).getD j false = if j = i then true else listed.getD j false := by
        intro j
        by_cases he : j = i
        · subst he
          rw [if_pos rfl, Array.getD_eq_getD_getElem?, Array.getElem?_setIfInBounds_self_of_lt (by omega)]
          rfl
        · rw [if_neg he, getD_set_ne false (fun e => he e.symm)]
      have step : ∀ {α : Type} (ws : List (List (Nat × α))) (w : List (Nat × α)) (l0 l2 : List (Nat × α)), ws[i]? = some w → (∀ n, lk l2 n = lk (pushS (fun j => listed.getD j false) 0 ws l0) n) → (∀ n ∈ w.map (·.1), ∀ j w', i < j → ws[j]? = some w' → n ∈ w'.map (·.1) → listed.getD j false = false) →
          ∀ n, lk (w ++ l2) n = lk (pushS (fun j => (listed.setIfInBounds i true).getD j false) 0 ws l0) n := by
        intro α ws w l0 l2 hw h2 hlast n
        by_cases hn : n ∈ w.map (·.1)
        · obtain ⟨v, hv⟩ := lk_isin hn
          rw [lk_push_last (k := i) ws 0 l0 hw (by rw [Nat.zero_add, hset, if_pos rfl]) hn (fun j w' hj hw' hn' => by rw [Nat.zero_add, hset, if_neg (by omega)]; exact hlast n hn j w' hj hw' hn')]
          rw [lk_app, hv]
          rfl
        · rw [lk_app, lk_notin hn, Option.none_or, h2]
          refine lk_push ws 0 _ _ rfl (fun j w' hj hn' => ?_)
          rw [Nat.zero_add, hset]
          by_cases he : j = i
          · subst he
            rw [hw] at hj
            cases hj
            exact absurd hn' hn
          · rw [if_neg he]
      refine ih (listed.setIfInBounds i true) (by simp [hs]) ?_ ?_ _ _ E' a' W' hh' ?_ ?_
      · have hil' : i < listed.toList.length := by simpa using (by omega : i < listed.size)
        rw [Array.toList_setIfInBounds, List.count_set hil']
        have : listed.toList[i] = false := by
          rw [Array.getD_eq_getD_getElem?, Array.getElem?_eq_getElem (by omega), Option.getD_some] at hSi
          simpa using hSi
        rw [this, hc]
        simp
      · intro j oj hj hlj e he hbe
        dsimp only at hlj ⊢
        rw [hset] at hlj ⊢
        split
        · rfl
        · split at hlj
          · rename_i hji
            subst hji
            rw [h2'] at hj
            cases hj
            exact h3 e he hbe
          · exact hD j oj hj hlj e he hbe
      · refine step sls sl al0 al2 e2 ha (fun n hn j w' hij hw' hn' => ?_)
        obtain ⟨x, f1, f2⟩ := kn j w' hw'
        exact after j x f1 hij (or1 (.inr (.inl (meetsN_of (by rw [e4]; exact hn) (by rw [f2]; exact hn')))))
      · refine step bls bl bs0 bs2 e3 hb (fun n hn j w' hij hw' hn' => ?_)
        obtain ⟨x, f1, f2⟩ := knb j w' hw'
        exact after j x f1 hij (or1 (.inr (.inr (.inr (.inr (.inl (meetsN_of (by rw [e5]; exact hn) (by rw [f2]; exact hn'))))))))
/-- A region that draws its order. -/
theorem Chain.region {ro : Option Nat} {al0 al : List (Nat × AV)} {bs0 bs : Bs} {sts : List Stp} {sls : List (List (Nat × AV))} {bls : List Bs} {id : Nat} (hm : P.follows .mixedOrders = true) (c : Chain P X l Q al0 bs0 sts sls bls al bs) (hchk : chkS l sts = true) (hQ : G P X al bs (Q .normal)) :
    G P X al0 bs0 (Wp P ro (Code.region id l.toArray true) Q) := fun E a W hh => by
  refine wpIn_region_any hm ?_
  have hx : HdE P X al0 bs0 E a { W with drawn := W.drawn + 1 } := hh.grow (ext_drew W)
  have hr : ∀ j, (Array.replicate l.toArray.size false).getD j false = false := by
    intro j
    rw [Array.getD_eq_getD_getElem?, Array.getElem?_replicate]
    split <;> rfl
  have hnone : ∀ {α : Type} (ws : List (List (Nat × α))) (i : Nat) (l0 : List (Nat × α)), pushS (fun j => (Array.replicate l.toArray.size false).getD j false) i ws l0 = l0 := by
    intro α ws
    induction ws with
    | nil => intros; rfl
    | cons w ws ih => intro i l0; unfold pushS; rw [if_neg (by rw [hr]; exact Bool.false_ne_true)]; exact ih _ _
  refine c.any ro hchk hQ _ _ (by simp) (by simp) ?_ al0 bs0 E a _ hx (fun n => by rw [hnone]) (fun b => by rw [hnone])
  intro j o hj hl
  dsimp only at hl
  rw [hr] at hl
  cases hl
end

end Go.Proofs.Ytohpbfcechbngaa
