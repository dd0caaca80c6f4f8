/- Copies within rows of one's own; a row of unknown bytes. -/
import Derived.Test.YtohpbfcechbngaaAvr
import Derived.Lib.MakeNoZero
import Derived.Laws.IdiomCopy
set_option linter.unusedSimpArgs false
set_option linter.unusedVariables false
namespace Go.Proofs.Ytohpbfcechbngaa
open Go.RowKit

section
variable {P : Program} {X : Cx} {al : List (Nat × AV)} {bs : Bs} {T T' d b k n : Nat} {x y : Operand} {e sz : Nat}
/-- Cells are written into a block of one's own. -/
theorem HdE.cells {E : Env} {a : Act} {W : World} {off : Nat} {cs ys : List AV} {us : List Value} (hh : HdE P X al bs E a W) (hb : lk bs b = some (some (T', cs))) (hn : E.nl b = false) (hu : RAL E (dom bs) (ownS E X.o bs) W us ys) (hle : off + ys.length ≤ cs.length) :
    HdE P X al ((b, some (T', cs.take off ++ (ys ++ cs.drop (off + ys.length)))) :: bs) E a (W.setCells (E.A b) off us) ∧ (∀ j, j < us.length → (W.cell? ⟨E.A b, off + j, none⟩).isSome = true) ∧ (∀ j, j < us.length → W.frozen? ⟨E.A b, off + j, none⟩ = false) := by
  obtain ⟨vs, sp, m, n, c, h1, h2, h3, h4, h5, h6, h7, h8⟩ := hh.blk hb hn
  have hlv := h2.len
  have hlu := hu.len
  have he : vs ++ sp = vs.take off ++ ((vs.drop off).take us.length ++ (vs.drop (off + us.length) ++ sp)) := by
    rw [← List.append_assoc ((vs.drop off).take us.length), ← List.drop_drop, List.take_append_drop, ← List.append_assoc, List.take_append_drop]
  have h1' := h1
  rw [he] at h1'
  have hlo : (vs.take off).length = off := by simp; omega
  have hl2 : ((vs.drop off).take us.length).length = us.length := by simp; omega
  have hs := Blk.splice us W _ _ h1' hl2
  rw [hlo] at hs
  refine ⟨?_, fun j hj => ?_, fun j hj => h1.frozen _⟩
  · have hnew := hh.store (vs := vs) (vs' := vs.take off ++ (us ++ vs.drop (off + us.length))) (sp := sp) hb hn hs.2 (by simpa using hs.1) (RAL.split off h2 hu) ?_ h3 h4 h5 h6 h7 h8
    · exact hnew
    · simp only [List.length_append, List.length_take, List.length_drop]
      omega
  · rw [h1.cell (off + j), List.getElem?_eq_getElem (by simp only [List.length_append]; omega)]
    rfl
/-- Data are copied into a part of a row of bytes. -/
theorem LT.cpD {cs : List AV} {rows : List (List D)} {off : Nat} {f : Bool} (cs' : List AV) {TS : TypeId} [hT : TSl P T e 1] (hm : ∀ r ∈ rows, r.length = 1) (hc : rows.flatten.all D.cell = true) (h0 : rows ≠ []) (hx : Evd al x (.vw b off n f) := by exact ⟨_, rfl, by (try (apply Und.gd; assumption; try (apply Und.gd; assumption; try (apply Und.gd; assumption)))); exact Und.refl _⟩) (hy : Evd al y (.d (.l rows)) := by exact ⟨_, rfl, by (try (apply Und.gd; assumption; try (apply Und.gd; assumption; try (apply Und.gd; assumption)))); exact Und.refl _⟩) (hb : lk bs b = some (some (e, cs)) := by rfl) (hcs : cs.take off ++ (rows.flatten.map .d ++ cs.drop (off + rows.length)) = cs' := by rfl) (hn : rows.length ≤ n := by first | assumption | omega | exact Nat.le_of_ble_eq_true rfl) (hfit : off + rows.length ≤ cs.length := by first | assumption | omega | exact Nat.le_of_ble_eq_true rfl) (hd : Nat.blt d X.N = true := by rfl) :
    LT P X al bs (.call { callee := .builtin .copy, args := #[x, y], argTypes := #[T, TS] }) (some d) [b] [(d, .d (.s (.int .i64 rows.length)))] [(b, some (e, cs'))] := fun ro al2 bs2 hL hB E a W hh o hoo hdst K Q hK => by
  subst hcs
  obtain ⟨inf, hu, hi', hs⟩ := hT.get
  have h1 := hh.evd (hL.evd hx (by simp [Op.operands, Call.operands]))
  have h2 := hh.evd (hL.evd hy (by simp [Op.operands, Call.operands]))
  have hbb := hB.at hb (List.mem_cons_self ..)
  generalize hq : a.eval x = q at h1
  generalize hr : a.eval y = p at h2
  cases h1 with
  | @vw _ _ _ cc _ f1 f2 f3 f4 f5 =>
    cases h2 with
    | d h2 =>
      cases h2 with
      | nl => exact absurd rfl h0
      | @l r o' n' c' m _ ff g1 g2 g3 g4 g5 g6 g7 g8 =>
        obtain ⟨news, e1, e2, e3⟩ := rows_read rows o' ff g6 g7 g8
        have hm1 : m = 1 := by
          cases rows with
          | nil => exact absurd rfl h0
          | cons row rest => exact (g6 0 row rfl).symm.trans (hm row (List.mem_cons_self ..))
        subst hm1
        subst g1
        have hfl : rows.flatten.length = rows.length := by rw [flat_len rows hm, Nat.mul_one]
        have hyl : (rows.flatten.map AV.d).length = rows.length := by rw [List.length_map, hfl]
        obtain ⟨k1, k2, k3⟩ := hh.cells (us := news) (ys := rows.flatten.map .d) (off := off) hbb f2 (RAL.map e3) (by rw [hyl]; exact hfit)
        have hnl : news.length = rows.length := by rw [e1, Nat.mul_one]
        have hrun := run_copy_cells (P := P) W T TS o.type e (E.A b) off n cc ⟨r, o', none⟩ rows.length c' news hu (by rw [hi', Option.map_some, hs]) (by rw [hnl]; exact (Nat.min_eq_left hn).symm) (fun j v hv => by rw [Addr.add_mid]; exact e2 j v hv) k2 k3 (e3.one hc)
        refine WO.of (by rw [hoo]; intro c h; cases h) ?_
        unfold execOp
        have : (do let dd ← resolve a.eval { callee := .builtin .copy, args := #[x, y], argTypes := #[T, TS] } o.type; invoke dd.target dd.args : Sem Next).run P W = .ok (.value (.int .i64 rows.length)) (W.setCells (E.A b) off news) := by
          simp [resolve, invoke, builtin, hrun, hq, hr, goInt, hnl]
        simp only [hoo]
        rw [this]
        dsimp only [Oper.uponIn]
        rw [hdst]
        rw [hyl] at k1
        exact hK _ _ _ (k1.put (.d (.s rfl)) (by simpa using hd))
/-- A part of a row of bytes is copied into another part. -/
theorem LT.cpV {cs : List AV} {off off2 n2 : Nat} {f f2 : Bool} (cs' : List AV) {TS : TypeId} [hT : TSl P T e 1] (hx : Evd al x (.vw b off n f) := by exact ⟨_, rfl, by (try (apply Und.gd; assumption; try (apply Und.gd; assumption; try (apply Und.gd; assumption)))); exact Und.refl _⟩) (hy : Evd al y (.vw b off2 n2 f2) := by exact ⟨_, rfl, by (try (apply Und.gd; assumption; try (apply Und.gd; assumption; try (apply Und.gd; assumption)))); exact Und.refl _⟩) (hb : lk bs b = some (some (e, cs)) := by rfl) (hc : ((cs.drop off2).take n2).all AV.cell = true := by first | assumption | rfl) (hcs : cs.take off ++ ((cs.drop off2).take n2 ++ cs.drop (off + n2)) = cs' := by first | assumption | rfl) (hn : n2 ≤ n := by first | assumption | omega | exact Nat.le_of_ble_eq_true rfl) (hfit : off + n2 ≤ cs.length := by first | assumption | omega | exact Nat.le_of_ble_eq_true rfl) (hfit2 : off2 + n2 ≤ cs.length := by first | assumption | omega | exact Nat.le_of_ble_eq_true rfl) (hd : Nat.blt d X.N = true := by rfl) :
    LT P X al bs (.call { callee := .builtin .copy, args := #[x, y], argTypes := #[T, TS] }) (some d) [b] [(d, .d (.s (.int .i64 n2)))] [(b, some (e, cs'))] := fun ro al2 bs2 hL hB E a W hh o hoo hdst K Q hK => by
  subst hcs
  obtain ⟨inf, hu, hi', hs⟩ := hT.get
  have h1 := hh.evd (hL.evd hx (by simp [Op.operands, Call.operands]))
  have h2 := hh.evd (hL.evd hy (by simp [Op.operands, Call.operands]))
  have hbb := hB.at hb (List.mem_cons_self ..)
  generalize hq : a.eval x = q at h1
  generalize hr : a.eval y = p at h2
  cases h1 with
  | @vw _ _ _ cc _ f1 fn f3 f4 f5 =>
    cases h2 with
    | @vw _ _ _ cc2 _ g1 gn g3 g4 g5 =>
      obtain ⟨vs, sp, m, nn, c, q1, q2, q3, q4, q5, q6, q7, q8⟩ := hh.blk hbb fn
      have hlv := q2.len
      have hus := (q2.drop off2).take n2
      have hyl : ((cs.drop off2).take n2).length = n2 := by simp; omega
      have hul : ((vs.drop off2).take n2).length = n2 := by rw [hus.len, hyl]
      obtain ⟨k1, k2, k3⟩ := hh.cells (us := (vs.drop off2).take n2) (ys := (cs.drop off2).take n2) (off := off) hbb fn hus (by rw [hyl]; exact hfit)
      have hone : ∀ v ∈ (vs.drop off2).take n2, v.oneCell' = true := by
        have key : ∀ {us : List Value} {ys : List AV}, RAL E (dom bs2) (ownS E X.o bs2) W us ys → ys.all AV.cell = true → ∀ v ∈ us, v.oneCell' = true := by
          intro us
          induction us with
          | nil => intro ys _ _ v hv; cases hv
          | cons u us ih =>
            intro ys h hc v hv
            cases h with
            | cons h t =>
              simp only [List.all_cons, Bool.and_eq_true] at hc
              rcases List.mem_cons.1 hv with rfl | hv
              · exact h.cell hc.1
              · exact ih t hc.2 v hv
        exact key hus hc
      have hrun := run_copy_cells (P := P) W T TS o.type e (E.A b) off n cc ⟨E.A b, off2, none⟩ n2 cc2 ((vs.drop off2).take n2) hu (by rw [hi', Option.map_some, hs]) (by rw [hul]; exact (Nat.min_eq_left hn).symm) (fun j v hv => by
        have hj : j < n2 := by have := (List.getElem?_eq_some_iff.1 hv).1; omega
        rw [List.getElem?_take_of_lt hj, List.getElem?_drop] at hv
        rw [Addr.add_mid, q1.cell, List.getElem?_append_left (by have := (List.getElem?_eq_some_iff.1 hv).1; omega), hv]) k2 k3 hone
      refine WO.of (by rw [hoo]; intro c h; cases h) ?_
      unfold execOp
      have : (do let dd ← resolve a.eval { callee := .builtin .copy, args := #[x, y], argTypes := #[T, TS] } o.type; invoke dd.target dd.args : Sem Next).run P W = .ok (.value (.int .i64 n2)) (W.setCells (E.A b) off ((vs.drop off2).take n2)) := by
        simp only [resolve, invoke, builtin]
        simp [hrun, hq, hr, goInt]
        omega
      simp only [hoo]
      rw [this]
      dsimp only [Oper.uponIn]
      rw [hdst]
      rw [hyl] at k1
      exact hK _ _ _ (k1.put (.d (.s rfl)) (by simpa using hd))
theorem RAL.anys {E : Env} {dm own : Nat → Prop} {W : World} : ∀ vs : List Value, RAL E dm own W vs (List.replicate vs.length .any)
  | [] => .nil
  | v :: vs => .cons .any (RAL.anys vs)
/-- A row of n bytes, nobody knows which. -/
theorem LT.mnz {K m : Nat} {ats : Array TypeId} (hi : (P.info? e).map (·.size) = some 1) (hrunE : ∀ W : World, ∃ cs : Array Value, (callFunc K #[.int .i64 m]).run P W = .ok (.value (.slice (some ⟨W.heap.size, 0, none⟩) m cs.size)) ((W.drew.drew).alloc (.cells cs e)) ∧ m ≤ cs.size ∧ cs.size ≤ maxLen) (hx : Evd al x (.d (.s (.int .i64 (m : Int)))) := by exact ⟨_, rfl, by (try (apply Und.gd; assumption; try (apply Und.gd; assumption; try (apply Und.gd; assumption)))); exact Und.refl _⟩) (hk : bs.length = k := by simp only [List.length_cons, List.length_nil, Nat.reduceAdd]; rfl) (hfr : lk bs k = none := by rfl) (hd : Nat.blt d X.N = true := by rfl) :
    LT P X al bs (.call { callee := .value (.func K), args := #[x], argTypes := ats }) (some d) [k] [(d, .o k m)] [(k, some (e, List.replicate m .any))] := fun ro al2 bs2 hL hB E a W hh o hoo hdst Kc Q hK => by
  have hf2 : lk bs2 k = none := (hB k (List.mem_cons_self ..)).trans hfr
  have h1 := hh.evs (hL.evd hx (by simp [Op.operands, Call.operands]))
  obtain ⟨cs, hrun, hle, hmax⟩ := hrunE W
  have hx1 : Ext W (W.drew.drew) := by (exact Ext.of_below (by (repeat' (first | (with_reducible exact Below.refl _ _) | (with_reducible assumption) | (with_reducible refine Below.alloc ?_ ?_ _) | (with_reducible refine Below.wext ?_ ?_ _ _) | (with_reducible refine Below.drew ?_) | (with_reducible refine Below.setCell ?_ ?_ _) | (with_reducible exact Nat.le_refl _) | (with_reducible refine Below.drewN' ?_ _) | (simp; omega) | (simp; done)))))
  have hh1 := hh.grow hx1
  have hsz : (W.drew.drew).heap.size = W.heap.size := rfl
  have hx2 := ext_alloc (W.drew.drew) (.cells cs e)
  have hd2 : ¬ dom bs2 k := fun ⟨o, ho⟩ => by rw [hf2] at ho; cases ho
  have htl : (cs.toList.take m).length = m := by rw [List.length_take, Array.length_toList]; omega
  have hnew := hh1.new (k := k) (T := e) (cs := List.replicate m .any) (E' := E.set k W.heap.size (.slice (some ⟨W.heap.size, 0, none⟩) m cs.size) false) hf2 (Env.le_set _ hd2 _ _ _) hx2 (fun _ => by rw [Env.set_A]; exact Nat.le_refl _) (fun own' ho => .inr ⟨Env.set_nl _ _ _ _ _, cs.toList.take m, cs.toList.drop m, 1, m, cs.size, by rw [Env.set_A, List.take_append_drop]; exact Blk.newAt hsz, by
    have := RAL.anys (E := E.set k W.heap.size (.slice (some ⟨W.heap.size, 0, none⟩) m cs.size) false) (dm := dom ((k, some (e, List.replicate m .any)) :: bs2)) (own := own') (W := (W.drew.drew).alloc (.cells cs e)) (cs.toList.take m)
    rwa [htl] at this, hi, by rw [Env.set_V, Env.set_A], hle, hmax, by rw [htl, Nat.mul_one], by rw [List.take_append_drop, Nat.mul_one, Array.length_toList]⟩)
  refine WO.of (by rw [hoo]; intro c h; cases h) ?_
  unfold execOp
  have e1 : a.eval (.func K) = .func (.func K) #[] #[] := rfl
  have : (do let dd ← resolve a.eval { callee := .value (.func K), args := #[x], argTypes := ats } o.type; invoke dd.target dd.args : Sem Next).run P W = .ok (.value (.slice (some ⟨W.heap.size, 0, none⟩) m cs.size)) ((W.drew.drew).alloc (.cells cs e)) := by
    simp [resolve, Deferred.ofValue, e1, invoke, hrun, h1]
  simp only [hoo]
  rw [this]
  dsimp only [Oper.uponIn]
  rw [hdst]
  exact hK _ _ _ (hnew.put (.o ⟨_, lk_self _ _ _⟩ (by rw [Env.set_V])) (by simpa using hd))
/-- make of bytes that nobody will write: data. -/
theorem LT.mkD {m : Nat} (hm : m ≤ 10000) {size bytes : Nat} [hT : TAp P T e size bytes] [hZ : TZc P e 1 [.d (.s (.int .u8 0))]] (hby : Nat.ble bytes 1000000 = true := by rfl) (hd : Nat.blt d X.N = true := by rfl) :
    LT P X al bs (.makeSlice T (.const (.int .i64 (m : Int))) (.const (.int .i64 (m : Int)))) (some d) [] [(d, .d (.l (List.replicate m [D.s (.int .u8 0)])))] [] := fun ro al2 bs2 hL hB E a W hh o ho hdst K Q hK => by
  obtain ⟨i0, z, hu, hie, hz, hsz, hbs, hzs, hpos⟩ := hT.h
  obtain ⟨i1, z1, vs, q1, q2, q3, q4, q5, q6, q7⟩ := hZ.h
  rw [hie] at q1
  cases q1
  rw [hz] at q2
  cases q2
  have hvs : vs = [.int .u8 0] := by
    match vs, q7 with
    | [v], q7 => simp at q7; rw [q7]
  subst hvs
  simp only [Nat.ble_eq] at hby
  have hbb : i0.bytes * m ≤ 10000000000 := by
    rw [hbs]
    exact Nat.le_trans (Nat.mul_le_mul hby hm) (by decide)
  have hb2 : (i0.bytes : Int) * (m : Int) ≤ 281474976710656 := by
    have : ((i0.bytes * m : Nat) : Int) ≤ 10000000000 := by omega
    rw [Int.natCast_mul] at this
    omega
  have hcl : ((m : Int)).toNat * i0.size ≤ 16777216 := by
    rw [q4, Int.toNat_natCast]
    omega
  have hrun := run_makeSlice (P := P) W T e i0 z hu hie hz .i64 .i64 (m : Int) (m : Int) (by omega) (by omega) hcl hb2 (by omega)
  have hmc : madeCells z.cells (((m : Int)).toNat * i0.size) = (List.replicate m (Value.int .u8 0)).toArray := by
    rw [q3, q4, Int.toNat_natCast, Nat.mul_one]
    unfold madeCells
    apply Array.ext'
    apply List.ext_getElem
    · simp
    · intro i h1 h2
      simp [Nat.mod_one]
  rw [hmc, Int.toNat_natCast] at hrun
  have hx := ext_alloc W (.cells (List.replicate m (Value.int .u8 0)).toArray e)
  have hh' := hh.grow hx
  refine WO.of (by rw [ho]; intro c h; cases h) ?_
  unfold execOp
  have e1 : a.eval (.const (.int .i64 (m : Int))) = .int .i64 (m : Int) := rfl
  simp only [ho, Sem.run_bind, e1, hrun, Result.andThen_ok, Sem.run_pure]
  dsimp only [Oper.uponIn]
  rw [hdst]
  refine hK _ _ _ (hh'.put (.d ?_) (by simpa using hd))
  have hrow : ∀ (i : Nat) (row : List D), (List.replicate m [D.s (.int .u8 0)])[i]? = some row → i < m ∧ row = [D.s (.int .u8 0)] := fun i row hi => by
    have h1 := (List.getElem?_eq_some_iff.1 hi).1
    rw [List.length_replicate] at h1
    rw [List.getElem?_replicate_of_lt h1] at hi
    exact ⟨h1, (Option.some.inj hi).symm⟩
  refine .l (m := 1) (fun _ => [Value.int .u8 0]) (by simp) (Nat.le_refl _) (by unfold maxLen; omega) (by simp) (fun h => ?_) (fun i row hi => by rw [(hrow i row hi).2]; rfl) (fun i row hi j u hj => ?_) (fun i row hi => ?_)
  · have := hh.own_lt h
    omega
  · obtain ⟨h1, _⟩ := hrow i row hi
    have h2 : j = 0 := by
      have := (List.getElem?_eq_some_iff.1 hj).1
      simpa using this
    subst h2
    simp only [List.getElem?_cons_zero, Option.some.injEq] at hj
    subst hj
    rw [World.cell?_alloc_at _ _ _ _ rfl, Nat.zero_add, Nat.mul_one, Nat.add_zero]
    simp [h1]
  · rw [(hrow i row hi).2]
    exact .cons (.s rfl) .nil
theorem LT.mx8 {m n : Int} {ats : Array TypeId} (hx : Evd al x (.d (.s (.int .u8 m))) := by exact ⟨_, rfl, by (try (apply Und.gd; assumption; try (apply Und.gd; assumption; try (apply Und.gd; assumption)))); exact Und.refl _⟩) (hy : Evd al y (.d (.s (.int .u8 n))) := by exact ⟨_, rfl, by (try (apply Und.gd; assumption; try (apply Und.gd; assumption; try (apply Und.gd; assumption)))); exact Und.refl _⟩) (hd : Nat.blt d X.N = true := by rfl) : LT P X al bs (.call { callee := .builtin .max, args := #[x, y], argTypes := ats }) (some d) [] [(d, .d (.s (.int .u8 (Max.max m n))))] [] :=
  LT.rd (fun al2 bs2 hl hB E a W h => ⟨_, .d (.s rfl), by
    have h1 := h.evs (hl.evd hx (by simp [Op.operands, Call.operands]))
    have h2 := h.evs (hl.evd hy (by simp [Op.operands, Call.operands]))
    intro op ho
    unfold execOp
    simp only [ho, resolve, invoke, builtin, Builtin.max_, Sem.run_bind, Sem.run_pure, Result.andThen_ok, List.map_toArray, List.map_cons, List.map_nil, h1, h2]
    simp [Builtin.max2]
    omega⟩) hd
/-- Behind a block every way on is told as one family of states. -/
theorem G.cutB {ro : Option Nat} {i : Nat} {α : Type} {c K : Act → World → Prop} {x : Code} {Q : Exit → Act → World → Prop} (I : α → List (Nat × AV) × Bs) (Φ : α → Prop) (hK : ∀ a w, c a w → K a w) (h1 : G P X al bs (Wp P ro x (Exit.inBlock i (Exit.then (At P X I Φ) Q)))) (h2 : ∀ z, Φ z → G P X (I z).1 (I z).2 c) : G P X al bs (Wp P ro x (Exit.inBlock i (Exit.then K Q))) := fun E a W hh =>
  (h1 E a W hh).mono (fun e a w he => by
    cases e with
    | normal => exact hK _ _ (G.of_at h2 he)
    | exit j =>
      unfold Exit.inBlock at he ⊢
      dsimp only at he ⊢
      split
      · rename_i h
        rw [if_pos h] at he
        exact hK _ _ (G.of_at h2 he)
      · rename_i h
        rw [if_neg h] at he
        exact he
    | _ => exact he)
end

end Go.Proofs.Ytohpbfcechbngaa
