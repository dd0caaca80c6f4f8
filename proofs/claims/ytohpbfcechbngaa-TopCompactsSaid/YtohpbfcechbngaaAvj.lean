/- Literals of slices of data. -/
import Derived.Test.YtohpbfcechbngaaAvi
import Derived.Great.BuildSlice
set_option linter.unusedSimpArgs false
set_option linter.unusedVariables false
namespace Go.Proofs.Ytohpbfcechbngaa
open Go.RowKit

section
variable {P : Program} {a : Act} {W : World} {X : Cx} {al : List (Nat × AV)} {bs : Bs} {d : Nat}
/-- The parts' operands, row by row. -/
inductive EvR (al : List (Nat × AV)) : List (Nat × Operand) → List (List D) → Prop
  | nil : EvR al [] []
  | cons {i : Nat} {x : Operand} {u : AV} {us : List AV} {ds : List D} {xs : List (Nat × Operand)} {rows : List (List D)} (h : Evd al x u) (hu : u.cells = us) (hc : us.all AV.cell = true) (hp : Pl us ds) (t : EvR al xs rows) : EvR al ((i, x) :: xs) (ds :: rows)
theorem EvR.cs {i : Nat} {x : Operand} {ds : List D} {xs : List (Nat × Operand)} {rows : List (List D)} (h : Evd al x (.d (.st ds))) (hc : ds.all D.cell = true) (t : EvR al xs rows) : EvR al ((i, x) :: xs) (ds :: rows) := .cons h rfl (by show (ds.map AV.d).all AV.cell = true; rw [List.all_map]; exact hc) ⟨rfl⟩ t
theorem EvR.c1 {i : Nat} {x : Operand} {v : D} {xs : List (Nat × Operand)} {rows : List (List D)} (h : Evd al x (.d v)) (h1 : (AV.d v).cells = [.d v]) (hc : v.cell = true) (t : EvR al xs rows) : EvR al ((i, x) :: xs) ([v] :: rows) := .cons h h1 (by rw [List.all_cons, List.all_nil, Bool.and_true]; exact hc) ⟨rfl⟩ t
theorem EvR.loc {op : Op} {al2 : List (Nat × AV)} (hL : Loc op al al2) : ∀ {xs : List (Nat × Operand)} {rows : List (List D)}, (∀ p ∈ xs, p.2 ∈ op.operands.toList) → EvR al xs rows → EvR al2 xs rows
  | [], _, _, .nil => .nil
  | (i, x) :: xs, _, hm, .cons h hu hc hp t => .cons (hL.evd h (hm (i, x) (List.mem_cons_self ..))) hu hc hp (EvR.loc hL (fun p hp => hm p (List.mem_cons_of_mem _ hp)) t)
theorem EvR.rl {E : Env} (h : HdE P X al bs E a W) : ∀ {xs : List (Nat × Operand)} {rows : List (List D)}, EvR al xs rows → RL (ownS E X.o bs) W ((xs.map (fun p => a.eval p.2)).flatMap (fun v => v.cells.toList)) rows.flatten
  | [], _, .nil => .nil
  | (i, x) :: xs, _, .cons hx hu hc hp t => by
    subst hu
    have h1 := ((h.evd hx).cellsOf hc).1
    rw [hp.h] at h1
    exact h1.unmap.app (EvR.rl h t)
theorem EvR.sz {E : Env} {m : Nat} (h : HdE P X al bs E a W) : ∀ {xs : List (Nat × Operand)} {rows : List (List D)}, EvR al xs rows → (∀ r ∈ rows, r.length = m) → ∀ v ∈ xs.map (fun p => a.eval p.2), v.cells.size = m
  | [], _, .nil, _, v, hv => by simp at hv
  | (i, x) :: xs, _, .cons hx hu hc hp t, hm, v, hv => by
    subst hu
    rcases List.mem_cons.1 hv with rfl | hv
    · have h1 := ((h.evd hx).cellsOf hc).1
      have h2 := h1.len
      rw [hp.h, List.length_map, hm _ (List.mem_cons_self ..)] at h2
      simpa using h2
    · exact EvR.sz h t (fun r hr => hm r (List.mem_cons_of_mem _ hr)) v hv
theorem EvR.len : ∀ {xs : List (Nat × Operand)} {rows : List (List D)}, EvR al xs rows → xs.length = rows.length
  | [], _, .nil => rfl
  | _ :: _, _, .cons _ _ _ _ t => by simp only [List.length_cons]; rw [EvR.len t]
theorem parts_zip {α : Type} : ∀ (l : List (Nat × α)) (s : Nat), l.map (·.1) = List.range' s l.length → l = ((l.map (·.2)).zipIdx s).map fun x => (x.2, x.1)
  | [], s, _ => rfl
  | (i, x) :: l, s, h => by
    simp only [List.map_cons, List.length_cons, List.range'_succ, List.cons.injEq] at h
    obtain ⟨h1, h2⟩ := h
    simp only [List.map_cons, List.zipIdx_cons, h1]
    rw [← parts_zip l (s + 1) h2]
/-- A literal that nobody will change: data. -/
theorem LT.bsD {t e size bytes n : Nat} {parts : List (Nat × Operand)} {rows : List (List D)} [hT : TAp P t e size bytes] (hp : EvR al parts rows) (hm : ∀ r ∈ rows, r.length = size) (hi : parts.map (·.1) = List.range' 0 parts.length := by rfl) (hn : parts.length = n := by rfl) (h0 : Nat.blt 0 n = true := by rfl) (hb : Nat.ble (n * size) 10000 = true := by rfl) (hd : Nat.blt d X.N = true := by rfl) :
    LT P X al bs (.buildSlice t n parts.toArray) (some d) [] [(d, .d (.l rows))] [] := fun ro al2 bs2 hL hB E a W hh o ho hdst K Q hK => by
  obtain ⟨i0, z, hu, hie, hz, hsz, hbs, hzs, hpos⟩ := hT.h
  have hp2 := EvR.loc hL (fun p hp => by simp [Op.operands]; exact ⟨_, hp⟩) hp
  have hlen := hp2.len
  have hrl := hp2.rl hh
  have hsz2 := hp2.sz hh hm
  simp only [Nat.ble_eq] at hb
  have h0' : 0 < n := by simpa using h0
  have hns : 0 < n * size := Nat.mul_pos h0' hpos
  generalize hvs : parts.map (fun p => a.eval p.2) = vs at hrl hsz2
  have hvl : vs.length = n := by rw [← hvs, List.length_map, hn]
  generalize hfl : vs.flatMap (fun v => v.cells.toList) = flat at hrl
  have hflen : flat.length = n * size := by rw [hrl.len, flat_len rows hm, ← hlen, hn]
  have hpz : parts.map (fun p => (p.1, a.eval p.2)) = (vs.zipIdx 0).map fun x => (x.2, x.1) := by
    have := parts_zip (parts.map (fun p => (p.1, a.eval p.2))) 0 (by simpa [Function.comp_def] using hi)
    rw [this, List.map_map, ← hvs]
    rfl
  have hfill := Great.fill_whole hpos vs ((Array.range (n * i0.size)).map (z.cells[· % z.cells.size]!)) hsz2 (by rw [hvl, hsz]; simp)
  rw [hfl] at hfill
  have hrun := run_buildSlice (P := P) W t e n (parts.toArray.map fun (i, x) => (i, a.eval x)) flat.toArray i0 z hu hie hz (by rw [hsz]; omega) (by rw [hsz]; omega) (by rw [hsz] at hfill ⊢; simpa [hpz] using hfill)
  have hx := ext_alloc W (.cells flat.toArray e)
  have hh' := hh.grow hx
  refine WO.of (by rw [ho]; intro c h; cases h) ?_
  unfold execOp
  simp only [ho, Sem.run_bind, hrun, Result.andThen_ok, Sem.run_pure]
  dsimp only [Oper.uponIn]
  rw [hdst]
  refine hK _ _ _ (hh'.put (.d ?_) (by simpa using hd))
  have kk : Keeps (ownS E X.o bs2) (ownS E X.o bs2) W (W.alloc (.cells flat.toArray e)) := .of (fun r hr _ => hx.below.block r hr) hx.below.size (fun _ _ h => h)
  refine .l (m := size) (fun i => (flat.drop (i * size)).take size) (by rw [← hlen, hn]) (Nat.le_refl _) ?_ (by simp) (fun h => ?_) (fun i row hi => hm row (List.mem_of_getElem? hi)) ?_ ?_
  · unfold maxLen
    have : n * 1 ≤ n * size := Nat.mul_le_mul_left _ hpos
    omega
  · have := hh.own_lt h
    omega
  · intro i row hi j u hu
    have hj : j < size := by
      have := (List.getElem?_eq_some_iff.1 hu).1
      simp only [List.length_take, List.length_drop] at this
      omega
    rw [List.getElem?_take_of_lt hj, List.getElem?_drop] at hu
    rw [World.cell?_alloc_at _ _ _ _ rfl, Nat.zero_add]
    simpa using hu
  · intro i row hi
    have := (hrl.drop (i * size)).take size
    rw [flat_at rows i row hm hi] at this
    exact this.keeps kk
/-- append to nil: a row of one's own. -/
theorem LT.ap0 {t e size bytes k : Nat} {x y : Operand} {rows : List (List D)} [hT : TAp P t e size bytes] 
    (hk : bs.length = k := by simp only [List.length_cons, List.length_nil, Nat.reduceAdd]; rfl) (hf : lk bs k = none := by rfl) (hf1 : lk bs (k + 1) = none := by rfl) (hx : ev al x = some (.d (.s (.slice none 0 0))) := by rfl) (hy : ev al y = some (.d (.l rows)) := by rfl) (hm : rows.all (fun r => Nat.beq r.length size) = true := by rfl) (hc : rows.flatten.all D.cell = true := by rfl) (h63 : Nat.ble rows.length 100000 = true := by rfl) (hby : Nat.ble bytes 1000000 = true := by rfl) (hd : Nat.blt d X.N = true := by rfl) :
    LT P X al bs (.call { callee := .builtin .append, args := #[x, y], argTypes := #[t, t] }) (some d) [k, k + 1] [(d, .o (k + 1) rows.length)] [(k + 1, some (e, rows.flatten.map .d)), (k, none), (k, some (e, []))] := fun ro al2 bs2 hL hB E a W hh o ho hdst K Q hK => by
  simp only [Nat.ble_eq] at hby h63
  have hf2 : lk bs2 k = none := (hB k (by simp)).trans hf
  have hf3 : lk bs2 (k + 1) = none := (hB (k + 1) (by simp)).trans hf1
  have hh1 := hh.nilRow k e hf2
  have hv := hh.ev (hL.ev hx (by simp [Op.operands, Call.operands]))
  have hv := hv.scalar
  have hy1 := hh1.ev (hL.ev hy (by simp [Op.operands, Call.operands]))
  have hm' : ∀ r ∈ rows, r.length = size := fun r hr => by
    have := (List.all_eq_true.1 hm) r hr
    exact Nat.eq_of_beq_eq_true this
  obtain ⟨v', W', E', hrun, g1, g2⟩ := hh1.append (n := 0) (v := .slice none 0 0) (ty := o.type) (k + 1) (by rw [lk_ne _ _ (by omega)]; exact hf3) hT (lk_self _ _ _) (.o ⟨_, lk_self _ _ _⟩ (by rw [Env.set_V])) hy1 hm' hc (by unfold maxLen; omega) (by
    have := Nat.mul_le_mul h63 hby
    rw [Nat.zero_add]
    omega)
  simp only [Nat.zero_add, List.nil_append] at g1 g2
  refine WO.of (by rw [ho]; intro c h; cases h) ?_
  unfold execOp
  have : (do let dd ← resolve a.eval { callee := .builtin .append, args := #[x, y], argTypes := #[t, t] } o.type; invoke dd.target dd.args : Sem Next).run P W = .ok (.value v') W' := by
    simp [resolve, invoke, builtin, hrun, hv]
  simp only [ho]
  rw [this]
  dsimp only [Oper.uponIn]
  rw [hdst]
  exact hK _ _ _ (g1.put g2 (by simpa using hd))
/-- append of rows that are written out. -/
theorem LT.apB {t e size bytes n b k : Nat} {x y : Operand} {rows0 rows : List (List D)} [hT : TAp P t e size bytes] 
    (hk : bs.length = k := by simp only [List.length_cons, List.length_nil, Nat.reduceAdd]; rfl) (hf : lk bs k = none := by rfl) (hx : ev al x = some (.o b n) := by rfl) (hy : ev al y = some (.d (.l rows)) := by rfl) (hb : lk bs b = some (some (e, rows0.flatten.map .d)) := by rfl) (hm : rows.all (fun r => Nat.beq r.length size) = true := by rfl) (hc : rows.flatten.all D.cell = true := by rfl) (hby : Nat.ble bytes 1000000 = true := by rfl) (h63 : n + rows.length ≤ 100000 := by first | (simp only [List.length_cons, List.length_nil]; omega) | omega) (hd : Nat.blt d X.N = true := by rfl) :
    LT P X al bs (.call { callee := .builtin .append, args := #[x, y], argTypes := #[t, t] }) (some d) [b, k] [(d, .o k (n + rows.length))] [(k, some (e, (rows0 ++ rows).flatten.map .d)), (b, none)] :=
  LT.ap (fun r hr => Nat.eq_of_beq_eq_true ((List.all_eq_true.1 hm) r hr)) hc h63 hby hk hf hx hy hb hd
theorem G.frzB {c : Act → World → Prop} {b k m : Nat} {T : TypeId} {rows : List (List D)} (n : Nat) (h : G P X ((n, .d (.l rows)) :: al) ((b, none) :: bs) c) (hx : lk al n = some (.o b k) := by rfl) (hb : lk bs b = some (some (T, rows.flatten.map .d)) := by rfl) (hT : TZs P T m := by infer_instance) (hm : rows.all (fun r => Nat.beq r.length m) = true := by rfl) (hk : k = rows.length := by rfl) : G P X al bs c :=
  G.frz (hT := hT) n h (fun r hr => Nat.eq_of_beq_eq_true ((List.all_eq_true.1 hm) r hr)) hk hx hb
section
variable {ro : Option Nat} {ops : Array Oper} {Q : Exit → Act → World → Prop} {rest l : List Oper} {ty id : Nat} {ps : String} {af : Array Edge} {op : Op} {rb : List Nat} {s : Nat × AV} {e e' e'' : Nat × Option (TypeId × List AV)} {al0 : List (Nat × AV)} {bs0 : Bs} {sts : List Stp} {dst : Option Nat}
theorem G.w4 (h : G P X (s :: al) (e :: e' :: e'' :: bs) (WL P ro ops Q rest)) (lt : LT P X al bs op dst rb [s] [e, e', e'']) : G P X al bs (WL P ro ops Q ({ dst := dst, op := op, type := ty, pos := ps, after := af, guard := none } :: rest)) := G.w lt h
theorem GD.w4 (h : GD P X l Q id al0 bs0 (sts ++ [⟨opT op, [s.1], rb, [e.1, e'.1, e''.1]⟩]) (s :: al) (e :: e' :: e'' :: bs) rest) (lt : LT P X al bs op dst rb [s] [e, e', e'']) : GD P X l Q id al0 bs0 sts al bs ({ dst := dst, op := op, type := ty, pos := ps, after := af, guard := none } :: rest) := GD.go (sl := [s]) (bl := [e, e', e'']) (fun ho => LT.lop lt rfl ho) h
end
end

end Go.Proofs.Ytohpbfcechbngaa
