/- Rangetree: rows of regions; what List appends. -/
import Derived.Test.YtnbohogkfdeddaaRtr
import Derived.Test.YtnbohogkfdeddaaWk2
import Derived.Maps.AppendAt
set_option linter.unusedSimpArgs false
set_option linter.unusedVariables false
namespace Go.Proofs.Ytnbohogkfdeddaa
open Go.RowKit

theorem Try.infoR4 : (Try.prog.info? 25).map (fun i => (i.zero, i.size, i.bytes)) = some (some (.agg #[.int .i64 0, .int .i64 0, .int .i64 0, .int .i64 0, .int .i64 0, .int .i64 0]), 6, 48) := by kernel_rfl
theorem infoR_parts : ∃ i0, Try.prog.info? 25 = some i0 ∧ i0.zero = some (.agg #[.int .i64 0, .int .i64 0, .int .i64 0, .int .i64 0, .int .i64 0, .int .i64 0]) ∧ i0.size = 6 ∧ i0.bytes = 48 := by
  have h := Try.infoR4
  cases hi : Try.prog.info? 25 with
  | none => rw [hi] at h; cases h
  | some i0 =>
    rw [hi] at h
    simp only [Option.map_some, Option.some.injEq, Prod.mk.injEq] at h
    exact ⟨i0, rfl, h.1, h.2.1, h.2.2⟩
/-- The cells of a list of regions. -/
def rF : List RV → List Value
  | [] => []
  | x :: l => x.cs ++ rF l
theorem rF_len : ∀ l : List RV, (rF l).length = l.length * 6
  | [] => rfl
  | x :: l => by
    have h : x.cs.length = 6 := rfl
    simp only [rF, List.length_append, rF_len l, h, List.length_cons]
    omega
theorem rF_app : ∀ a b : List RV, rF (a ++ b) = rF a ++ rF b
  | [], b => rfl
  | x :: a, b => by simp only [List.cons_append, rF, rF_app a b, List.append_assoc]
theorem rF_one : ∀ l : List RV, ∀ u ∈ rF l, u.oneCell' = true
  | [], u, h => by cases h
  | x :: l, u, h => by
    rcases List.mem_append.1 (show u ∈ x.cs ++ rF l from h) with h | h
    · simp only [RV.cs, List.mem_cons, List.not_mem_nil, or_false] at h
      rcases h with rfl | rfl | rfl | rfl | rfl | rfl <;> rfl
    · exact rF_one l u h
theorem rF_at : ∀ (l : List RV) (i : Nat) (x : RV), l[i]? = some x → ∀ j, j < 6 → (rF l)[i * 6 + j]? = x.cs[j]?
  | [], i, x, h, j, hj => by simp at h
  | y :: l, 0, x, h, j, hj => by
    simp only [List.getElem?_cons_zero, Option.some.injEq] at h
    subst h
    simp only [rF, Nat.zero_mul, Nat.zero_add]
    exact List.getElem?_append_left (show j < y.cs.length from hj)
  | y :: l, i + 1, x, h, j, hj => by
    simp only [List.getElem?_cons_succ] at h
    have e := rF_at l i x h j hj
    have hl : y.cs.length = 6 := rfl
    rw [← e, rF, List.getElem?_append_right (by omega), hl]
    congr 1
    omega
/-- v is a slice of the call's own that holds the regions l. -/
def ownR (w : World) (base : Nat) (v : Value) (l : List RV) : Prop := w.ownsRow base 25 6 v l.length (rF l)
theorem ownR.ext {w w' : World} {base : Nat} {v : Value} {l : List RV} (h : ownR w base v l) (hE : Ext w w') : ownR w' base v l := own_ext h hE
theorem ownR.kept {w w' : World} {base : Nat} {v : Value} {l : List RV} {row : Option Nat} (h : ownR w base v l) (hg : w.grownBy w' row) (hne : v.ownBlock = none ∨ v.ownBlock ≠ row) : ownR w' base v l := World.ownsRow.kept h hg hne
theorem ownR.lt {w : World} {base : Nat} {v : Value} {l : List RV} (h : ownR w base v l) : ∀ k, v.ownBlock = some k → base ≤ k ∧ k < w.heap.size := World.ownsRow.lt h
theorem ownR.isSl {w : World} {base : Nat} {v : Value} {l : List RV} (h : ownR w base v l) : isSl w v 6 l.length (rF l) := isSl_of_own h
theorem ownR_nil (w : World) (base : Nat) : ownR w base (.slice none 0 0) [] := World.ownsRow_nil w base _ _
/-- Its block is none of another type. -/
theorem ownR.ne {w : World} {base : Nat} {v : Value} {l : List RV} (h : ownR w base v l) {r : Nat} {T : TypeId} {cs : List Value} (b : Blk w r T cs) (hT : T ≠ 25) : v.ownBlock ≠ some r := by
  rcases h.2 with ⟨rfl, _⟩ | ⟨g, cap, cur, rfl, hb, hg, _⟩
  · simp [Value.ownBlock]
  · simp only [Value.ownBlock, ne_eq, Option.some.injEq]
    rintro rfl
    unfold Blk at b
    rw [b] at hg
    simp only [Option.some.injEq, Obj.cells.injEq] at hg
    exact hT hg.2.1
theorem ownR.shape {w : World} {base : Nat} {v : Value} {l : List RV} (h : ownR w base v l) : ∃ ad c, v = .slice ad l.length c := by
  rcases h.2 with ⟨rfl, hn⟩ | ⟨g, cap, cur, rfl, _⟩
  · exact ⟨none, 0, by rw [hn]⟩
  · exact ⟨_, _, rfl⟩
theorem wp_app {op : Oper} {a : Act} {W : World} {K : Act → World → Prop} {Q : Exit → Act → World → Prop} (s x : Operand) (ho : op.op = .call { callee := .builtin .append, args := #[s, x], argTypes := #[22, 22] })
    {base : Nat} {v : Value} {l : List RV} (hs : a.eval s = v) (hown : ownR W base v l) {g o c n : Nat} {ys : List RV} (hx : a.eval x = .slice (some ⟨g, o, none⟩) n c) (hn : ys.length = n) (hr : W.rangeAt g o (rF ys)) (hlen : l.length + ys.length ≤ 100000) (hb : base ≤ W.heap.size)
    (h : ∀ v' W', ownR W' base v' (l ++ ys) → W.grownBy W' v.ownBlock → (v'.ownBlock = v.ownBlock ∨ v'.ownBlock = some W.heap.size) → K (a.put op.dst v') W') : op.wp Try.prog a W K Q := by
  obtain ⟨i0, hi0, hz0, hs0, hy0⟩ := infoR_parts
  subst hn
  obtain ⟨v', w', hrun, h2, h3, h4, h5⟩ := run_append_own_at (P := Try.prog) W base 22 op.type 25 i0 _ 6 48 Try.underlying22 hi0 hz0 hs0 hy0 rfl (by decide) v l.length (rF l) hown ⟨g, o, none⟩ ys.length c (rF ys) (rF_len ys)
    (fun j u hu => by rw [Addr.add_mid]; exact hr j u hu) (rF_one ys) (by unfold maxLen; omega) (by omega) hb
  unfold Oper.wp execOp
  simp only [ho, resolve, invoke, builtin, Sem.run_bind, Sem.run_pure, Result.andThen_ok, List.map_toArray, List.map_cons, List.map_nil, hs, hx, hrun]
  refine h v' w' ?_ h3 h5
  unfold ownR
  rw [rF_app, List.length_append]
  exact h2
theorem run_bs1 (y : RV) (w : World) : (Instr.buildSlice 22 1 #[(0, .agg y.cs.toArray)]).run Try.prog w = .ok (.slice (some ⟨w.heap.size, 0, none⟩) 1 1) (w.alloc (.cells y.cs.toArray 25)) := by
  simp only [RV.cs]
  go_simp
theorem wp_bs1 {op : Oper} {a : Act} {W : World} {K : Act → World → Prop} {Q : Exit → Act → World → Prop} (x : Operand) (ho : op.op = .buildSlice 22 1 #[(0, x)])
    {y : RV} (hx : a.eval x = .agg y.cs.toArray) (h : K (a.put op.dst (.slice (some ⟨W.heap.size, 0, none⟩) 1 1)) (W.alloc (.cells y.cs.toArray 25))) : op.wp Try.prog a W K Q := by
  unfold Oper.wp execOp
  simp only [ho, List.map_toArray, List.map_cons, List.map_nil, hx, Sem.run_bind, run_bs1, Sem.run_pure, Result.andThen_ok]
  exact h

/-- The block of the slice that the variable r1 holds. -/
def rowAt (w : World) (r1 : Nat) : Option Nat := (w.cell? ⟨r1, 0, none⟩).bind Value.ownBlock
/-- w has grown out of X but for the variable r1 and the row that it holds. -/
structure GR (r1 : Nat) (X w : World) : Prop where
  os : w.os = X.os
  tape : w.tape = X.tape
  output : w.output = X.output
  lt : r1 < X.heap.size
  size : X.heap.size ≤ w.heap.size
  block : ∀ b, b < X.heap.size → b ≠ r1 → rowAt X r1 ≠ some b → w.heap[b]? = X.heap[b]?
  row : ∀ g, rowAt w r1 = some g → rowAt X r1 = some g ∨ X.heap.size ≤ g
theorem rowAt.ext {w w' : World} {r1 : Nat} (hE : Ext w w') (h : r1 < w.heap.size) : rowAt w' r1 = rowAt w r1 := by
  unfold rowAt
  rw [hE.below.cell (p := ⟨r1, 0, none⟩) h]
theorem GR.refl (r1 : Nat) {X : World} (h : r1 < X.heap.size) : GR r1 X X := ⟨rfl, rfl, rfl, h, Nat.le_refl _, fun _ _ _ _ => rfl, fun _ hg => .inl hg⟩
theorem GR.of_ext {r1 : Nat} {X w : World} (hE : Ext X w) (h : r1 < X.heap.size) : GR r1 X w := by
  have := hE.below
  exact ⟨this.os, this.tape, this.output, h, this.size, fun b hb _ _ => this.block b hb, fun g hg => .inl (by rwa [rowAt.ext hE h] at hg)⟩
theorem GR.trans {r1 : Nat} {X w w' : World} (h : GR r1 X w) (k : GR r1 w w') : GR r1 X w' := by
  refine ⟨k.os.trans h.os, k.tape.trans h.tape, k.output.trans h.output, h.lt, Nat.le_trans h.size k.size, fun b hb hn hr => ?_, fun g hg => ?_⟩
  · refine (k.block b (Nat.lt_of_lt_of_le hb h.size) hn ?_).trans (h.block b hb hn hr)
    intro he
    rcases h.row b he with h1 | h1
    · exact hr h1
    · omega
  · rcases k.row g hg with h1 | h1
    · exact h.row g h1
    · exact .inr (Nat.le_trans h.size h1)
theorem GR.ext {r1 : Nat} {X w w' : World} (h : GR r1 X w) (hE : Ext w w') : GR r1 X w' := h.trans (GR.of_ext hE (Nat.lt_of_lt_of_le h.lt h.size))
/-- A block that is neither the variable nor its row. -/
structure KR (r1 : Nat) (w : World) (g : Nat) : Prop where
  lt : g < w.heap.size
  ne : g ≠ r1
  row : rowAt w r1 ≠ some g
theorem KR.gr {r1 : Nat} {X w : World} {g : Nat} (k : KR r1 X g) (h : GR r1 X w) : KR r1 w g :=
  ⟨Nat.lt_of_lt_of_le k.lt h.size, k.ne, fun he => by
    have := k.lt
    rcases h.row g he with h1 | h1
    · exact k.row h1
    · omega⟩
theorem KR.ext {r1 : Nat} {X w : World} {g : Nat} (k : KR r1 X g) (hE : Ext X w) (h : r1 < X.heap.size) : KR r1 w g := k.gr (GR.of_ext hE h)
theorem GR.blk {r1 : Nat} {X w : World} {r : Nat} {T : TypeId} {cs : List Value} (h : GR r1 X w) (k : KR r1 X r) (b : Blk X r T cs) : Blk w r T cs := (h.block r k.lt k.ne k.row).trans b
theorem GR.range {r1 : Nat} {X w : World} {g o : Nat} {cs : List Value} (h : GR r1 X w) (k : KR r1 X g) (b : X.rangeAt g o cs) : w.rangeAt g o cs := by
  intro j v hv
  rw [← b j v hv]
  exact World.cell?_of_block (a := ⟨g, o + j, none⟩) (h.block g k.lt k.ne k.row)
theorem isT.gr {A : Nat → Prop} {r1 : Nat} {w w' : World} (hg : GR r1 w w') (hL : ∀ g, A g → KR r1 w g) : ∀ {t : BT} {v : TV}, isT A w t v → isT A w' t v
  | .E, v, h => h
  | .N _ _ _ _ a x b, v, ⟨h1, h2, h3, h4, h5, h6, r, o, c, va, vb, h7, h8, h9, hr, h10, h11, h12, h13⟩ =>
    ⟨h1, h2, h3, h4, h5, h6, r, o, c, va, vb, h7, h8, Nat.lt_of_lt_of_le h9 hg.size, hr, hg.range (hL r hr) h10, hg.range (hL r hr) h11, isT.gr hg hL h12, isT.gr hg hL h13⟩
/-- The variable r1 holds a slice of the call's own with the regions l. -/
def SL (base r1 : Nat) (l : List RV) (w : World) : Prop := base ≤ w.heap.size ∧ ∃ v, Blk w r1 22 [v] ∧ ownR w base v l
theorem SL.ext {base r1 : Nat} {l : List RV} {w w' : World} (h : SL base r1 l w) (hE : Ext w w') : SL base r1 l w' := by
  obtain ⟨hb, v, h1, h2⟩ := h
  exact ⟨Nat.le_trans hb hE.below.size, v, h1.ext hE, h2.ext hE⟩
theorem SL.lt {base r1 : Nat} {l : List RV} {w : World} (h : SL base r1 l w) : r1 < w.heap.size := by
  obtain ⟨hb, v, h1, h2⟩ := h
  exact h1.lt
theorem Blk.row {w : World} {r1 : Nat} {T : TypeId} {v : Value} (h : Blk w r1 T [v]) : rowAt w r1 = v.ownBlock := by
  unfold rowAt
  rw [h.cell 0]
  rfl
theorem SL.new {base r1 : Nat} {l : List RV} {w w' : World} (h : SL base r1 l w) (hE : Ext w w') {r : Nat} (h1 : w.heap.size ≤ r) (h2 : r < w'.heap.size) : KR r1 w' r := by
  have hl := h.lt
  refine ⟨h2, by omega, ?_⟩
  rw [rowAt.ext hE hl]
  obtain ⟨hb, v, h3, h4⟩ := h
  rw [h3.row]
  intro he
  have := (h4.lt r he).2
  omega

set_option maxRecDepth 100000 in
set_option maxHeartbeats 4000000 in
theorem list1_any {A : Nat → Prop} (base r1 : Nat) (l : List RV) (b : BT) (v : TV) (w : World) (hs : SL base r1 l w) (ht : isT A w b v) (hb : b ≠ .E) (hlen : l.length < 99999) :
    Calls Try.prog 37 #[.agg v.cs.toArray, .pointer (some ⟨r1, 0, none⟩)] w fun e w' => e = .returned (.tuple #[]) ∧ SL base r1 (l ++ [b.rg]) w' ∧ GR r1 w w' := by
  have hx : v.x = b.rg := by
    cases b with
    | E => exact absurd rfl hb
    | N h f l g a x b => exact ht.2.2.2.2.1
  have HX : Hid (v.x = b.rg) := hx
  have hcw : r1 < w.heap.size := hs.lt
  have HS : Hid (SL base r1 l w) := hs
  clear hx ht hb hs
  go_enter Try.func37, Try.ntmps37
  go_upto_region 1 with fail
  refine name_wX (fun W1 hW => ?_)
  have hE : Ext w W1 := by rw [hW]; repeat' (first | exact Ext.refl _ | apply Ext.al)
  have b0 : Blk W1 (w.heap.size) 28 v.cs := by rw [hW]; exact Blk.newAt rfl
  clear hW
  obtain ⟨r0, hr0⟩ : ∃ r, r = w.heap.size := ⟨_, rfl⟩
  rw [← hr0] at b0
  try rw [← hr0]
  have q0 : w.heap.size ≤ r0 := by omega
  clear hr0
  have qz : r0 < W1.heap.size := b0.lt
  obtain ⟨hbase, u, b1, hown⟩ := HS.out.ext hE
  have qz : r1 < W1.heap.size := b1.lt
  have hE0 := hE
  refine wp_region_lit ?_
  refine wpList_plain rfl (fun K hK => ?_); have zc := b1.cell 0; go_simp; clear zc; (try dsimp only); refine hK _ _ ?_; clear hK K; (try simp only [Act.put, Zs, Zz, Zc])
  refine wpList_plain rfl (fun K hK => ?_); go_simp; (try dsimp only); refine hK _ _ ?_; clear hK K; (try simp only [Act.put, Zs, Zz, Zc])
  refine wpList_plain rfl (fun K hK => ?_); refine wp_ld 25 _ (Blk.rgn b0) (by rfl) (by rfl) Try.underlying25 rfl (by exact Try.infoR) ?_; (try dsimp only); refine hK _ _ ?_; clear hK K; (try simp only [Act.put, Zs, Zz, Zc])
  refine wpList_plain rfl (fun K hK => ?_); refine wp_bs1 _ (by rfl) (by rfl) ?_; (try dsimp only); refine hK _ _ ?_; clear hK K; (try simp only [Act.put, Zs, Zz, Zc])
  refine name_wl (fun W2 hW => ?_)
  have hx : Ext W1 W2 := by rw [hW]; exact ext_alloc _ _
  have bs : Blk W2 W1.heap.size 25 v.x.cs := by rw [hW]; exact Blk.newAt rfl
  clear hW
  replace b1 := b1.ext hx
  replace hown := hown.ext hx
  replace hE := hE.trans hx
  have hbase2 : base ≤ W2.heap.size := Nat.le_trans hbase hx.below.size
  clear hx
  refine wpList_plain rfl (fun K hK => ?_); refine wp_app _ _ (by rfl) (by rfl) hown (ys := [v.x]) (by rfl) rfl (by simpa [rF] using bs.range) (by simp; omega) hbase2 (fun v3 W3 hown3 hgr hat => ?_); (try dsimp only); refine hK _ _ ?_; clear hK K; (try simp only [Act.put, Zs, Zz, Zc])
  have hn1 : u.ownBlock ≠ some r1 := hown.ne b1 (by decide)
  have b1o := b1
  replace b1 := b1.kept hgr (fun e => hn1 e.symm)
  have hn3 : v3.ownBlock ≠ some r1 := hown3.ne b1 (by decide)
  obtain ⟨a3, c3, rfl⟩ := hown3.shape
  refine wpList_plain rfl (fun K hK => ?_)
  have zc := b1.cell 0; have zf := b1.frozen 0; have zl := b1.lt; go_simp; clear zc zf zl
  (try dsimp only)
  refine name_k (fun W4 hW => ?_)
  have hg : W3.grownBy W4 (some r1) := by rw [hW]; exact grown_set _ _ _ _
  have bn := Blk.setW b1 hW
  clear hW
  (try dsimp only); refine hK _ _ ?_; clear hK K; (try simp only [Act.put, Zs, Zz, Zc])
  refine wpList_nil ?_
  go_wp2_with fail
  go_end0
  have h4 : ownR W4 base _ (l ++ [v.x]) := hown3.kept hg (.inr hn3)
  rw [show (l ++ [v.x]).length = l.length + 1 by simp] at h4
  refine ⟨rfl, ⟨Nat.le_trans hbase2 (Nat.le_trans hgr.size hg.size), _, bn, by rw [← HX.out]; exact h4⟩, ?_⟩
  have hb := hE.below
  have hr0 : rowAt w r1 = u.ownBlock := by rw [← rowAt.ext hE hcw]; exact b1o.row
  refine ⟨hg.os.trans (hgr.os.trans hb.os), hg.tape.trans (hgr.tape.trans hb.tape), hg.output.trans (hgr.output.trans hb.output), hcw, Nat.le_trans hb.size (Nat.le_trans hgr.size hg.size), fun q hq hn hr => ?_, fun g hgw => ?_⟩
  · have q2 : q < W2.heap.size := Nat.lt_of_lt_of_le hq hb.size
    rw [hr0] at hr
    refine (hg.block q (Nat.lt_of_lt_of_le q2 hgr.size) (fun e => hn (by cases e; rfl))).trans ((hgr.block q q2 (fun e => hr e.symm)).trans (hb.block q hq))
  · rw [hr0]
    have e4 : rowAt W4 r1 = _ := bn.row
    rw [e4] at hgw
    have e5 : (Value.slice a3 (l ++ [v.x]).length c3).ownBlock = some g := by rw [← hgw]; cases a3 <;> rfl
    rcases hat with h | h
    · rw [h] at e5; exact .inl e5
    · rw [h] at e5; cases e5; exact .inr hb.size

end Go.Proofs.Ytnbohogkfdeddaa
