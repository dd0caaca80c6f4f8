/- Rangetree: slices of slices; operations of a script. -/
import Derived.Test.YtnbohogkfdeddaaRuf
import Derived.Laws.AppendOwnNone
import Derived.Deep.Upon
set_option linter.unusedSimpArgs false
set_option linter.unusedVariables false
namespace Go.Proofs.Ytnbohogkfdeddaa
open Go.RowKit

/-- v[:j] and v[j:] of a slice of regions. -/
def takeV (v : Value) (j : Nat) : Value := match v with
  | .slice ad n c => sliced ad 0 j c 6
  | v => v
def dropV (v : Value) (j : Nat) : Value := match v with
  | .slice ad n c => sliced ad j n c 6
  | v => v
theorem isSl.shape {w : World} {v : Value} {l : List RV} (h : isSl w v 6 l.length (rF l)) : ∃ ad c, v = .slice ad l.length c ∧ l.length ≤ c := by
  rcases h.2 with ⟨a, c, rfl, hn⟩ | ⟨b, o, c, rfl, hc, _⟩
  · exact ⟨a, c, by rw [hn], by omega⟩
  · exact ⟨_, c, rfl, hc⟩
theorem rF_take (l : List RV) (j : Nat) (hj : j ≤ l.length) : ∀ i, i < j * 6 → (rF (l.take j))[i]? = (rF l)[i]? := by
  intro i hi
  have e := rF_app (l.take j) (l.drop j)
  rw [List.take_append_drop] at e
  rw [e, List.getElem?_append_left]
  rw [rF_len, List.length_take]
  omega
theorem rF_drop (l : List RV) (j : Nat) (hj : j ≤ l.length) (i : Nat) : (rF (l.drop j))[i]? = (rF l)[j * 6 + i]? := by
  have e := rF_app (l.take j) (l.drop j)
  rw [List.take_append_drop] at e
  have hl : (rF (l.take j)).length = j * 6 := by rw [rF_len, List.length_take]; congr 1; omega
  rw [e, List.getElem?_append_right (by omega), hl]
  congr 1
  omega
theorem isSl_takeV {w : World} {v : Value} {l : List RV} (h : isSl w v 6 l.length (rF l)) {j : Nat} (hj : j ≤ l.length) : isSl w (takeV v j) 6 (l.take j).length (rF (l.take j)) := by
  have hl : (l.take j).length = j := by rw [List.length_take]; omega
  refine ⟨rF_len _, ?_⟩
  rw [hl]
  rcases h.2 with ⟨a, c, rfl, hn⟩ | ⟨b, o, c, rfl, h1, h2, h3, h4⟩
  · left
    obtain rfl : j = 0 := by omega
    exact ⟨_, _, rfl, rfl⟩
  · by_cases h0 : j = 0
    · left
      exact ⟨_, _, by simp only [takeV, sliced]; rw [Nat.sub_zero, h0], h0⟩
    · right
      refine ⟨b, o, c, ?_, by omega, h2, h3, fun i hi => ?_⟩
      · simp only [takeV, sliced]
        rw [if_neg (by omega)]
        simp [Addr.add]
      · rw [rF_take l j hj i hi]
        exact h4 i (by omega)
theorem isSl_dropV {w : World} {v : Value} {l : List RV} (h : isSl w v 6 l.length (rF l)) {j : Nat} (hj : j ≤ l.length) : isSl w (dropV v j) 6 (l.drop j).length (rF (l.drop j)) := by
  have hl : (l.drop j).length = l.length - j := List.length_drop
  refine ⟨rF_len _, ?_⟩
  rw [hl]
  rcases h.2 with ⟨a, c, rfl, hn⟩ | ⟨b, o, c, rfl, h1, h2, h3, h4⟩
  · left
    exact ⟨_, _, by simp only [dropV, sliced]; rw [Nat.zero_sub], by omega⟩
  · by_cases h0 : j = l.length
    · left
      exact ⟨_, _, by simp only [dropV, sliced]; rw [show l.length - j = 0 by omega], by omega⟩
    · right
      refine ⟨b, o + j * 6, c - j, ?_, by omega, by omega, h3, fun i hi => ?_⟩
      · simp only [dropV, sliced]
        rw [if_neg (by omega)]
        simp only [Option.map_some, Addr.add_mid]
      · rw [rF_drop l j hj i, ← h4 (j * 6 + i) (by omega)]
        congr 2
        omega
theorem exec_takeV {op : Oper} {a : Act} {w w0 : World} (x y : Operand) (ho : op.op = .slice 22 x none (some y) none) {v : Value} {l : List RV} (hs : isSl w0 v 6 l.length (rF l)) {j : Nat} (hx : a.eval x = v) (hy : a.eval y = .int .i64 j) (hj : j ≤ l.length) :
    (execOp a.eval op).run Try.prog w = .ok (.value (takeV v j)) w := by
  obtain ⟨ad, c, rfl, hc⟩ := hs.shape
  have hu : Try.prog.underlying 22 = some (.slice (Try.prog.elem 22)) := by kernel_rfl
  have hz : (sizeOf (Try.prog.elem 22)).run Try.prog w = .ok 6 w := by kernel_rfl
  unfold execOp
  simp only [ho, hx, hy, Option.map_some, Option.map_none, Sem.run_bind, run_sliceAt_slice w _ _ _ _ _ hu, run_slice_h w _ ad l.length c hu .i64 j (by omega) (by omega), hz, Result.andThen_ok, Sem.run_pure, Int.toNat_natCast]
  rfl
theorem exec_dropV {op : Oper} {a : Act} {w w0 : World} (x y : Operand) (ho : op.op = .slice 22 x (some y) none none) {v : Value} {l : List RV} (hs : isSl w0 v 6 l.length (rF l)) {i : Int} (j : Nat) (hx : a.eval x = v) (hy : a.eval y = .int .i64 i) (hi : i = j) (hj : j ≤ l.length) :
    (execOp a.eval op).run Try.prog w = .ok (.value (dropV v j)) w := by
  subst hi
  obtain ⟨ad, c, rfl, hc⟩ := hs.shape
  have hu : Try.prog.underlying 22 = some (.slice (Try.prog.elem 22)) := by kernel_rfl
  have hz : (sizeOf (Try.prog.elem 22)).run Try.prog w = .ok 6 w := by kernel_rfl
  unfold execOp
  simp only [ho, hx, hy, Option.map_some, Option.map_none, Sem.run_bind, run_sliceAt_slice w _ _ _ _ _ hu, run_slice_l w _ ad l.length c hu .i64 j (by omega) (by omega), hz, Result.andThen_ok, Sem.run_pure, Int.toNat_natCast]
  rfl
/-- append of a slice, empty or not. -/
theorem wp_appS {op : Oper} {a : Act} {W : World} {K : Act → World → Prop} {Q : Exit → Act → World → Prop} (s x : Operand) (ho : op.op = .call { callee := .builtin .append, args := #[s, x], argTypes := #[22, 22] })
    {base : Nat} {v xv : Value} {l ys : List RV} (hs : a.eval s = v) (hown : ownR W base v l) (hx : a.eval x = xv) (hr : isSl W xv 6 ys.length (rF ys)) (hlen : l.length + ys.length ≤ 100000) (hb : base ≤ W.heap.size)
    (h : ∀ v' W', ownR W' base v' (l ++ ys) → W.grownBy W' v.ownBlock → K (a.put op.dst v') W') : op.wp Try.prog a W K Q := by
  obtain ⟨i0, hi0, hz0, hs0, hy0⟩ := infoR_parts
  rcases hr.2 with ⟨ad, c, rfl, hn⟩ | ⟨b, o, c, rfl, h1, h2, h3, h4⟩
  · have hys : ys = [] := List.length_eq_zero_iff.1 hn
    subst hys
    obtain ⟨vd, vc, rfl, hvc⟩ := hown.isSl.shape
    cases ad with
    | none =>
      have hrun := run_append_nothing (P := Try.prog) W 22 22 op.type 25 i0 Try.underlying22 hi0 vd l.length vc hvc _ (Src.ofNil W Try.underlying22 c)
      unfold Oper.wp
      simp [execOp, ho, resolve, invoke, builtin, hs, hx, hrun, Result.andThen]
      exact h _ _ (by rw [List.append_nil]; exact hown) ⟨rfl, rfl, rfl, Nat.le_refl _, fun _ _ _ => rfl⟩
    | some p =>
      obtain ⟨v', w', hrun, g2, g3, g4, g5⟩ := run_append_own_at (P := Try.prog) W base 22 op.type 25 i0 _ 6 48 Try.underlying22 hi0 hz0 hs0 hy0 rfl (by decide) _ l.length (rF l) hown p 0 c [] rfl
        (fun j u hu => by simp at hu) (by simp) (by unfold maxLen; omega) (by omega) hb
      unfold Oper.wp execOp
      simp only [ho, resolve, invoke, builtin, Sem.run_bind, Sem.run_pure, Result.andThen_ok, List.map_toArray, List.map_cons, List.map_nil, hs, hx, hrun]
      exact h _ _ (by rw [List.append_nil] at *; exact g2) g3
  · exact wp_app s x ho hs hown hx rfl (fun j u hu => by rw [h4 j (by have := (List.getElem?_eq_some_iff.1 hu).1; rw [rF_len] at this; exact this)]; exact hu) hlen hb (fun v' W' q1 q2 _ => h v' W' q1 q2)
/-- []api.Region{} -/
theorem run_bs0 (w : World) : (Instr.buildSlice 22 0 #[]).run Try.prog w = .ok (.slice (some ⟨w.heap.size, 0, none⟩) 0 0) (w.alloc (.cells #[] 25)) := by
  go_simp
theorem wp_bs0 {op : Oper} {a : Act} {W : World} {K : Act → World → Prop} {Q : Exit → Act → World → Prop} (ho : op.op = .buildSlice 22 0 #[])
    (h : K (a.put op.dst (.slice (some ⟨W.heap.size, 0, none⟩) 0 0)) (W.alloc (.cells #[] 25))) : op.wp Try.prog a W K Q := by
  unfold Oper.wp execOp
  simp only [ho, List.map_toArray, List.map_nil, Sem.run_bind, run_bs0, Sem.run_pure, Result.andThen_ok]
  exact h
theorem ownR_bs0 {W : World} {base : Nat} (hb : base ≤ W.heap.size) : ownR (W.alloc (.cells #[] 25)) base (.slice (some ⟨W.heap.size, 0, none⟩) 0 0) [] :=
  World.ownsRow_lit W #[] 0 hb (by unfold maxLen; omega) (by simp)
theorem res_ctt {P : Program} {fn : Func} {tm : Array Value} {w : World} {s n m : Nat} {T : TypeId} {v u u' : Value} (hr : fn.results = #[.cell s T, .tmp n, .tmp m]) (h : GivesC P tm w s T v) (hu : tm.getD n undef = u) (hu' : tm.getD m undef = u') : (results fn tm).run P w = .ok (.tuple #[v, u, u']) w := by
  obtain ⟨ad, h1, h2⟩ := h.run
  rw [Array.getD_eq_getD_getElem?] at hu hu'
  simp [results, hr, h1, h2, hu, hu']

/-! ### Operations of a script -/
structure OV where
  d : Bool
  x : RV
def OV.cs (o : OV) : List Value := [.bool o.d, .int .i64 o.x.s, .int .i64 o.x.p, .int .i64 o.x.r, .int .i64 o.x.f, .int .i64 o.x.i, .int .i64 o.x.x]
def OV.z : OV := ⟨false, RV.z⟩
@[go_sem] theorem OV.get0 (o : OV) : o.cs[0]? = some (.bool o.d) := rfl
@[go_sem] theorem OV.get1 (o : OV) : o.cs[1]? = some (.int .i64 o.x.s) := rfl
theorem Blk.opr {w : World} {r : Nat} {T : TypeId} {o : OV} (h : Blk w r T o.cs) : w.rangeAt r 1 o.x.cs := h.rangeIn 1 o.x.cs (fun j hj => by
    have hj' : j < 6 := hj
    match j, hj' with
    | 0, _ => rfl
    | 1, _ => rfl
    | 2, _ => rfl
    | 3, _ => rfl
    | 4, _ => rfl
    | 5, _ => rfl)
theorem OV.one (o : OV) : o.cs.toArray.all (·.oneCell') = true := by
  simp [OV.cs, Value.oneCell']
theorem Try.infoO : (Try.prog.info? 38).map (·.size) = some 7 := by kernel_rfl
def oF : List OV → List Value
  | [] => []
  | o :: l => o.cs ++ oF l
theorem oF_len : ∀ l : List OV, (oF l).length = l.length * 7
  | [] => rfl
  | x :: l => by
    have h : x.cs.length = 7 := rfl
    simp only [oF, List.length_append, oF_len l, h, List.length_cons]
    omega
theorem oF_at : ∀ (l : List OV) (i : Nat) (x : OV), l[i]? = some x → ∀ j, j < 7 → (oF l)[i * 7 + j]? = x.cs[j]?
  | [], i, x, h, j, hj => by simp at h
  | y :: l, 0, x, h, j, hj => by
    simp only [List.getElem?_cons_zero, Option.some.injEq] at h
    subst h
    simp only [oF, Nat.zero_mul, Nat.zero_add]
    exact List.getElem?_append_left (show j < y.cs.length from hj)
  | y :: l, i + 1, x, h, j, hj => by
    simp only [List.getElem?_cons_succ] at h
    have e := oF_at l i x h j hj
    have hl : y.cs.length = 7 := rfl
    rw [← e, oF, List.getElem?_append_right (by omega), hl]
    congr 1
    omega
theorem ol_at {w : World} {ad : Option Addr} {c : Nat} {l : List OV} (h : isSl w (.slice ad l.length c) 7 l.length (oF l)) {k : Nat} (hk : k < l.length) :
    ∃ b o, ad = some ⟨b, o, none⟩ ∧ l.length ≤ c ∧ c ≤ maxLen ∧ b < w.heap.size ∧ w.rangeAt b (o + k * 7) (l[k]).cs := by
  obtain ⟨b, o, cap, hv, h1, h2, h3, h4⟩ := h.cell (by omega)
  cases hv
  refine ⟨b, o, rfl, h1, h2, h3, fun j u hu => ?_⟩
  have hj : j < 7 := (List.getElem?_eq_some_iff.1 hu).1
  have := oF_at l k (l[k]) (List.getElem?_eq_getElem hk) j hj
  rw [show o + k * 7 + j = o + (k * 7 + j) by omega, h4 (k * 7 + j) (by omega), this, hu]

end Go.Proofs.Ytnbohogkfdeddaa
