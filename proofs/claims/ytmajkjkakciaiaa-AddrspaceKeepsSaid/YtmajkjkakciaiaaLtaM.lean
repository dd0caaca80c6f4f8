/- What a law is handed, as data: integers, regions, ranges, calls, trees, rows of them; and what a contract gives the row. -/
import Derived.Test.YtmajkjkakciaiaaLiftM
import Derived.Test.YtmajkjkakciaiaaQg
set_option linter.unusedSimpArgs false
set_option linter.unusedVariables false
namespace Go.Proofs.Ytmajkjkakciaiaa
open Go.ChangeShapes Go.WideShapes Go.ChangeAt Go.RowKit

theorem spot0 {w : World} {a : Addr} {v : Value} (h : w.cell? a = some v) : a = ⟨a.block, a.off, none⟩ ∧ a.block < w.heap.size := by
  refine ⟨?_, ?_⟩
  · unfold World.cell? at h
    split at h
    · split at h
      · simp at h
      · rename_i hs
        cases a with
        | mk b o s => cases s <;> simp_all
    · simp at h
  · unfold World.cell? at h
    split at h
    · rename_i hh
      exact (Array.getElem?_eq_some_iff.1 hh).1
    · simp at h
theorem addr0 (b o j : Nat) : (⟨b, o, none⟩ : Addr).add j = ⟨b, o + j, none⟩ := by
  unfold Addr.add
  split
  · rename_i h; subst h; rfl
  · rfl
/-- A law told as a contract. -/
theorem law_of {P : Program} {K : Nat} {ds : List D} {W : World} {vs : List Value} (h : Fn P K ds (· = .s (.bool true))) (hv : RL (fun _ => False) W vs ds) : Calls P K vs.toArray W (fun e W' => e = .returned (.bool true) ∧ Ext W W') :=
  (h.2 (fun _ => False) W vs (fun _ h => h.elim) hv).mono fun e W' ⟨v, x, h1, h2, h3, h4⟩ => by
    subst h2
    cases h4
    exact ⟨h1, h3⟩
section
variable {H : Type} {enc : TypeId × Value → H} {P : Program} {w : World} {base : Nat} {spare : Nat → Bool} {held : Bool} {v : Value} {d : DataW H} {p : List MemPlace} {r : Reach} {b0 : Nat}
/-- A row of things that are told as data. -/
theorem sl_cells {t e m : Nat} {Q : List D → Prop} {fuel : Nat} {cs : List Value} {x : DataW H × List MemPlace} (ht : P.underlying t = some (.slice e)) (hm : P.cellsOf e = m) (h0 : 0 < m)
    (hel : ∀ (n : Nat), n < fuel → ∀ (cs : List Value) (x : DataW H × List MemPlace), DataW.trod enc P w base spare held n e cs = some x → ∃ row : List D, Q row ∧ row.length = m ∧ RL (fun _ => False) w cs row)
    (h : DataW.trod enc P w base spare held fuel t cs = some x) : ∃ (u : Value) (rows : List (List D)), cs = [u] ∧ (∀ row ∈ rows, Q row) ∧ RD (fun _ => False) w u (.l rows) := by
  rcases DataW.trod_slice ht h with ⟨hc, _⟩ | ⟨a, len, cap, elems, rest, n', hn', hc, _, hb, hle, hml, hlen2, hel2, _, _⟩
  · exact ⟨_, [], hc, (fun _ h => by cases h), .nl⟩
  · by_cases hz : len = 0
    · subst hz
      exact ⟨_, [], hc, (fun _ h => by cases h), .nl⟩
    · have cell : ∀ i, i < len → ∃ (cs' : List Value) (row : List D), (∀ j, j < m → w.cell? (a.add (i * m + j)) = cs'[j]?) ∧ Q row ∧ row.length = m ∧ RL (fun _ => False) w cs' row := by
        intro i hi
        have h6 := hel2 i hi
        rw [List.getElem?_eq_getElem (by omega), hm] at h6
        obtain ⟨cs', h7, h8⟩ := Option.bind_eq_some_iff.1 h6
        obtain ⟨row, h9, h10, h11⟩ := hel n' (by omega) cs' _ h8
        refine ⟨cs', row, fun j hj => ?_, h9, h10, h11⟩
        obtain ⟨_, _, h12⟩ := World.cells?_some h7
        have h13 := h12 j hj
        rw [Go.Deep.add_add] at h13
        exact h13
      obtain ⟨c0, row0, hc0, _, hr0, hl0⟩ := cell 0 (by omega)
      have hlc := hl0.len
      have hx0 : w.cell? a = some (c0[0]'(by omega)) := by
        have h14 := hc0 0 (by omega)
        rw [List.getElem?_eq_getElem (by omega)] at h14
        simpa [Addr.add] using h14
      obtain ⟨ha, hbl⟩ := spot0 hx0
      have hch : ∀ i, ∃ (cr : List Value × List D), i < len → (∀ j, j < m → w.cell? (a.add (i * m + j)) = cr.1[j]?) ∧ Q cr.2 ∧ cr.2.length = m ∧ RL (fun _ => False) w cr.1 cr.2 := by
        intro i
        by_cases hi : i < len
        · obtain ⟨c, rw_, h1, h2, h3, h4⟩ := cell i hi
          exact ⟨(c, rw_), fun _ => ⟨h1, h2, h3, h4⟩⟩
        · exact ⟨([], []), fun h => absurd h hi⟩
      obtain ⟨F, hF⟩ := Classical.axiomOfChoice hch
      have hget : ∀ (i : Nat) (row : List D), ((List.range len).map fun i => (F i).2)[i]? = some row → i < len ∧ row = (F i).2 := by
        intro i row hi
        rw [List.getElem?_map] at hi
        by_cases hl : i < len
        · rw [List.getElem?_range hl] at hi
          exact ⟨hl, by simpa using hi.symm⟩
        · rw [List.getElem?_eq_none (by simpa using hl)] at hi
          cases hi
      refine ⟨_, (List.range len).map fun i => (F i).2, hc, fun row hr => ?_, ?_⟩
      · obtain ⟨i, hi, rfl⟩ := List.mem_map.1 hr
        exact (hF i (by simpa using hi)).2.1
      · rw [ha]
        refine RD.l (m := m) (fun i => (F i).1) (by simp) hle hml hbl (fun h => h) (fun i row hi => ?_) (fun i row hi => ?_) (fun i row hi => ?_)
        · obtain ⟨hl, rfl⟩ := hget i row hi
          exact (hF i hl).2.2.1
        · obtain ⟨hl, rfl⟩ := hget i row hi
          obtain ⟨h1, _, h3, h4⟩ := hF i hl
          intro j u hu
          have hj : j < m := by
            have h5 := (List.getElem?_eq_some_iff.1 hu).1
            rw [h4.len, h3] at h5
            exact h5
          have h6 := h1 j hj
          rw [ha, hu] at h6
          rw [← h6, addr0, Nat.add_assoc]
        · obtain ⟨hl, rfl⟩ := hget i row hi
          exact (hF i hl).2.2.2
end
section
variable {H : Type} {enc : TypeId × Value → H} {w : World} {base : Nat} {spare : Nat → Bool} {held : Bool} {v : Value} {d : DataW H} {p : List MemPlace} {r : Reach} {b0 : Nat}
def R6 : List (Option IntKind) := [some .i64, some .i64, some .i64, some .i64, some .i64, some .i64]
theorem flat6 {l : List Value} (h : flatOK R6 l) : ∃ x : RV, l = x.cs := by
  obtain ⟨a, l, rfl, _, h⟩ := flatOK_int h
  obtain ⟨b, l, rfl, _, h⟩ := flatOK_int h
  obtain ⟨c, l, rfl, _, h⟩ := flatOK_int h
  obtain ⟨d, l, rfl, _, h⟩ := flatOK_int h
  obtain ⟨e, l, rfl, _, h⟩ := flatOK_int h
  obtain ⟨f, l, rfl, _, h⟩ := flatOK_int h
  obtain rfl := flatOK_nil h
  exact ⟨⟨a, b, c, d, e, f⟩, rfl⟩
theorem RL.ints {own : Nat → Prop} {W : World} : ∀ (ns : List Int), RL own W (ns.map (fun n => Value.int .i64 n)) (ns.map (fun n => D.s (.int .i64 n)))
  | [] => .nil
  | n :: ns => .cons (.s rfl) (RL.ints ns)
theorem RL.cs6 {own : Nat → Prop} {W : World} (x : RV) : RL own W x.cs x.row := RL.ints [x.s, x.p, x.r, x.f, x.i, x.x]
theorem RL.app2 {own : Nat → Prop} {W : World} : ∀ {us vs : List Value} {xs ys : List D}, RL own W us xs → RL own W vs ys → RL own W (us ++ vs) (xs ++ ys)
  | _, _, _, _, .nil, h => h
  | _, _, _, _, .cons h t, h' => .cons h (RL.app2 t h')
theorem int_cell {fuel : Nat} {cs : List Value} {x : DataW H × List MemPlace} (h : DataW.trod enc Try.prog w base spare held fuel 3 cs = some x) : ∃ n : Int, cs = [.int .i64 n] := by
  obtain ⟨n, h1, _⟩ := DataW.trod_int Try.underlying3 h
  exact ⟨n, h1⟩
theorem rg_cells {fuel : Nat} {cs : List Value} {x : DataW H × List MemPlace} (h : DataW.trod enc Try.prog w base spare held fuel 23 cs = some x) : ∃ y : RV, cs = y.cs := by
  obtain ⟨hf, _⟩ := trod_flat R6 Try.underlying23 (by kernel_rfl) (by kernel_rfl) (by kernel_rfl) h
  exact flat6 hf
theorem g_cells : ∀ (fuel : Nat) (cs : List Value) (x : DataW H × List MemPlace), DataW.trod enc Try.prog w base spare held fuel 26 cs = some x → ∃ t : GT, RL (fun _ => False) w cs t.td.row := by
  intro fuel
  induction fuel using Nat.strongRecOn with
  | ind fuel ih =>
  intro cs x h
  obtain ⟨xs, n, hn, hx, hlen, hl, hg⟩ := DataW.trod_struct Try.underlying26 h
  have h11 : Try.prog.cellsOf 26 = 11 := by kernel_rfl
  rw [h11] at hlen
  have hs : xs.length = 6 := hl
  have ci : Try.prog.cellsOf 3 = 1 := by kernel_rfl
  have cr : Try.prog.cellsOf 23 = 6 := by kernel_rfl
  have ck : Try.prog.cellsOf 24 = 1 := by kernel_rfl
  have g0 : DataW.trod enc Try.prog w base spare held n 3 ((cs.drop 0).take (Try.prog.cellsOf 3)) = xs[0]? := hg 0 _ rfl
  have g1 : DataW.trod enc Try.prog w base spare held n 3 ((cs.drop 1).take (Try.prog.cellsOf 3)) = xs[1]? := hg 1 _ rfl
  have g2 : DataW.trod enc Try.prog w base spare held n 3 ((cs.drop 2).take (Try.prog.cellsOf 3)) = xs[2]? := hg 2 _ rfl
  have g3 : DataW.trod enc Try.prog w base spare held n 3 ((cs.drop 3).take (Try.prog.cellsOf 3)) = xs[3]? := hg 3 _ rfl
  have g4 : DataW.trod enc Try.prog w base spare held n 23 ((cs.drop 4).take (Try.prog.cellsOf 23)) = xs[4]? := hg 4 _ rfl
  have g5 : DataW.trod enc Try.prog w base spare held n 24 ((cs.drop 10).take (Try.prog.cellsOf 24)) = xs[5]? := hg 5 _ rfl
  rw [ci] at g0 g1 g2 g3
  rw [cr] at g4
  rw [ck] at g5
  rw [List.getElem?_eq_getElem (by omega)] at g0 g1 g2 g3 g4 g5
  obtain ⟨a0, h0⟩ := int_cell g0
  obtain ⟨a1, h1⟩ := int_cell g1
  obtain ⟨a2, h2⟩ := int_cell g2
  obtain ⟨a3, h3⟩ := int_cell g3
  obtain ⟨y, hy⟩ := rg_cells g4
  have e : cs = (cs.drop 0).take 1 ++ ((cs.drop 1).take 1 ++ ((cs.drop 2).take 1 ++ ((cs.drop 3).take 1 ++ ((cs.drop 4).take 6 ++ (cs.drop 10).take 1)))) := by
    rw [List.take_of_length_le (l := cs.drop 10) (by simp; omega)]
    have e1 : ∀ (a m : Nat), (cs.drop a).take m ++ cs.drop (a + m) = cs.drop a := fun a m => by
      have := List.take_append_drop m (cs.drop a)
      rwa [List.drop_drop] at this
    rw [e1 4 6, e1 3 1, e1 2 1, e1 1 1, e1 0 1, List.drop_zero]
  obtain ⟨u, rows, hu, hq, hr⟩ := sl_cells (Q := fun row => ∃ t : GT, row = t.td.row) Try.underlying24 h11 (by decide) (fun n' hn' cs' x' h' => by
    obtain ⟨t, ht⟩ := ih n' (by omega) cs' x' h'
    exact ⟨_, ⟨t, rfl⟩, rfl, ht⟩) g5
  have hks : ∃ ks : List GT, rows = GT.rows ks := by
    clear hr
    induction rows with
    | nil => exact ⟨[], rfl⟩
    | cons a l ih2 =>
      obtain ⟨t, rfl⟩ := hq a (List.mem_cons_self ..)
      obtain ⟨ks, rfl⟩ := ih2 (fun row hr => hq row (List.mem_cons_of_mem _ hr))
      exact ⟨t :: ks, rfl⟩
  obtain ⟨ks, rfl⟩ := hks
  refine ⟨.mk a0 a1 a2 a3 y ks, ?_⟩
  rw [e, h0, h1, h2, h3, hy, hu]
  exact .cons (.s rfl) (.cons (.s rfl) (.cons (.s rfl) (.cons (.s rfl) (RL.app2 (RL.cs6 y) (.cons hr .nil)))))
/-- A tree. -/
theorem g_arg (hv : Value.okWide Try.prog w r b0 26 v) (h : DataW.Trod enc Try.prog w base spare held 26 v d p) : ∃ t : GT, RD (fun _ => False) w v (.st t.td.row) := by
  obtain ⟨fuel, hf⟩ := h
  obtain ⟨t, ht⟩ := g_cells fuel _ _ hf
  obtain ⟨xs, rfl, hsz⟩ := okWide_struct Try.underlying26 hv
  have := RD.st ht
  exact ⟨t, this⟩
/-- A region. -/
theorem rg_arg (hv : Value.okWide Try.prog w r b0 23 v) (h : DataW.Trod enc Try.prog w base spare held 23 v d p) : ∃ y : RV, RD (fun _ => False) w v (.st y.row) := by
  obtain ⟨fuel, hf⟩ := h
  obtain ⟨y, hy⟩ := rg_cells hf
  obtain ⟨xs, rfl, hsz⟩ := okWide_struct Try.underlying23 hv
  have hy' : xs.toList = y.cs := hy
  have := RD.st (own := fun _ => False) (W := w) (RL.cs6 y)
  rw [← hy'] at this
  exact ⟨y, by simpa using this⟩
end
end Go.Proofs.Ytmajkjkakciaiaa
