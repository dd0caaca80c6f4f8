/- What the law on compaction is handed, as data. -/
import Derived.Test.YtohpbfcechbngaaLift
import Derived.Test.YtohpbfcechbngaaCp
set_option linter.unusedSimpArgs false
set_option linter.unusedVariables false
namespace Go.Proofs.Ytohpbfcechbngaa
open Go.ChangeShapes Go.WideShapes Go.ChangeAt Go.RowKit

theorem spot0 {w : World} {a : Addr} {v : Value} (h : w.cell? a = some v) : a = ⟨a.block, a.off, none⟩ ∧ a.block < w.heap.size := by
  refine ⟨?_, ?_⟩
  · unfold World.cell? at h
    split at h
    · split at h
      · simp at h
      · rename_i hs
        cases a with
        | mk b o s => cases s <;> simp_all
    · simp at h
  · unfold World.cell? at h
    split at h
    · rename_i hh
      exact (Array.getElem?_eq_some_iff.1 hh).1
    · simp at h
theorem addr0 (b o j : Nat) : (⟨b, o, none⟩ : Addr).add j = ⟨b, o + j, none⟩ := by
  unfold Addr.add
  split
  · rename_i h; subst h; rfl
  · rfl
/-- A law told as a contract. -/
theorem law_of {P : Program} {K : Nat} {ds : List D} {W : World} {vs : List Value} (h : Fn P K ds (· = .s (.bool true))) (hv : RL (fun _ => False) W vs ds) : Calls P K vs.toArray W (fun e W' => e = .returned (.bool true) ∧ Ext W W') :=
  (h.2 (fun _ => False) W vs (fun _ h => h.elim) hv).mono fun e W' ⟨v, x, h1, h2, h3, h4⟩ => by
    subst h2
    cases h4
    exact ⟨h1, h3⟩
section
variable {H : Type} {enc : TypeId × Value → H} {P : Program} {w : World} {base : Nat} {spare : Nat → Bool} {held : Bool} {v : Value} {d : DataW H} {p : List MemPlace} {r : Reach} {b0 : Nat}
/-- A row of things that are told as data. -/
theorem sl_cells {t e m : Nat} {Q : List D → Prop} {fuel : Nat} {cs : List Value} {x : DataW H × List MemPlace} (ht : P.underlying t = some (.slice e)) (hm : P.cellsOf e = m) (h0 : 0 < m)
    (hel : ∀ (n : Nat), n < fuel → ∀ (cs : List Value) (x : DataW H × List MemPlace), DataW.trod enc P w base spare held n e cs = some x → ∃ row : List D, Q row ∧ row.length = m ∧ RL (fun _ => False) w cs row)
    (h : DataW.trod enc P w base spare held fuel t cs = some x) : ∃ (u : Value) (rows : List (List D)), cs = [u] ∧ (∀ row ∈ rows, Q row) ∧ RD (fun _ => False) w u (.l rows) := by
  rcases DataW.trod_slice ht h with ⟨hc, _⟩ | ⟨a, len, cap, elems, rest, n', hn', hc, _, hb, hle, hml, hlen2, hel2, _, _⟩
  · exact ⟨_, [], hc, (fun _ h => by cases h), .nl⟩
  · by_cases hz : len = 0
    · subst hz
      exact ⟨_, [], hc, (fun _ h => by cases h), .nl⟩
    · have cell : ∀ i, i < len → ∃ (cs' : List Value) (row : List D), (∀ j, j < m → w.cell? (a.add (i * m + j)) = cs'[j]?) ∧ Q row ∧ row.length = m ∧ RL (fun _ => False) w cs' row := by
        intro i hi
        have h6 := hel2 i hi
        rw [List.getElem?_eq_getElem (by omega), hm] at h6
        obtain ⟨cs', h7, h8⟩ := Option.bind_eq_some_iff.1 h6
        obtain ⟨row, h9, h10, h11⟩ := hel n' (by omega) cs' _ h8
        refine ⟨cs', row, fun j hj => ?_, h9, h10, h11⟩
        obtain ⟨_, _, h12⟩ := World.cells?_some h7
        have h13 := h12 j hj
        rw [Go.Deep.add_add] at h13
        exact h13
      obtain ⟨c0, row0, hc0, _, hr0, hl0⟩ := cell 0 (by omega)
      have hlc := hl0.len
      have hx0 : w.cell? a = some (c0[0]'(by omega)) := by
        have h14 := hc0 0 (by omega)
        rw [List.getElem?_eq_getElem (by omega)] at h14
        simpa [Addr.add] using h14
      obtain ⟨ha, hbl⟩ := spot0 hx0
      have hch : ∀ i, ∃ (cr : List Value × List D), i < len → (∀ j, j < m → w.cell? (a.add (i * m + j)) = cr.1[j]?) ∧ Q cr.2 ∧ cr.2.length = m ∧ RL (fun _ => False) w cr.1 cr.2 := by
        intro i
        by_cases hi : i < len
        · obtain ⟨c, rw_, h1, h2, h3, h4⟩ := cell i hi
          exact ⟨(c, rw_), fun _ => ⟨h1, h2, h3, h4⟩⟩
        · exact ⟨([], []), fun h => absurd h hi⟩
      obtain ⟨F, hF⟩ := Classical.axiomOfChoice hch
      have hget : ∀ (i : Nat) (row : List D), ((List.range len).map fun i => (F i).2)[i]? = some row → i < len ∧ row = (F i).2 := by
        intro i row hi
        rw [List.getElem?_map] at hi
        by_cases hl : i < len
        · rw [List.getElem?_range hl] at hi
          exact ⟨hl, by simpa using hi.symm⟩
        · rw [List.getElem?_eq_none (by simpa using hl)] at hi
          cases hi
      refine ⟨_, (List.range len).map fun i => (F i).2, hc, fun row hr => ?_, ?_⟩
      · obtain ⟨i, hi, rfl⟩ := List.mem_map.1 hr
        exact (hF i (by simpa using hi)).2.1
      · rw [ha]
        refine RD.l (m := m) (fun i => (F i).1) (by simp) hle hml hbl (fun h => h) (fun i row hi => ?_) (fun i row hi => ?_) (fun i row hi => ?_)
        · obtain ⟨hl, rfl⟩ := hget i row hi
          exact (hF i hl).2.2.1
        · obtain ⟨hl, rfl⟩ := hget i row hi
          obtain ⟨h1, _, h3, h4⟩ := hF i hl
          intro j u hu
          have hj : j < m := by
            have h5 := (List.getElem?_eq_some_iff.1 hu).1
            rw [h4.len, h3] at h5
            exact h5
          have h6 := h1 j hj
          rw [ha, hu] at h6
          rw [← h6, addr0, Nat.add_assoc]
        · obtain ⟨hl, rfl⟩ := hget i row hi
          exact (hF i hl).2.2.2
end
section
variable {H : Type} {enc : TypeId × Value → H} {w : World} {base : Nat} {spare : Nat → Bool} {held : Bool} {v : Value} {d : DataW H} {p : List MemPlace} {r : Reach} {b0 : Nat}
theorem u8_wf {n : Int} (h : (Lit.int .u8 n).wf = true) : 0 ≤ n ∧ n ≤ 255 := by
  simp only [Lit.wf, Bool.and_eq_true, decide_eq_true_eq] at h
  exact h
theorem u8s_arg (hv : Value.okWide Try.prog w r b0 22 v) (h : DataW.Trod enc Try.prog w base spare held 22 v d p) : ∃ l : List Int, (∀ x ∈ l, 0 ≤ x ∧ x < 256) ∧ RD (fun _ => False) w v (.l (u8R l)) := by
  obtain ⟨fuel, hf⟩ := h
  obtain ⟨u, rows, hu, hq, hr⟩ := sl_cells (Q := fun row => ∃ o : Int, (0 ≤ o ∧ o < 256) ∧ row = [.s (.int .u8 o)]) (m := 1) Try.underlying22 (by kernel_rfl) (by decide) (fun n' _ cs' x' h' => by
    obtain ⟨b, rfl, hx, hw⟩ := DataW.trod_int Try.underlying5 h'
    have := u8_wf hw
    exact ⟨_, ⟨b, ⟨by omega, by omega⟩, rfl⟩, rfl, .cons (.s rfl) .nil⟩) hf
  have hks : ∃ l : List Int, (∀ x ∈ l, 0 ≤ x ∧ x < 256) ∧ rows = u8R l := by
    clear hr
    induction rows with
    | nil => exact ⟨[], (fun _ h => by cases h), rfl⟩
    | cons a l ih2 =>
      obtain ⟨t, ht, rfl⟩ := hq a (List.mem_cons_self ..)
      obtain ⟨ks, hks, rfl⟩ := ih2 (fun row hr => hq row (List.mem_cons_of_mem _ hr))
      refine ⟨t :: ks, fun x hx => ?_, rfl⟩
      rcases List.mem_cons.1 hx with rfl | hx
      · exact ht
      · exact hks x hx
  obtain ⟨l, hl, rfl⟩ := hks
  refine ⟨l, hl, ?_⟩
  obtain ⟨ao, n, cap, rfl⟩ := okWide_slice Try.underlying22 hv
  have : [Value.slice ao n cap] = [u] := hu
  cases this
  exact hr
end
end Go.Proofs.Ytohpbfcechbngaa
