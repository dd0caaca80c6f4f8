/- Rangetree: arguments that are lists of regions, and scripts. -/
import Derived.Test.YtnbohogkfdeddaaSop
import Derived.Test.YtnbohogkfdeddaaRuj
set_option linter.unusedSimpArgs false
set_option linter.unusedVariables false
namespace Go.Proofs.Ytnbohogkfdeddaa
open Go.ChangeShapes Go.WideShapes Go.ChangeAt Go.RowKit

theorem open_rows {H : Type} {enc : TypeId × Value → H} {P : Program} {w : World} {base : Nat} {spare : Nat → Bool} {held : Bool} {t e : TypeId} {v : Value} {d : DataW H} {p : List MemPlace} {r : Reach} {b0 : Nat} (m0 : Nat) (hks : 0 < m0) (G : List Value → Prop)
    (ht : P.underlying t = some (.slice e)) (hG : ∀ (fuel : Nat) (cs : List Value) (x : DataW H × List MemPlace), DataW.trod enc P w base spare held fuel e cs = some x → cs.length = m0 ∧ G cs) (hC : P.cellsOf e = m0)
    (hv : Value.okWide P w r b0 t v) (h : DataW.Trod enc P w base spare held t v d p) : ∃ rows : List (List Value), (∀ x ∈ rows, x.length = m0 ∧ G x) ∧ inSl w v m0 rows.length rows.flatten := by
  obtain ⟨ao, n, cap, rfl⟩ := okWide_slice ht hv
  obtain ⟨fuel, hf⟩ := h
  have hcs : (Value.slice ao n cap).cells.toList = [.slice ao n cap] := rfl
  rcases Go.Deep.open_slice ht hf with ⟨h0, _⟩ | ⟨a, len, cap', m, n', D, Pl, h1, hb, hle, hml, hm, hx, hi⟩
  · have h0' : Value.slice ao n cap = .slice none 0 0 := by simpa [Value.cells] using h0
    cases h0'
    exact ⟨[], by simp, by simp, none, 0, rfl, Nat.le_refl _, Nat.zero_le _, fun h => by simp at h⟩
  · have h1' : Value.slice ao n cap = .slice (some a) len cap' := by simpa [Value.cells] using h1
    cases h1'
    have hmn : n ≤ m := by rw [hm]; split <;> omega
    have row : ∀ i, i < n → ∃ cs', w.cells? base (a.add (i * P.cellsOf e)) (P.cellsOf e) = some cs' ∧ (cs'.length = m0 ∧ G cs') := by
      intro i hin
      obtain ⟨cs', hc, ht'⟩ := hi i (by omega)
      exact ⟨cs', hc, hG _ _ _ ht'⟩
    let rows : List (List Value) := (List.range n).map fun i => (w.cells? base (a.add (i * P.cellsOf e)) (P.cellsOf e)).getD []
    have hrl : rows.length = n := by simp [rows]
    have hrow : ∀ i (hin : i < n), ∃ cs', rows[i]? = some cs' ∧ w.cells? base (a.add (i * P.cellsOf e)) (P.cellsOf e) = some cs' ∧ (cs'.length = m0 ∧ G cs') := by
      intro i hin
      obtain ⟨cs', hc, hf'⟩ := row i hin
      refine ⟨cs', ?_, hc, hf'⟩
      simp [rows, hin, hc]
    have hok : ∀ x ∈ rows, x.length = m0 ∧ G x := by
      intro x hxr
      obtain ⟨i, hil, rfl⟩ := List.getElem_of_mem hxr
      obtain ⟨cs', h3, _, h5⟩ := hrow i (by omega)
      rw [List.getElem?_eq_getElem hil] at h3
      simp at h3
      rw [h3]; exact h5
    have hlen : ∀ x ∈ rows, x.length = m0 := fun x hxr => (hok x hxr).1
    refine ⟨rows, hok, ?_, some a, cap, by rw [hrl], by omega, hml, fun hpos => ?_⟩
    · rw [flat_len _ rows hlen]
    · rw [hrl] at hpos ⊢
      have hat : ∀ i, i < n → ∀ j, j < m0 → w.cell? (a.add (i * m0 + j)) = rows.flatten[i * m0 + j]? := by
        intro i hin j hj
        obtain ⟨cs', h3, h4, h5⟩ := hrow i hin
        rw [hC] at h4
        obtain ⟨_, _, h6⟩ := World.cells?_some h4
        have h7 := h6 j hj
        rw [Go.Deep.add_add] at h7
        rw [h7, flat_get m0 rows hlen i (by omega) j hj]
        rw [List.getElem?_eq_getElem (by omega)] at h3
        simp at h3
        rw [h3]
      have h00 := hat 0 hpos 0 hks
      have hx0 : w.cell? a = rows.flatten[0]? := by simpa [Addr.add] using h00
      have hl0 : 0 < rows.flatten.length := by rw [flat_len _ rows hlen, hrl]; exact Nat.mul_pos hpos hks
      rw [List.getElem?_eq_getElem hl0] at hx0
      obtain ⟨ha, hbl⟩ := spot_none hx0
      refine ⟨a.block, a.off, by rw [← ha], hbl, fun j hj => ?_⟩
      have hdm := Nat.div_add_mod j m0
      have hjm : j % m0 < m0 := Nat.mod_lt _ hks
      have hjd : j / m0 < n := by
        apply Nat.div_lt_of_lt_mul; rwa [Nat.mul_comm]
      have hfin := hat (j / m0) hjd (j % m0) hjm
      have e1 : j / m0 * m0 + j % m0 = j := by rw [Nat.mul_comm]; exact hdm
      rw [e1] at hfin
      rw [← hfin, ha]
      simp only
      rw [addr_add]

theorem sl_of_in {w : World} {v : Value} {m n : Nat} {xs : List Value} (h : inSl w v m n xs) : isSl w v m n xs := by
  obtain ⟨h1, ao, cap, rfl, h2, h3, h4⟩ := h
  refine ⟨h1, ?_⟩
  by_cases h0 : n = 0
  · exact .inl ⟨ao, cap, by rw [h0], h0⟩
  · obtain ⟨b, o, rfl, h5, h6⟩ := h4 (by omega)
    exact .inr ⟨b, o, cap, rfl, h2, h3, h5, h6⟩
def R6 : List (Option IntKind) := [some .i64, some .i64, some .i64, some .i64, some .i64, some .i64]
theorem flat6 {l : List Value} (h : flatOK R6 l) : ∃ x : RV, l = x.cs := by
  unfold R6 at h
  obtain ⟨a, l, rfl, _, h⟩ := flatOK_int h
  obtain ⟨b, l, rfl, _, h⟩ := flatOK_int h
  obtain ⟨c, l, rfl, _, h⟩ := flatOK_int h
  obtain ⟨d, l, rfl, _, h⟩ := flatOK_int h
  obtain ⟨e, l, rfl, _, h⟩ := flatOK_int h
  obtain ⟨f, l, rfl, _, h⟩ := flatOK_int h
  rw [flatOK_nil h]
  exact ⟨⟨a, b, c, d, e, f⟩, rfl⟩
theorem rows_R : ∀ (rows : List (List Value)), (∀ x ∈ rows, flatOK R6 x) → ∃ l : List RV, l.length = rows.length ∧ rows.flatten = rF l
  | [], _ => ⟨[], rfl, rfl⟩
  | r :: rows, h => by
    obtain ⟨x, hx⟩ := flat6 (h r (by simp))
    obtain ⟨l, h1, h2⟩ := rows_R rows (fun y hy => h y (by simp [hy]))
    exact ⟨x :: l, by simp [h1], by rw [List.flatten_cons, h2, hx]; rfl⟩
def GO (cs : List Value) : Prop := ∃ o : OV, cs = o.cs
theorem rows_O : ∀ (rows : List (List Value)), (∀ x ∈ rows, x.length = 7 ∧ GO x) → ∃ l : List OV, l.length = rows.length ∧ rows.flatten = oF l
  | [], _ => ⟨[], rfl, rfl⟩
  | r :: rows, h => by
    obtain ⟨_, x, hx⟩ := h r (by simp)
    obtain ⟨l, h1, h2⟩ := rows_O rows (fun y hy => h y (by simp [hy]))
    exact ⟨x :: l, by simp [h1], by rw [List.flatten_cons, h2, hx]; rfl⟩
section
variable {H : Type} {enc : TypeId × Value → H} {w : World} {base : Nat} {spare : Nat → Bool} {held : Bool} {v : Value} {d : DataW H} {p : List MemPlace} {r : Reach} {b0 : Nat}
/-- A list of regions. -/
theorem rs_arg (hv : Value.okWide Try.prog w r b0 22 v) (h : DataW.Trod enc Try.prog w base spare held 22 v d p) : ∃ l : List RV, isSl w v 6 l.length (rF l) := by
  obtain ⟨rows, h1, h2⟩ := open_flats R6 (by decide) Try.underlying22 Try.underlying25 (by kernel_rfl) (by kernel_rfl) (by kernel_rfl) hv h
  obtain ⟨l, h3, h4⟩ := rows_R rows h1
  refine ⟨l, ?_⟩
  have := sl_of_in h2
  rw [h4, ← h3] at this
  exact this
theorem op_cells (fuel : Nat) (cs : List Value) (x : DataW H × List MemPlace) (h : DataW.trod enc Try.prog w base spare held fuel 38 cs = some x) : cs.length = 7 ∧ GO cs := by
  obtain ⟨xs, n, _, hx, hlen, hl, hg⟩ := DataW.trod_struct Try.underlying38 h
  have h7 : Try.prog.cellsOf 38 = 7 := by kernel_rfl
  rw [h7] at hlen
  refine ⟨hlen, ?_⟩
  have g0 : DataW.trod enc Try.prog w base spare held n 4 ((cs.drop 0).take (Try.prog.cellsOf 4)) = xs[0]? := hg 0 _ rfl
  have g1 : DataW.trod enc Try.prog w base spare held n 25 ((cs.drop 1).take (Try.prog.cellsOf 25)) = xs[1]? := hg 1 _ rfl
  have c0 : Try.prog.cellsOf 4 = 1 := by kernel_rfl
  have c1 : Try.prog.cellsOf 25 = 6 := by kernel_rfl
  have hs : xs.length = 2 := hl
  rw [c0] at g0
  rw [c1] at g1
  rw [List.getElem?_eq_getElem (by omega)] at g0 g1
  obtain ⟨b, hb, _⟩ := DataW.trod_bool Try.underlying4 g0
  obtain ⟨hf, _⟩ := trod_flat R6 Try.underlying25 (by kernel_rfl) (by kernel_rfl) (by kernel_rfl) g1
  obtain ⟨y, hy⟩ := flat6 hf
  refine ⟨⟨b, y⟩, ?_⟩
  have e : cs = (cs.drop 0).take 1 ++ (cs.drop 1).take 6 := by
    rw [List.take_of_length_le (l := cs.drop 1) (by simp; omega), List.drop_zero]
    exact (List.take_append_drop 1 cs).symm
  rw [e]
  rw [hb, hy]
  rfl
/-- A script. -/
theorem os_arg (hv : Value.okWide Try.prog w r b0 36 v) (h : DataW.Trod enc Try.prog w base spare held 36 v d p) : ∃ l : List OV, isSl w v 7 l.length (oF l) := by
  obtain ⟨rows, h1, h2⟩ := open_rows 7 (by decide) GO Try.underlying36 op_cells (by kernel_rfl) hv h
  obtain ⟨l, h3, h4⟩ := rows_O rows h1
  refine ⟨l, ?_⟩
  have := sl_of_in h2
  rw [h4, ← h3] at this
  exact this
end

end Go.Proofs.Ytnbohogkfdeddaa
