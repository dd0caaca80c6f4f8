/- An argument that is a slice of structs of flat fields: its rows, and the cells at which they lie. -/
import Derived.Test.YtnbohogkfdeddaaLift
import Derived.Deep.Slices
set_option linter.unusedSimpArgs false
set_option linter.unusedVariables false
namespace Go.Proofs.Ytnbohogkfdeddaa
open Go.ChangeShapes Go.WideShapes Go.ChangeAt Go.RowKit

/-- The slice value v has n elements of m cells each; if there are any, they lie at an address and read xs. -/
def inSl (w : World) (v : Value) (m n : Nat) (xs : List Value) : Prop :=
  xs.length = n * m ∧ ∃ ao cap, v = .slice ao n cap ∧ n ≤ cap ∧ cap ≤ maxLen ∧ (0 < n → ∃ b o, ao = some ⟨b, o, none⟩ ∧ b < w.heap.size ∧ ∀ j, j < n * m → w.cell? ⟨b, o + j, none⟩ = xs[j]?)

theorem flat_get {α : Type} (m : Nat) : ∀ (rows : List (List α)), (∀ r ∈ rows, r.length = m) → ∀ (i : Nat) (hi : i < rows.length) (j : Nat), j < m → rows.flatten[i * m + j]? = (rows[i])[j]?
  | r :: rows, h, 0, _, j, hj => by
    have := h r (by simp)
    simp only [List.flatten_cons, Nat.zero_mul, Nat.zero_add, List.getElem_cons_zero]
    rw [List.getElem?_append_left (by omega)]
  | r :: rows, h, i + 1, hi, j, hj => by
    have hr := h r (by simp)
    simp only [List.flatten_cons, List.getElem_cons_succ]
    have e : (i + 1) * m = i * m + m := Nat.succ_mul i m
    rw [List.getElem?_append_right (by omega)]
    have : (i + 1) * m + j - r.length = i * m + j := by omega
    rw [this]
    exact flat_get m rows (fun x hx => h x (by simp [hx])) i (by simpa using hi) j hj
theorem flat_len {α : Type} (m : Nat) : ∀ (rows : List (List α)), (∀ r ∈ rows, r.length = m) → rows.flatten.length = rows.length * m
  | [], _ => by simp
  | r :: rows, h => by
    have hr := h r (by simp)
    have := flat_len m rows (fun x hx => h x (by simp [hx]))
    simp only [List.flatten_cons, List.length_append, List.length_cons, this, hr]
    rw [Nat.succ_mul]; omega
theorem flatOK_len : ∀ {ks : List (Option IntKind)} {l : List Value}, flatOK ks l → l.length = ks.length
  | [], [], _ => rfl
  | k :: ks, v :: l, h => by simp [flatOK_len h.2]
  | [], v :: l, h => h.elim
  | k :: ks, [], h => h.elim
theorem addr_add (b o j : Nat) : (⟨b, o, none⟩ : Addr).add j = ⟨b, o + j, none⟩ := by
  unfold Addr.add
  split
  · rename_i h; subst h; rfl
  · rfl
theorem spot_none {w : World} {a : Addr} {v : Value} (h : w.cell? a = some v) : a = ⟨a.block, a.off, none⟩ ∧ a.block < w.heap.size := by
  refine ⟨?_, ?_⟩
  · unfold World.cell? at h
    split at h
    · split at h
      · simp at h
      · rename_i hs
        cases a with
        | mk b o s => cases s <;> simp_all
    · simp at h
  · unfold World.cell? at h
    split at h
    · rename_i hh
      exact (Array.getElem?_eq_some_iff.1 hh).1
    · simp at h

theorem open_flats {H : Type} {enc : TypeId × Value → H} {P : Program} {w : World} {base : Nat} {spare : Nat → Bool} {held : Bool} {t e : TypeId} {v : Value} {d : DataW H} {p : List MemPlace} {fs : Array Field} {r : Reach} {b0 : Nat} (ks : List (Option IntKind)) (hks : 0 < ks.length)
    (ht : P.underlying t = some (.slice e)) (hs : P.underlying e = some (.struct fs)) (hone : Go.Deep.oneCellFields P fs = true) (hk : fs.toList.map (fun f => flatKind P f.type) = ks.map some) (hC : P.cellsOf e = fs.size)
    (hv : Value.okWide P w r b0 t v) (h : DataW.Trod enc P w base spare held t v d p) : ∃ rows : List (List Value), (∀ x ∈ rows, flatOK ks x) ∧ inSl w v ks.length rows.length rows.flatten := by
  obtain ⟨ao, n, cap, rfl⟩ := okWide_slice ht hv
  obtain ⟨fuel, hf⟩ := h
  have hcs : (Value.slice ao n cap).cells.toList = [.slice ao n cap] := rfl
  have hkl : ks.length = fs.size := by have := congrArg List.length hk; simpa using this.symm
  rcases Go.Deep.open_slice ht hf with ⟨h0, _⟩ | ⟨a, len, cap', m, n', D, Pl, h1, hb, hle, hml, hm, hx, hi⟩
  · have h0' : Value.slice ao n cap = .slice none 0 0 := by simpa [Value.cells] using h0
    cases h0'
    exact ⟨[], by simp, by simp, none, 0, rfl, Nat.le_refl _, Nat.zero_le _, fun h => by simp at h⟩
  · have h1' : Value.slice ao n cap = .slice (some a) len cap' := by simpa [Value.cells] using h1
    cases h1'
    have hmn : n ≤ m := by rw [hm]; split <;> omega
    have row : ∀ i, i < n → ∃ cs', w.cells? base (a.add (i * P.cellsOf e)) (P.cellsOf e) = some cs' ∧ flatOK ks cs' := by
      intro i hin
      obtain ⟨cs', hc, ht'⟩ := hi i (by omega)
      exact ⟨cs', hc, (trod_flat ks hs hone hk hC ht').1⟩
    let rows : List (List Value) := (List.range n).map fun i => (w.cells? base (a.add (i * P.cellsOf e)) (P.cellsOf e)).getD []
    have hrl : rows.length = n := by simp [rows]
    have hrow : ∀ i (hin : i < n), ∃ cs', rows[i]? = some cs' ∧ w.cells? base (a.add (i * P.cellsOf e)) (P.cellsOf e) = some cs' ∧ flatOK ks cs' := by
      intro i hin
      obtain ⟨cs', hc, hf'⟩ := row i hin
      refine ⟨cs', ?_, hc, hf'⟩
      simp [rows, hin, hc]
    have hok : ∀ x ∈ rows, flatOK ks x := by
      intro x hxr
      obtain ⟨i, hil, rfl⟩ := List.getElem_of_mem hxr
      obtain ⟨cs', h3, _, h5⟩ := hrow i (by omega)
      rw [List.getElem?_eq_getElem hil] at h3
      simp at h3
      rw [h3]; exact h5
    have hlen : ∀ x ∈ rows, x.length = ks.length := fun x hxr => flatOK_len (hok x hxr)
    refine ⟨rows, hok, ?_, some a, cap, by rw [hrl], by omega, hml, fun hpos => ?_⟩
    · rw [flat_len _ rows hlen]
    · rw [hrl] at hpos ⊢
      have hat : ∀ i, i < n → ∀ j, j < ks.length → w.cell? (a.add (i * ks.length + j)) = rows.flatten[i * ks.length + j]? := by
        intro i hin j hj
        obtain ⟨cs', h3, h4, h5⟩ := hrow i hin
        rw [hC, ← hkl] at h4
        obtain ⟨_, _, h6⟩ := World.cells?_some h4
        have h7 := h6 j hj
        rw [Go.Deep.add_add] at h7
        rw [h7, flat_get ks.length rows hlen i (by omega) j hj]
        rw [List.getElem?_eq_getElem (by omega)] at h3
        simp at h3
        rw [h3]
      have h00 := hat 0 hpos 0 hks
      have hx0 : w.cell? a = rows.flatten[0]? := by simpa [Addr.add] using h00
      have hl0 : 0 < rows.flatten.length := by rw [flat_len _ rows hlen, hrl]; exact Nat.mul_pos hpos hks
      rw [List.getElem?_eq_getElem hl0] at hx0
      obtain ⟨ha, hbl⟩ := spot_none hx0
      refine ⟨a.block, a.off, by rw [← ha], hbl, fun j hj => ?_⟩
      have hdm := Nat.div_add_mod j ks.length
      have hjm : j % ks.length < ks.length := Nat.mod_lt _ hks
      have hjd : j / ks.length < n := by
        apply Nat.div_lt_of_lt_mul; rwa [Nat.mul_comm]
      have hfin := hat (j / ks.length) hjd (j % ks.length) hjm
      have e1 : j / ks.length * ks.length + j % ks.length = j := by rw [Nat.mul_comm]; exact hdm
      rw [e1] at hfin
      rw [← hfin, ha]
      simp only
      rw [addr_add]

end Go.Proofs.Ytnbohogkfdeddaa
