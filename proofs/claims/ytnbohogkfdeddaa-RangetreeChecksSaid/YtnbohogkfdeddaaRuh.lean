/- Rangetree, plain: what Insert and Delete answer, told by lists. -/
import Derived.Test.YtnbohogkfdeddaaRty
set_option linter.unusedSimpArgs false
set_option linter.unusedVariables false
namespace Go.Proofs.Ytnbohogkfdeddaa
open Go.RowKit

theorem aftL_split {A : List RV} {y : RV} {B : List RV} {pg : Int} (hA : ∀ x ∈ A, x.e ≤ pg) (hy : pg < y.e) : aftL (A ++ y :: B) pg = some y := by
  unfold aftL
  rw [List.find?_append, List.find?_cons, decide_eq_true hy]
  have : List.find? (fun x => decide (pg < x.e)) A = none := by
    rw [List.find?_eq_none]
    intro x hx
    have := hA x hx
    simp only [decide_eq_true_eq]
    omega
  rw [this]
  rfl
theorem split_at {l : List RV} {j : Nat} (hj : j < l.length) : l = l.take j ++ l[j] :: l.drop (j + 1) := by
  rw [← List.drop_eq_getElem_cons hj, List.take_append_drop]
theorem ord_split {l : List RV} {j : Nat} (h : ord l) (hj : j < l.length) : (∀ x ∈ l.take j, x.e ≤ l[j].s) ∧ (∀ x ∈ l.drop (j + 1), l[j].e ≤ x.s) := by
  have h2 := h
  rw [split_at hj] at h2
  obtain ⟨_, h3, h4⟩ := ord_append h2
  obtain ⟨_, _, h5⟩ := ord_cons h3
  exact ⟨fun x hx => h4 x hx _ (.head _), fun x hx => h5 x hx⟩
theorem del_hitP {p : PT} {s : Int} (hp : good p) {j : Nat} (hj : j < p.flat.length) (hs : p.flat[j].s = s) :
    DelF p s = (remP p s, 0) ∧ good (remP p s) ∧ (remP p s).flat = p.flat.take j ++ p.flat.drop (j + 1) := by
  obtain ⟨h1, h2⟩ := ord_split hp.o hj
  have hv := hp.o.v p.flat[j] (List.getElem_mem hj)
  have hv' := hv
  obtain ⟨v1, v2, v3, v4⟩ := hv'
  have ha : aftP p s = some p.flat[j] := by
    rw [aft_flat p s hp.o]
    have := aftL_split (A := p.flat.take j) (y := p.flat[j]) (B := p.flat.drop (j + 1)) (pg := s) (fun x hx => by have := h1 x hx; omega) (by unfold RV.e; omega)
    rwa [← split_at hj] at this
  refine ⟨?_, rem_good hp s, ?_⟩
  · unfold DelF
    rw [ha, if_pos ⟨rfl, hs⟩]
  · rw [rem_flat p s hp.o]
    have e := split_at hj
    have hr : remL (p.flat.take j ++ p.flat[j] :: p.flat.drop (j + 1)) s = p.flat.take j ++ p.flat.drop (j + 1) := by
      rw [remL_app, remL_cons, if_pos hs, remL_none (l := p.flat.take j), remL_none (l := p.flat.drop (j + 1))]
      · intro x hx; have := h2 x hx; unfold RV.e at this; omega
      · intro x hx; have := h1 x hx; have := (hp.o.v x (List.mem_of_mem_take hx)).2.1; unfold RV.e at *; omega
    rwa [← e] at hr
theorem del_missP {p : PT} {s : Int} (h : ∀ x ∈ p.flat, x.s ≠ s) : DelF p s = (.E, 6) := by
  unfold DelF
  rw [if_neg]
  rintro ⟨h1, h2⟩
  cases ha : aftP p s with
  | none => rw [ha] at h1; cases h1
  | some y =>
    rw [ha] at h2
    exact h y (aft_mem p s y ha) h2
theorem ins_invP {p : PT} {r : RV} (h : vldB r = false) : InsF p r = (.E, 2) := by
  unfold InsF
  rw [if_pos h]
theorem aft_le : ∀ (l : List RV) (pg : Int) (x y : RV), ord l → x ∈ l → pg < x.e → aftL l pg = some y → y.s ≤ x.s
  | [], pg, x, y, _, hx, _, _ => by cases hx
  | z :: l, pg, x, y, ho, hx, hp, hy => by
    obtain ⟨hz, hl, hz2⟩ := ord_cons ho
    unfold aftL at hy
    rw [List.find?_cons] at hy
    by_cases c : pg < z.e
    · rw [decide_eq_true c] at hy
      simp only [Option.some.injEq] at hy
      subst hy
      rcases List.mem_cons.1 hx with rfl | hx
      · exact Int.le_refl _
      · exact Int.le_of_lt (apart_lt (hz2 x hx) hz)
    · rw [decide_eq_false c] at hy
      rcases List.mem_cons.1 hx with rfl | hx
      · exact absurd hp c
      · exact aft_le l pg x y hl hx hp hy
theorem ins_hitP {p : PT} {r : RV} (hp : good p) (hv : vld r) (h : ∃ x ∈ p.flat, meets x r) : InsF p r = (.E, 7) := by
  obtain ⟨x, hx, h1, h2⟩ := h
  unfold InsF
  rw [if_neg (by rw [(vldB_iff r).2 hv]; decide)]
  cases ha : aftL p.flat r.s with
  | none =>
    unfold aftL at ha
    rw [List.find?_eq_none] at ha
    have := ha x hx
    simp only [decide_eq_true_eq] at this
    omega
  | some y =>
    have := aft_le p.flat r.s x y hp.o hx h2 ha
    rw [aft_flat p r.s hp.o, ha, if_pos ⟨rfl, by show y.s < r.e; omega⟩]
theorem ins_okP {p : PT} {r : RV} (hp : good p) (hv : vld r) (h : ∀ x ∈ p.flat, ¬ meets x r) : InsF p r = (insP p r, 0) ∧ good (insP p r) := by
  refine ⟨?_, ins_good hp hv h⟩
  unfold InsF
  rw [if_neg (by rw [(vldB_iff r).2 hv]; decide)]
  rw [if_neg]
  rintro ⟨h1, h2⟩
  rw [aft_flat p r.s hp.o] at h1 h2
  cases ha : aftL p.flat r.s with
  | none => rw [ha] at h1; cases h1
  | some y =>
    rw [ha] at h2
    have h3 : y ∈ p.flat := List.mem_of_find?_eq_some ha
    have h4 := List.find?_some ha
    simp only [decide_eq_true_eq] at h4
    exact h y h3 ⟨h2, h4⟩
theorem ins_flatP {p : PT} {r : RV} (hp : good p) (hv : vld r) (h : ∀ x ∈ p.flat, ¬ meets x r) {j : Nat} (h1 : ∀ x ∈ p.flat.take j, x.s < r.s) (h2 : ∀ hj : j < p.flat.length, r.s ≤ p.flat[j].s) :
    (insP p r).flat = p.flat.take j ++ r :: p.flat.drop j := by
  rw [ins_flat p r hp.o]
  by_cases hj : j < p.flat.length
  · have h3 := h2 hj
    have hm := h p.flat[j] (List.getElem_mem hj)
    obtain ⟨v1, v2, v3, v4⟩ := hp.o.v p.flat[j] (List.getElem_mem hj)
    obtain ⟨w1, w2, w3, w4⟩ := hv
    have h4 : r.s < p.flat[j].s := by
      unfold meets RV.e at hm
      omega
    have e := split_at hj
    have := insL_right (p.flat.take j) (p.flat[j] :: p.flat.drop (j + 1)) r (fun y hy => by have := h1 y hy; omega)
    rw [← e] at this
    rw [this, List.drop_eq_getElem_cons hj]
    simp only [insL]
    rw [if_pos h4]
  · have e : p.flat.take j = p.flat := List.take_of_length_le (by omega)
    rw [e] at h1
    rw [e, List.drop_of_length_le (by omega)]
    have := insL_right p.flat [] r (fun y hy => by have := h1 y hy; omega)
    simpa [insL] using this

end Go.Proofs.Ytnbohogkfdeddaa
