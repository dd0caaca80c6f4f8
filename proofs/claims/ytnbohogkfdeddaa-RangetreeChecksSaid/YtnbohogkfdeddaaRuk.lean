/- Rangetree: what played needs. -/
import Derived.Test.YtnbohogkfdeddaaRuh
import Derived.Test.YtnbohogkfdeddaaRui
import Derived.Test.YtnbohogkfdeddaaRuj
set_option linter.unusedSimpArgs false
set_option linter.unusedVariables false
namespace Go.Proofs.Ytnbohogkfdeddaa
open Go.RowKit

theorem ownR_base {w : World} {b b' : Nat} {v : Value} {l : List RV} (h : ownR w b v l) (hb : b' ≤ b) : ownR w b' v l := by
  refine ⟨h.1, ?_⟩
  rcases h.2 with h1 | ⟨g, cap, cur, h1, h2, h3⟩
  · exact .inl h1
  · exact .inr ⟨g, cap, cur, h1, Nat.le_trans hb h2, h3⟩
theorem blk_isl {w : World} {g : Nat} {x : RV} (b : Blk w g 25 x.cs) : isSl w (.slice (some ⟨g, 0, none⟩) 1 1) 6 [x].length (rF [x]) :=
  ⟨rF_len [x], .inr ⟨g, 0, 1, rfl, Nat.le_refl _, by unfold maxLen; omega, b.lt, fun j hj => by rw [Nat.zero_add, b.cell j]; simp [rF]⟩⟩
/-- Whether the j-th region starts below s, at s. -/
def tB (l : List RV) (j : Nat) (s : Int) : Bool := match l[j]? with
  | some x => decide (x.s < s)
  | none => false
def tE (l : List RV) (j : Nat) (s : Int) : Bool := match l[j]? with
  | some x => x.s == s
  | none => false
theorem tB_in {l : List RV} {j : Nat} {s : Int} (h : j < l.length) : tB l j s = decide ((l[j]).s < s) := by
  unfold tB
  rw [List.getElem?_eq_getElem h]
theorem tB_out {l : List RV} {j : Nat} {s : Int} (h : ¬ j < l.length) : tB l j s = false := by
  unfold tB
  rw [List.getElem?_eq_none (by omega)]
theorem tE_in {l : List RV} {j : Nat} {s : Int} (h : j < l.length) : tE l j s = ((l[j]).s == s) := by
  unfold tE
  rw [List.getElem?_eq_getElem h]
theorem tE_out {l : List RV} {j : Nat} {s : Int} (h : ¬ j < l.length) : tE l j s = false := by
  unfold tE
  rw [List.getElem?_eq_none (by omega)]
theorem tB_t {l : List RV} {j : Nat} {s : Int} (h : tB l j s = true) : ∃ hj : j < l.length, (l[j]).s < s := by
  by_cases hj : j < l.length
  · rw [tB_in hj] at h
    exact ⟨hj, of_decide_eq_true h⟩
  · rw [tB_out hj] at h
    cases h
theorem tB_f {l : List RV} {j : Nat} {s : Int} (h : tB l j s = false) (hj : j < l.length) : s ≤ (l[j]).s := by
  rw [tB_in hj] at h
  have := of_decide_eq_false h
  omega
theorem tE_t {l : List RV} {j : Nat} {s : Int} (h : tE l j s = true) : ∃ hj : j < l.length, (l[j]).s = s := by
  by_cases hj : j < l.length
  · rw [tE_in hj] at h
    exact ⟨hj, by simpa using h⟩
  · rw [tE_out hj] at h
    cases h
theorem tE_f {l : List RV} {j : Nat} {s : Int} (h : tE l j s = false) (hj : j < l.length) : (l[j]).s ≠ s := by
  rw [tE_in hj] at h
  simpa using h
/-- No region starts at s: none below j, not the j-th, and none behind it. -/
theorem none_at {l : List RV} {j : Nat} {s : Int} (ho : ord l) (h1 : ∀ x ∈ l.take j, x.s < s) (h2 : tB l j s = false) (h3 : tE l j s = false) : ∀ x ∈ l, x.s ≠ s := by
  intro x hx
  by_cases hj : j < l.length
  · have e := split_at hj
    rw [e] at hx
    obtain ⟨_, h5⟩ := ord_split ho hj
    have h6 := tB_f h2 hj
    have h7 := tE_f h3 hj
    have h8 := (ho.v _ (List.getElem_mem hj)).2.1
    rcases List.mem_append.1 hx with h | h
    · have := h1 x h; omega
    · rcases List.mem_cons.1 h with h | h
      · rw [h]; exact h7
      · have := h5 x h; unfold RV.e at this; omega
  · rw [List.take_of_length_le (by omega)] at h1
    have := h1 x hx
    omega
theorem take_next {l : List RV} {j : Nat} {s : Int} (h1 : ∀ x ∈ l.take j, x.s < s) (hj : j < l.length) (h2 : (l[j]).s < s) : ∀ x ∈ l.take (j + 1), x.s < s := by
  intro x hx
  rw [List.take_succ_eq_append_getElem hj] at hx
  rcases List.mem_append.1 hx with h | h
  · exact h1 x h
  · rw [List.mem_singleton.1 h]; exact h2
theorem delete_is {A : Nat → Prop} (p : PT) (s : Int) (v : TV) (w : World) (q : PT) (e : Int) (hF : DelF p s = (q, e)) (hA : Up A w) (hp : good p) (ht : isT A w p.bt v) :
    Calls Try.prog 20 #[.agg v.cs.toArray, .int .i64 s] w fun e' w' => ∃ v', e' = .returned (.tuple #[.agg v'.cs.toArray, .int .i64 e]) ∧ isT A w' q.bt v' ∧ Ext w w' := by
  have := delete_P p s v w hA hp ht
  rw [hF] at this
  exact this
theorem insert_is {A : Nat → Prop} (p : PT) (r : RV) (v : TV) (w : World) (q : PT) (e : Int) (hF : InsF p r = (q, e)) (hA : Up A w) (hp : good p) (ht : isT A w p.bt v) :
    Calls Try.prog 15 #[.agg v.cs.toArray, .agg r.cs.toArray] w fun e' w' => ∃ v', e' = .returned (.tuple #[.agg v'.cs.toArray, .int .i64 e]) ∧ isT A w' q.bt v' ∧ Ext w w' := by
  have := insert_P p r v w hA hp ht
  rw [hF] at this
  exact this
/-- What the second inner loop knows: h: an overlap was found, or the region is not valid. -/
structure Scan (l : List RV) (r : RV) (i : Nat) (h : Bool) : Prop where
  f : h = false → vldB r = true ∧ ∀ x ∈ l.take i, meetsB x r = false
  t : h = true → vldB r = false ∨ (vldB r = true ∧ ∃ x ∈ l, meetsB x r = true)
theorem Scan.zero (l : List RV) (r : RV) : Scan l r 0 (!(vldB r)) := by
  cases hv : vldB r with
  | false => exact ⟨fun h => by simp at h, fun _ => .inl hv⟩
  | true => exact ⟨fun _ => ⟨hv, by simp⟩, fun h => by simp at h⟩
theorem Scan.next {l : List RV} {r : RV} {i : Nat} (h : Scan l r i false) (hi : i < l.length) : Scan l r (i + 1) (meetsB l[i] r) := by
  obtain ⟨h1, h2⟩ := h.f rfl
  cases hm : meetsB l[i] r with
  | true => exact ⟨(fun h => by cases h), fun _ => .inr ⟨h1, _, List.getElem_mem hi, hm⟩⟩
  | false =>
    refine ⟨fun _ => ⟨h1, fun x hx => ?_⟩, fun h => by cases h⟩
    rw [List.take_succ_eq_append_getElem hi] at hx
    rcases List.mem_append.1 hx with h | h
    · exact h2 x h
    · rw [List.mem_singleton.1 h]; exact hm
theorem Scan.hit {p : PT} {r : RV} {i : Nat} (h : Scan p.flat r i true) (hp : good p) : ∃ e, InsF p r = (.E, e) ∧ (e == 0) = false := by
  rcases h.t rfl with h | ⟨h1, x, hx, h2⟩
  · exact ⟨2, ins_invP h, rfl⟩
  · exact ⟨7, ins_hitP hp ((vldB_iff r).1 h1) ⟨x, hx, (meetsB_iff x r).1 h2⟩, rfl⟩
theorem Scan.miss {p : PT} {r : RV} {i j : Nat} (h : Scan p.flat r i false) (hp : good p) (hi : ¬ i < p.flat.length) (h1 : ∀ x ∈ p.flat.take j, x.s < r.s) (h2 : tB p.flat j r.s = false) :
    InsF p r = (insP p r, 0) ∧ good (insP p r) ∧ (insP p r).flat = p.flat.take j ++ r :: p.flat.drop j := by
  obtain ⟨h3, h4⟩ := h.f rfl
  rw [List.take_of_length_le (by omega)] at h4
  have hv := (vldB_iff r).1 h3
  have hm : ∀ x ∈ p.flat, ¬ meets x r := fun x hx hh => by
    have := h4 x hx
    rw [(meetsB_iff x r).2 hh] at this
    cases this
  obtain ⟨g1, g2⟩ := ins_okP hp hv hm
  exact ⟨g1, g2, ins_flatP hp hv hm h1 (fun hj => tB_f h2 hj)⟩

end Go.Proofs.Ytnbohogkfdeddaa
