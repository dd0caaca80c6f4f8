/- The plain law of the events: what the sequence and the world of four observers have to do with each other, and that every event keeps it. -/
import Derived.Test.YtdghgkajjhcbkaaErb
set_option linter.unusedSimpArgs false
set_option linter.unusedVariables false
namespace Go.Proofs.Ytdghgkajjhcbkaa
open Go.RowKit

/-- The sequence (c, s), the errors E, the seen ones S, what each observer knows (K), has begun (B) and its position (A), after k events. -/
structure OInv (k : Nat) (c : Int) (s : Bool) (E S : Int) (K : Nat → Int) (B : Nat → Bool) (A : Nat → Int) : Prop where
  c0 : 0 ≤ c
  ck : c ≤ k
  s0 : 0 ≤ S
  sE : S ≤ E
  ek : E ≤ k
  seen : s = true → 0 < c
  fr : (0 < c ∧ s = false) ↔ S < E
  each : ∀ i, i < 4 → B i = true → 0 ≤ A i ∧ A i ≤ c ∧ K i ≤ S ∧ (A i < c ↔ K i < E)

def up {α : Type} (f : Nat → α) (i : Nat) (v : α) : Nat → α := fun j => if j = i then v else f j
theorem up_same {α : Type} (f : Nat → α) (i : Nat) (v : α) : up f i v i = v := by simp [up]
theorem up_other {α : Type} (f : Nat → α) {i j : Nat} (v : α) (h : j ≠ i) : up f i v j = f j := by simp [up, h]

section
variable {k : Nat} {c : Int} {s : Bool} {E S : Int} {K : Nat → Int} {B : Nat → Bool} {A : Nat → Int}

theorem OInv.mono {k' : Nat} (h : OInv k c s E S K B A) (hk : k ≤ k') : OInv k' c s E S K B A :=
  ⟨h.c0, by have := h.ck; omega, h.s0, h.sE, by have := h.ek; omega, h.seen, h.fr, h.each⟩

theorem OInv.valid (h : OInv k c s E S K B A) (hk : k ≤ 1073741824) : validB c s = true := by
  have h1 := h.c0; have h2 := h.ck; have h3 := h.seen
  unfold validB
  cases s
  · simp; omega
  · have := h3 rfl; simp; omega

theorem OInv.start : OInv 0 0 false 0 0 (fun _ => 0) (fun _ => false) (fun _ => 0) :=
  ⟨by omega, by simp, by omega, by omega, by simp, by simp, by simp, by simp⟩

/-- An error. -/
theorem OInv.fail (h : OInv k c s E S K B A) (hk : k < 1073741824) : ∃ c' s', setR c s = (c', s', 0) ∧ OInv (k + 1) c' s' (E + 1) S K B A := by
  have hv := h.valid (by omega)
  have h1 := h.c0; have h2 := h.ck; have h3 := h.seen; have h4 := h.fr; have h5 := h.sE; have h6 := h.ek; have h7 := h.s0
  by_cases hf : freshB c s = true
  · have hf' : 0 < c ∧ s = false := by simpa [freshB] using hf
    have hSE := h4.1 hf'
    refine ⟨c, s, by unfold setR; rw [if_pos hv, if_pos hf], h1, by omega, h7, by omega, by omega, h3, ⟨fun _ => by omega, fun _ => hf'⟩, fun i hi hb => ?_⟩
    obtain ⟨a, b, d, e⟩ := h.each i hi hb
    exact ⟨a, b, d, ⟨fun _ => by omega, fun _ => e.2 (by omega)⟩⟩
  · have hf' : ¬ (0 < c ∧ s = false) := by simpa [freshB] using hf
    have hSE : ¬ S < E := fun x => hf' (h4.2 x)
    refine ⟨c + 1, false, by unfold setR; rw [if_pos hv, if_neg hf, if_neg (by omega)], by omega, by omega, h7, by omega, by omega, by simp, ⟨fun _ => by omega, fun _ => ⟨by omega, rfl⟩⟩, fun i hi hb => ?_⟩
    obtain ⟨a, b, d, e⟩ := h.each i hi hb
    exact ⟨a, by omega, d, ⟨fun _ => by omega, fun _ => by omega⟩⟩

/-- Observer j begins. -/
theorem OInv.begin (h : OInv k c s E S K B A) (hk : k < 1073741824) (j : Nat) : ∃ p, samR c s = (p, 0) ∧ OInv (k + 1) c s E S (up K j S) (up B j true) (up A j p) := by
  have hv := h.valid (by omega)
  have h1 := h.c0; have h2 := h.ck; have h3 := h.seen; have h4 := h.fr; have h5 := h.sE; have h6 := h.ek; have h7 := h.s0
  by_cases hf : freshB c s = true
  · have hf' : 0 < c ∧ s = false := by simpa [freshB] using hf
    have hSE := h4.1 hf'
    refine ⟨c - 1, by unfold samR; rw [if_pos hv, if_pos hf], h1, by omega, h7, h5, by omega, h3, h4, fun i hi hb => ?_⟩
    by_cases hij : i = j
    · subst hij; rw [up_same, up_same]; exact ⟨by omega, by omega, by omega, ⟨fun _ => hSE, fun _ => by omega⟩⟩
    · rw [up_other _ _ hij] at hb ⊢; rw [up_other _ _ hij]; exact h.each i hi hb
  · have hf' : ¬ (0 < c ∧ s = false) := by simpa [freshB] using hf
    have hSE : ¬ S < E := fun x => hf' (h4.2 x)
    refine ⟨c, by unfold samR; rw [if_pos hv, if_neg hf], h1, by omega, h7, h5, by omega, h3, h4, fun i hi hb => ?_⟩
    by_cases hij : i = j
    · subst hij; rw [up_same, up_same]; exact ⟨by omega, by omega, by omega, ⟨fun _ => by omega, fun _ => by omega⟩⟩
    · rw [up_other _ _ hij] at hb ⊢; rw [up_other _ _ hij]; exact h.each i hi hb

/-- Observer j asks, and is told. -/
theorem OInv.told (h : OInv k c s E S K B A) (hk : k < 1073741824) (j : Nat) (hj : j < 4) (hb : B j = true) (hK : K j < E) : chkR c s (A j) = (c, true, c, 15) ∧ OInv (k + 1) c true E E (up K j E) B (up A j c) := by
  have hv := h.valid (by omega)
  have h1 := h.c0; have h2 := h.ck; have h3 := h.seen; have h4 := h.fr; have h5 := h.sE; have h6 := h.ek; have h7 := h.s0
  obtain ⟨a, b, d, e⟩ := h.each j hj hb
  have hA := e.2 hK
  refine ⟨by unfold chkR; rw [if_pos hv, if_neg (by omega), if_neg (by omega)], h1, by omega, by omega, by omega, by omega, fun _ => by omega, ⟨fun x => by simp at x, fun x => by omega⟩, fun i hi hbi => ?_⟩
  by_cases hij : i = j
  · subst hij; rw [up_same, up_same]; exact ⟨by omega, by omega, by omega, ⟨fun _ => by omega, fun _ => by omega⟩⟩
  · rw [up_other _ _ hij, up_other _ _ hij]
    obtain ⟨a', b', d', e'⟩ := h.each i hi hbi
    exact ⟨a', b', by omega, e'⟩

/-- Observer j asks, and there is nothing. -/
theorem OInv.none (h : OInv k c s E S K B A) (hk : k < 1073741824) (j : Nat) (hj : j < 4) (hb : B j = true) (hK : ¬ K j < E) : chkR c s (A j) = (c, s, A j, 0) ∧ OInv (k + 1) c s E S (up K j E) B (up A j (A j)) := by
  have hv := h.valid (by omega)
  have h1 := h.c0; have h2 := h.ck; have h3 := h.seen; have h4 := h.fr; have h5 := h.sE; have h6 := h.ek; have h7 := h.s0
  obtain ⟨a, b, d, e⟩ := h.each j hj hb
  have hA : ¬ A j < c := fun x => hK (e.1 x)
  refine ⟨by unfold chkR; rw [if_pos hv, if_neg (by omega), if_pos (by omega)], h1, by omega, h7, h5, by omega, h3, h4, fun i hi hbi => ?_⟩
  by_cases hij : i = j
  · subst hij; rw [up_same, up_same]; exact ⟨a, b, by omega, ⟨fun _ => by omega, fun _ => by omega⟩⟩
  · rw [up_other _ _ hij, up_other _ _ hij]
    exact h.each i hi hbi
end

end Go.Proofs.Ytdghgkajjhcbkaa
