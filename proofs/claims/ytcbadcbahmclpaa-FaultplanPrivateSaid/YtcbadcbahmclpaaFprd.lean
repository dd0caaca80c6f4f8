/- Layer 26: plain facts for the two laws that follow a fault to its end. -/
import Derived.Test.YtcbadcbahmclpaaFpn
set_option linter.unusedSimpArgs false
set_option linter.unusedVariables false
namespace Go.Proofs.Ytcbadcbahmclpaa
open Go.RowKit

/-- Where the loop of FaultplanEnds stands behind k rounds. -/
structure EndsAt (c c' : FC) (k : Nat) : Prop where
  ok : chkF c' = 0
  rk : rankF c' + k ≤ 7
  er : ((planF c').a == 1) = ((planF c).a == 1)
theorem ends_start {c : FC} (h : chkF c = 0) : EndsAt c c 0 := ⟨h, by have := rankF_le c; omega, rfl⟩
theorem rg_of {c : FC} (h : chkF c = 0) (hd : ¬ ((planF c).a = 0 ∨ (planF c).a = 1)) : c.rg = true := by
  cases hr : c.rg
  · exfalso; apply hd; right
    unfold planF; rw [if_pos h]
    simp [rulesF, firstF, hr]
  · rfl
theorem ends_step {c c' : FC} {k : Nat} (h : EndsAt c c' k) (hd : ¬ ((planF c').a = 0 ∨ (planF c').a = 1)) : EndsAt c (aftF c') (k + 1) := by
  obtain ⟨s1, s2, s3⟩ := step_fits (fits_of h.ok (rg_of h.ok hd)) hd
  rw [← aft_ok h.ok] at s1 s2 s3
  refine ⟨chk_of s1, by have := h.rk; omega, ?_⟩
  rw [← h.er]
  have e1 : ((planF c').a == 1) = false := by simp; omega
  have e2 : ((planF (aftF c')).a == 1) = false := by simp; omega
  rw [e1, e2]

/-- Where the loop of FaultplanPrivate stands behind k rounds. -/
structure PrivAt (c c' : FC) (k : Nat) : Prop where
  ok : Fits c'
  rk : rankF c' + k ≤ 7
  sh : c'.sh = c.sh
  di : c.sh = false → c'.di = c.di
theorem priv_start {c : FC} (h : Fits c) : PrivAt c c 0 := ⟨h, by have := rankF_le c; omega, rfl, fun _ => rfl⟩
/-- What the law asks of a round. -/
def privB (c c' : FC) : Bool := !c'.sh && ((planF c').a == 7 || (aftF c').di != c.di) || c'.sh && ((planF c').a == 9 || (aftF c').ow)
theorem priv_no {c c' : FC} {k : Nat} (h : PrivAt c c' k) : privB c c' = false := by
  have hf := h.ok
  have h5 := hf.f5; have h4 := hf.f4; have h0 := hf.f0; have h3 := hf.f3; have h2 := hf.f2
  have hdi := h.di; have hsh := h.sh
  unfold privB
  rw [aft_ok (chk_of hf)]
  have hv := plan_fits hf
  (repeat' split at hv) <;> rw [hv] <;> simp [stepF] <;> grind
theorem priv_step {c c' : FC} {k : Nat} (h : PrivAt c c' k) (hd : ¬ ((planF c').a = 0 ∨ (planF c').a = 1)) : PrivAt c (aftF c') (k + 1) := by
  have hp := priv_no h
  obtain ⟨s1, s2, s3⟩ := step_fits h.ok hd
  have hsh : (stepF (planF c').a (planF c').w c').sh = c'.sh := by
    generalize (planF c').a = a; generalize (planF c').w = v
    unfold stepF
    (repeat' split) <;> rfl
  rw [← aft_ok (chk_of h.ok)] at s1 s2 s3 hsh
  refine ⟨s1, by have := h.rk; omega, by rw [hsh, h.sh], fun e => ?_⟩
  unfold privB at hp
  rw [h.sh, e] at hp
  simp at hp
  exact hp.2

end Go.Proofs.Ytcbadcbahmclpaa
