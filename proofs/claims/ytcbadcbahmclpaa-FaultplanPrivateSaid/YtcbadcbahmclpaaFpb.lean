/- Layer 26: plain laws: a valid case's plan, what it makes of the case, and how near the end is. -/
import Derived.Test.YtcbadcbahmclpaaFpa
set_option linter.unusedSimpArgs false
set_option linter.unusedVariables false
namespace Go.Proofs.Ytcbadcbahmclpaa
open Go.RowKit

/-- How far a case is from the end. -/
def pagR (c : FC) : Nat := if c.wr && !c.wb then (if c.fu then 2 else 1) else 0
def entR (c : FC) : Nat := if c.en = 2 then (if c.ca then 3 else 4) else if c.en = 0 then (if c.fl && !c.ca then 4 else 3) else pagR c
def rankF (c : FC) : Nat := (if c.bz then 1 else 0) + (if c.tr then 1 else 0) + entR c
theorem rankF_le (c : FC) : rankF c ≤ 6 := by
  have h1 : pagR c ≤ 2 := by unfold pagR; (repeat' split) <;> omega
  have h2 : entR c ≤ 4 := by unfold entR; (repeat' split) <;> omega
  unfold rankF; (repeat' split) <;> omega

/-- The case as it must be, where there is a region. -/
structure Fits (c : FC) : Prop where
  en : c.en = 0 ∨ c.en = 1 ∨ c.en = 2 ∨ c.en = 3
  pt : c.pt = 1 ∨ c.pt = 3
  mi0 : 0 ≤ c.mi
  mi2 : c.mi ≤ 2
  rg : c.rg = true
  f0 : c.fl = false → c.sh = false ∧ c.bh = false ∧ c.bz = false ∧ c.bk = false ∧ c.di = false ∧ c.fu = false
  f1 : 0 < c.mi → c.en = 0
  f2 : c.en = 0 → c.ow = false ∧ c.on = false ∧ (c.fl = true ∨ c.ca = false)
  f3 : (c.en = 1 ∨ c.en = 3) → c.ca = false ∧ (c.fl = true ∨ c.ow = true)
  f4 : c.en = 2 → c.ow = true
  f5 : c.sh = true → c.ow = false
  f6 : c.on = true → c.ow = true
  f7 : c.en = 3 → c.tr = true
  f8 : c.tr = true → (c.en = 0 ∨ c.en = 2) → c.ca = true
  f9 : c.wb = true → c.en = 1 ∧ c.pt = 3 ∧ (c.on = true ∨ c.sh = true ∧ c.di = true)

theorem suit_iff (c : FC) (hp : c.pt = 1 ∨ c.pt = 3) : suitB c = true ↔ ((c.fl = false → c.sh = false ∧ c.bh = false ∧ c.bz = false ∧ c.bk = false ∧ c.di = false ∧ c.fu = false) ∧ (0 < c.mi → c.en = 0) ∧ (c.en = 0 → c.ow = false ∧ c.on = false ∧ (c.fl = true ∨ c.ca = false)) ∧ ((c.en = 1 ∨ c.en = 3) → c.ca = false ∧ (c.fl = true ∨ c.ow = true)) ∧ (c.en = 2 → c.ow = true) ∧ (c.sh = true → c.ow = false) ∧ (c.on = true → c.ow = true) ∧ (c.en = 3 → c.tr = true) ∧ (c.tr = true → (c.en = 0 ∨ c.en = 2) → c.ca = true) ∧ (c.wb = true → c.en = 1 ∧ c.pt = 3 ∧ (c.on = true ∨ c.sh = true ∧ c.di = true))) := by
  have hb : (bits .and .i64 c.pt 2 == 0) = !(c.pt == 3) := by rcases hp with h | h <;> rw [h] <;> decide
  simp only [suitB, brk, List.any_cons, List.any_nil, id, hb, Bool.not_eq_true', Bool.or_eq_false_iff, Bool.or_false]
  refine and_congr ?_ (and_congr ?_ (and_congr ?_ (and_congr ?_ (and_congr ?_ (and_congr ?_ (and_congr ?_ (and_congr ?_ (and_congr ?_ ?_))))))))
  · cases c.fl <;> simp [and_assoc]
  · by_cases h : c.en = 0 <;> simp [h]
  · by_cases h : c.en = 0 <;> cases c.fl <;> simp [h, and_assoc]
  · by_cases h : c.en = 1 <;> by_cases h2 : c.en = 3 <;> cases c.fl <;> simp [h, h2]
  · by_cases h : c.en = 2 <;> simp [h]
  · cases c.sh <;> simp
  · cases c.on <;> simp
  · by_cases h : c.en = 3 <;> simp [h]
  · cases c.tr <;> by_cases h : c.en = 0 <;> by_cases h2 : c.en = 2 <;> simp [h, h2]
  · cases c.wb <;> cases c.on <;> cases c.sh <;> by_cases h : c.en = 1 <;> by_cases h2 : c.pt = 3 <;> simp [h, h2]
theorem fits_of {c : FC} (h : chkF c = 0) (hr : c.rg = true) : Fits c := by
  obtain ⟨h1, h2, h3, h4, h5⟩ := chk_zero h
  obtain ⟨hp, hs⟩ := h5 hr
  obtain ⟨g0, g1, g2, g3, g4, g5, g6, g7, g8, g9⟩ := (suit_iff c hp).1 hs
  exact ⟨by omega, hp, h3, h4, hr, g0, g1, g2, g3, g4, g5, g6, g7, g8, g9⟩
theorem chk_of {c : FC} (h : Fits c) : chkF c = 0 := by
  have hs := (suit_iff c h.pt).2 ⟨h.f0, h.f1, h.f2, h.f3, h.f4, h.f5, h.f6, h.f7, h.f8, h.f9⟩
  have := h.en; have := h.mi0; have := h.mi2; have := h.pt; have := h.rg
  unfold chkF
  rw [if_neg (by omega), if_neg (by omega), if_neg (by simp [*]), if_neg (by omega), if_neg (by simp [hs])]

/-- The plan of a fitting case, row by row. -/
theorem plan_fits {c : FC} (h : Fits c) : planF c =
    if c.wr = true ∧ c.pt = 1 then ⟨1, 12, 0, 0, 0⟩ else if c.bh = true ∧ c.ow = false then ⟨1, 14, 0, 0, 0⟩ else if c.en = 1 ∧ (c.wr = false ∨ c.wb = true) then ⟨0, 0, 0, 0, 0⟩
    else if c.bz = true ∧ c.ow = false then ⟨2, 0, 4, 0, 0⟩ else if c.tr = true then ⟨2, 0, 3, 0, 0⟩
    else if c.en = 1 then (if c.ow = true ∧ c.on = true then ⟨8, 0, 0, 0, 0⟩ else if c.ow = true ∨ c.sh = false then ⟨9, 0, 0, 0, 1⟩ else if c.di = false ∧ c.fu = true then ⟨2, 0, 5, 0, 0⟩ else ⟨7, 0, 0, 0, 0⟩)
    else if c.en = 2 then (if c.ca = true then ⟨10, 0, 0, 0, 0⟩ else ⟨11, 0, 0, 0, 1⟩)
    else if c.fl = false then ⟨3, 0, 0, c.mi, 1⟩ else if c.ca = true then ⟨6, 0, 0, c.mi, 0⟩ else if c.bk = false then ⟨4, 0, 0, c.mi, 1⟩ else ⟨5, 0, 0, 0, 1⟩ := by
  have hb : (bits .and .i64 c.pt 2 == 0) = (c.pt == 1) := by rcases h.pt with h | h <;> rw [h] <;> decide
  have hc : copB c = c.ow := by
    have := h.en; have := h.f2; have := h.f4
    unfold copB; grind
  unfold planF
  rw [if_pos (chk_of h)]
  simp only [rulesF, firstF, hb, hc, h.rg, Bool.cond_eq_ite]
  simp only [Bool.not_true, Bool.false_eq_true, if_false, Bool.and_eq_true, beq_iff_eq, Bool.not_eq_true', Bool.or_eq_true, if_true, decide_eq_true_eq]
  by_cases h1 : c.en = 1 <;> by_cases h2 : c.en = 2 <;> simp [h1, h2, and_assoc]

theorem plan_not1 {c : FC} (h : Fits c) (h1 : ¬ (c.wr = true ∧ c.pt = 1)) (h2 : ¬ (c.bh = true ∧ c.ow = false)) : (planF c).a ≠ 1 := by
  rw [plan_fits h, if_neg h1, if_neg h2]
  clear h h1 h2
  (repeat' split) <;> exact of_decide_eq_true rfl

set_option maxHeartbeats 4000000 in
/-- One step of a fitting case. -/
theorem step_fits {c : FC} (h : Fits c) (hd : ¬ ((planF c).a = 0 ∨ (planF c).a = 1)) :
    Fits (stepF (planF c).a (planF c).w c) ∧ rankF (stepF (planF c).a (planF c).w c) < rankF c ∧ (planF (stepF (planF c).a (planF c).w c)).a ≠ 1 := by
  have h1 := h.en; have h2 := h.pt; have h3 := h.mi0; have h4 := h.mi2; have h5 := h.rg
  have g0 := h.f0; have g1 := h.f1; have g2 := h.f2; have g3 := h.f3; have g4 := h.f4; have g5 := h.f5; have g6 := h.f6; have g7 := h.f7; have g8 := h.f8; have g9 := h.f9
  have hv := plan_fits h
  have key : ∀ c' : FC, stepF (planF c).a (planF c).w c = c' → Fits c' → rankF c' < rankF c → (¬ (c'.wr = true ∧ c'.pt = 1)) → (¬ (c'.bh = true ∧ c'.ow = false)) → Fits (stepF (planF c).a (planF c).w c) ∧ rankF (stepF (planF c).a (planF c).w c) < rankF c ∧ (planF (stepF (planF c).a (planF c).w c)).a ≠ 1 := by
    intro c' e f1 f2 f3 f4
    rw [e]
    exact ⟨f1, f2, plan_not1 f1 f3 f4⟩
  have b2 : c.pt = 3 → (bits .and .i64 c.pt 2 != 0) = true := fun e => by rw [e]; decide
  split at hv
  · rw [hv] at hd; simp at hd
  · rename_i n1
    split at hv
    · rw [hv] at hd; simp at hd
    · rename_i n2
      split at hv
      · rw [hv] at hd; simp at hd
      · rename_i n3
        split at hv
        · -- the file is busy
          refine key { c with bz := false } (by rw [hv]; rfl) ?_ ?_ n1 n2
          · constructor <;> grind
          · simp only [rankF, entR, pagR]; grind
        · split at hv
          · refine key { c with tr := false, en := if c.en = 3 then 1 else c.en } (by rw [hv]; rfl) ?_ ?_ n1 n2
            · constructor <;> grind
            · simp only [rankF, entR, pagR]; grind
          · rename_i n4 n5
            split at hv
            · rename_i n6
              split at hv
              · refine key { c with wb := true } (by rw [hv]; rfl) ?_ ?_ n1 n2
                · constructor <;> grind
                · simp only [rankF, entR, pagR]; grind
              · split at hv
                · refine key { c with ow := true, on := true, wb := true } (by rw [hv]; rfl) ?_ ?_ n1 (by grind)
                  · constructor <;> grind
                  · simp only [rankF, entR, pagR]; grind
                · split at hv
                  · refine key { c with fu := false } (by rw [hv]; rfl) ?_ ?_ n1 n2
                    · constructor <;> grind
                    · simp only [rankF, entR, pagR]; grind
                  · refine key { c with di := true, wb := true } (by rw [hv]; rfl) ?_ ?_ n1 n2
                    · constructor <;> grind
                    · simp only [rankF, entR, pagR]; grind
            · rename_i n6
              split at hv
              · rename_i n7
                split at hv
                · refine key { c with en := 1, ca := false, wb := c.on && (bits .and .i64 c.pt 2 != 0) } (by rw [hv]; rfl) ?_ ?_ n1 (by grind)
                  · have : c.pt = 1 → (bits .and .i64 c.pt 2 != 0) = false := fun e => by rw [e]; decide
                    constructor <;> grind
                  · simp only [rankF, entR, pagR]; grind
                · refine key { c with ca := true } (by rw [hv]; rfl) ?_ ?_ n1 n2
                  · constructor <;> grind
                  · simp only [rankF, entR, pagR]; grind
              · rename_i n7
                split at hv
                · refine key { c with en := 1, mi := 0, ow := true, on := true, wb := bits .and .i64 c.pt 2 != 0 } (by rw [hv]; rfl) ?_ ?_ n1 (by grind)
                  · have : c.pt = 1 → (bits .and .i64 c.pt 2 != 0) = false := fun e => by rw [e]; decide
                    constructor <;> grind
                  · simp only [rankF, entR, pagR]; grind
                · split at hv
                  · refine key { c with en := 1, mi := 0, ca := false } (by rw [hv]; rfl) ?_ ?_ n1 (by grind)
                    · constructor <;> grind
                    · simp only [rankF, entR, pagR]; grind
                  · split at hv
                    · refine key { c with ca := true } (by rw [hv]; rfl) ?_ ?_ n1 n2
                      · constructor <;> grind
                      · simp only [rankF, entR, pagR]; grind
                    · refine key { c with ca := true } (by rw [hv]; rfl) ?_ ?_ n1 n2
                      · constructor <;> grind
                      · simp only [rankF, entR, pagR]; grind

end Go.Proofs.Ytcbadcbahmclpaa
