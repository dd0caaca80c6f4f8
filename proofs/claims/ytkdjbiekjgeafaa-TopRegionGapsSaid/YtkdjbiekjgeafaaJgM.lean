/- Trees of an address space are small; free ranges by pages. -/
import Derived.Test.YtkdjbiekjgeafaaQg
import Derived.Test.YtkdjbiekjgeafaaQr
set_option linter.unusedSimpArgs false
set_option linter.unusedVariables false
namespace Go.Proofs.Ytkdjbiekjgeafaa
open Go.RowKit

def PT.gt : PT → GT
  | .E => .mk 0 0 0 0 RV.z []
  | .N l x r => .mk (PT.N l x r).ht (PT.N l x r).fst (PT.N l x r).lst (PT.N l x r).gp x [l.gt, r.gt]
theorem gt_td : ∀ p : PT, p.gt.td = p.td
  | .E => rfl
  | .N l x r => by
    have h1 := gt_td l
    have h2 := gt_td r
    simp only [PT.gt, GT.td, GT.rows, h1, h2]
    rfl
def PT.cnt : PT → Int
  | .E => 1
  | .N l _ r => 1 + l.cnt + r.cnt
theorem cnt_pos : ∀ p : PT, 1 ≤ p.cnt
  | .E => by simp [PT.cnt]
  | .N l _ r => by have := cnt_pos l; have := cnt_pos r; simp only [PT.cnt]; omega
theorem cnt_flat : ∀ p : PT, p.cnt = 2 * p.flat.length + 1
  | .E => rfl
  | .N l x r => by
    have := cnt_flat l
    have := cnt_flat r
    simp only [PT.cnt, PT.flat, List.length_append, List.length_cons]
    omega
theorem nod_cnt : ∀ (p : PT) (lim : Int), p.cnt ≤ lim → nodG p.gt lim = p.cnt
  | .E, lim, h => by simp [PT.gt, nodG, nodL, PT.cnt]
  | .N l x r, lim, h => by
    simp only [PT.cnt] at h ⊢
    have c1 := cnt_pos l
    have c2 := cnt_pos r
    have h1 := nod_cnt l (lim - 1) (by omega)
    have h2 := nod_cnt r (lim - (1 + l.cnt)) (by omega)
    simp only [PT.gt, nodG, nodL, h1]
    rw [if_pos (by omega), if_pos (by omega), h2]
theorem rfew_P {p : PT} (hp : ASP p) : Fn Try.prog 19 [.st p.td.row] (· = .s (.bool true)) := by
  have h := few_G p.gt
  have h12 := hp.n
  have hc := cnt_flat p
  have hf : fewG p.gt = true := by
    unfold fewG
    rw [nod_cnt p 200 (by omega), decide_eq_true_eq]
    omega
  rw [hf, gt_td] at h
  exact h
theorem free_iff {l : List RV} (hl : okl l) {s n : Int} (hn : 1 ≤ n) : freeL l s n = true ↔ ∀ q, s ≤ q → q < s + n → (findV l q).2 = false := by
  rw [freeL, List.all_eq_true]
  constructor
  · intro h q h1 h2
    rw [← Bool.not_eq_true, find_iff hl]
    rintro ⟨x, hx, h3⟩
    have := freeR_iff.1 (h x hx)
    unfold RV.e at this
    omega
  · intro h x hx
    refine freeR_iff.2 ?_
    have bx := chkV_bd (hl.c x hx)
    unfold RV.e
    refine Classical.byContradiction fun hc => ?_
    have h1 : s < x.s + x.p ∧ x.s < s + n := by omega
    by_cases h2 : s ≤ x.s
    · have := h x.s h2 h1.2
      rw [(find_iff hl x.s).2 ⟨x, hx, by omega⟩] at this
      cases this
    · have := h s (by omega) (by omega)
      rw [(find_iff hl s).2 ⟨x, hx, by omega⟩] at this
      cases this

end Go.Proofs.Ytkdjbiekjgeafaa
