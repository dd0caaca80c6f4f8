/- Address spaces: what the calls leave is an address space; Same of lists; what the laws' small functions do. -/
import Derived.Test.YtkdjbiekjgeafaaUzM
set_option linter.unusedSimpArgs false
set_option linter.unusedVariables false
namespace Go.Proofs.Ytkdjbiekjgeafaa
open Go.RowKit

theorem ASP.E : ASP .E := ⟨⟨trivial, ⟨fun x hx => by simp [PT.flat] at hx, .nil⟩⟩, by decide⟩
theorem mapT_asp {p : PT} (hp : ASP p) {r : RV} (h : (mapT p r).2 = 0) : ASP (mapT p r).1 := by
  unfold mapT at h ⊢
  by_cases h1 : chkV r = 0
  · rw [if_pos h1] at h ⊢
    by_cases h2 : p.flat.any (fun x => ovlV x r) = true
    · rw [if_pos h2] at h; cases h
    · rw [if_neg h2] at h ⊢
      refine (resT_asp (insAt_ok hp.l h1 (fun x hx => ?_)) h).1
      rw [← Bool.not_eq_true]
      exact fun e => h2 (List.any_eq_true.2 ⟨x, hx, e⟩)
  · rw [if_neg h1] at h; exact absurd h h1
theorem unmapT_asp {p : PT} (hp : ASP p) {g c : Int} (h : (unmapT p g c).2 = 0) : ASP (unmapT p g c).1 := by
  unfold unmapT at h ⊢
  by_cases h1 : rngV g c = 0
  · rw [if_pos h1] at h ⊢
    exact (resT_asp (okl_cat hp.l (fun x hx => cut_part (hp.l.c x hx) h1)) h).1
  · rw [if_neg h1] at h; exact absurd h h1
theorem chgT_asp {p : PT} (hp : ASP p) {g c : Int} (hr : rngV g c = 0) {oth : RV → Bool} {tr : RV → RV} (hk : keepsT tr) (h : (chgT p g c oth tr).2 = 0) : ASP (chgT p g c oth tr).1 := by
  unfold chgT at h ⊢
  by_cases h1 : covV p.flat g c = true
  · rw [if_pos h1] at h ⊢
    exact (resT_asp (okl_cat hp.l (fun x hx => chg_part hk oth (hp.l.c x hx) (by have := rngV_ok hr; omega))) h).1
  · rw [if_neg h1] at h; cases h
theorem protT_asp {p : PT} (hp : ASP p) {g c n : Int} (h : (protT p g c n).2 = 0) : ASP (protT p g c n).1 := by
  unfold protT at h ⊢
  by_cases h1 : rngV g c = 0
  · rw [if_pos h1] at h ⊢
    by_cases h2 : n = 1 ∨ n = 3
    · rw [if_pos h2] at h ⊢
      exact chgT_asp hp h1 (prT_keeps h2) h
    · rw [if_neg h2] at h; cases h
  · rw [if_neg h1] at h; exact absurd h h1
theorem lockT_asp {p : PT} (hp : ASP p) {g c : Int} {on : Bool} (h : (lockT p g c on).2 = 0) : ASP (lockT p g c on).1 := by
  unfold lockT at h ⊢
  by_cases h1 : rngV g c = 0
  · rw [if_pos h1] at h ⊢
    exact chgT_asp hp h1 lkT_keeps h
  · rw [if_neg h1] at h; exact absurd h h1
theorem growT_asp {p : PT} (hp : ASP p) {g : Int} (h : (growT p g).2 = 0) : ASP (growT p g).1 := by
  unfold growT at h ⊢
  by_cases h1 : g < 0 ∨ 512 ≤ g
  · rw [if_pos h1] at h; cases h
  · rw [if_neg h1] at h ⊢
    by_cases h2 : (nextV p.flat g).2 = true ∧ (nextV p.flat g).1.s ≤ g
    · rw [if_pos h2] at h; cases h
    · rw [if_neg h2] at h ⊢
      by_cases h3 : (nextV p.flat g).2 = false ∨ bits .and .i64 (nextV p.flat g).1.f 2 = 0 ∨ (findV p.flat (g - 1)).2 = true
      · rw [if_pos h3] at h; cases h
      · rw [if_neg h3] at h ⊢
        have hq : (nextV p.flat g).2 = true := by cases hq : (nextV p.flat g).2 with | true => rfl | false => exact absurd (.inl hq) h3
        obtain ⟨g1, g2, _⟩ := growL_ok (by omega) p.flat hp.l hp.f hq (by have : ¬ (nextV p.flat g).1.s ≤ g := fun e => h2 ⟨hq, e⟩; omega) (fun e => h3 (.inr (.inl e))) (fun x hx e => h3 (.inr (.inr ((find_iff hp.l (g - 1)).2 ⟨x, hx, e⟩))))
        obtain ⟨k1, k2, _⟩ := bldT_good _ g1.ord
        refine ⟨k1, ?_⟩
        dsimp only
        rw [k2, chkL_iff]
        exact ⟨g1.c, g2, by rw [growL_len]; exact hp.n⟩

attribute [local irreducible] Wp WL WO fin finB rnd Exit.then Exit.inBlock G GD LT Rd Fn FnB FvB Iter
attribute [local go_sem] RV.row TD.row
def smI (l m : List RV) (i : Nat) : List (Nat × AV) × Bs := ([(5, .d (.s (.int .i64 (i : Int)))), (0, .d (.l (rws l))), (1, .d (.l (rws m)))], [])
def anR (s p r f : Int) : RV := ⟨s, p, r, f, -1, 0⟩
end Go.Proofs.Ytkdjbiekjgeafaa
