/- Sets of pages and address spaces: plain laws. -/
import Derived.Test.YtkdjbiekjgeafaaJbM
import Derived.Test.YtkdjbiekjgeafaaQw
import Derived.Test.YtkdjbiekjgeafaaJgM
set_option linter.unusedSimpArgs false
set_option linter.unusedVariables false
namespace Go.Proofs.Ytkdjbiekjgeafaa
open Go.RowKit Iv

def nextS (s : List (Int × Int)) (o : OV) : List (Int × Int) := if o.k = 0 then uniL s (oneI (o.r.s, o.r.s + o.r.p)) else if o.k = 1 then cutI s (oneI (o.g, o.g + o.c)) else s
def mpT (z : PT × List (Int × Int)) (o : OV) : PT × List (Int × Int) := if o.k = 4 then z else if (doT z.1 o).2 = 0 then ((doT z.1 o).1, nextS z.2 o) else z
def runM (l : List OV) (i : Nat) : PT × List (Int × Int) := (l.take i).foldl mpT (.E, [])
structure MOK (p : PT) (s : List (Int × Int)) : Prop where
  hp : ASP p
  hs : Asc none s
  hm : ∀ q, Iv.inI s q = (findV p.flat q).2
theorem in_one {f t q : Int} (h : f ≤ t) : Iv.inI (oneI (f, t)) q = (decide (f ≤ q) && decide (q < t)) := by
  unfold oneI
  by_cases e : f = t
  · rw [if_pos e, inI_nil]
    subst e
    symm
    rw [Bool.and_eq_false_iff, decide_eq_false_iff_not, decide_eq_false_iff_not]
    omega
  · rw [if_neg e, inI_cons, inI_nil, Bool.or_false]
theorem find_a (l : List RV) (q : Int) : (findV l q).2 = decide ((seenV l q).a = 1) := by
  rw [seenV_a]
  cases (findV l q).2 <;> rfl
theorem mpT_ok {p : PT} {s : List (Int × Int)} (h : MOK p s) (o : OV) : MOK (mpT (p, s) o).1 (mpT (p, s) o).2 := by
  unfold mpT
  by_cases h4 : o.k = 4
  · rw [if_pos h4]; exact h
  · rw [if_neg h4]
    dsimp only
    by_cases h0 : (doT p o).2 = 0
    · rw [if_pos h0]
      have hs := fun q => seen_do h.hp h4 q
      simp only [if_pos h0] at hs
      have ha := ask_ok h4 h0
      have hasp := doT_asp h.hp o
      refine ⟨hasp, ?_, fun q => ?_⟩
      · unfold nextS
        dsimp only
        split
        · rename_i k0
          rcases ha with ⟨_, hr⟩ | ⟨k, _⟩
          · have := chkV_bd hr
            exact (uni_spec h.hs (one_asc (by omega))).1
          · omega
        · split
          · rename_i k1
            rcases ha with ⟨k, _⟩ | ⟨_, hr⟩
            · omega
            · have := rngV_ok hr
              exact (cut_spec s _ none none h.hs (one_asc (by omega))).1
          · exact h.hs
      · dsimp only
        rw [find_a, hs q]
        have hm := h.hm q
        rw [find_a] at hm
        unfold nextS wantV
        rcases ha with ⟨k0, hr⟩ | ⟨k, hr⟩
        · have := chkV_bd hr
          rw [if_pos k0, if_pos k0, (uni_spec h.hs (one_asc (by omega))).2, in_one (by omega), hm]
          by_cases hq : o.r.s ≤ q ∧ q < o.r.s + o.r.p
          · rw [if_pos hq]
            simp [hq.1, hq.2, seenR]
          · rw [if_neg hq]
            have : (decide (o.r.s ≤ q) && decide (q < o.r.s + o.r.p)) = false := by
              rw [Bool.and_eq_false_iff, decide_eq_false_iff_not, decide_eq_false_iff_not]; omega
            rw [this, Bool.or_false]
        · have hrb := rngV_ok hr
          rw [if_neg (by omega), if_neg (c := o.k = 0) (by omega)]
          rcases k with k | k | k
          · rw [if_pos k, if_pos k, (cut_spec s _ none none h.hs (one_asc (by omega))).2, in_one (by omega), hm]
            by_cases hq : o.g ≤ q ∧ q < o.g + o.c
            · rw [if_pos hq]
              simp [hq.1, hq.2, S5.z]
            · rw [if_neg hq]
              have : (decide (o.g ≤ q) && decide (q < o.g + o.c)) = false := by
                rw [Bool.and_eq_false_iff, decide_eq_false_iff_not, decide_eq_false_iff_not]; omega
              rw [this]
              simp
          · rw [if_neg (by omega), if_neg (by omega), if_pos k, hm]
            split <;> rfl
          · rw [if_neg (by omega), if_neg (by omega), if_neg (by omega), if_pos k, hm]
            split <;> rfl
    · rw [if_neg h0]; exact h
theorem mpT_len (z : PT × List (Int × Int)) (hz : Asc none z.2) (o : OV) : (mpT z o).2.length ≤ z.2.length + 1 := by
  unfold mpT
  split
  · omega
  · split
    · unfold nextS
      dsimp only
      split
      · have := uni_len z.2 (oneI (o.r.s, o.r.s + o.r.p))
        have := oneI_le (o.r.s, o.r.s + o.r.p)
        omega
      · split
        · have := cut_len z.2 (oneI (o.g, o.g + o.c)) none hz
          have := oneI_le (o.g, o.g + o.c)
          omega
        · omega
    · omega
theorem runM_step {l : List OV} {i : Nat} {o : OV} (h : l[i]? = some o) : runM l (i + 1) = mpT (runM l i) o := by
  unfold runM
  rw [take_snoc h, List.foldl_append]
  rfl
theorem runM_ok (l : List OV) : ∀ i, i ≤ l.length → MOK (runM l i).1 (runM l i).2 ∧ (runM l i).2.length ≤ i
  | 0, _ => by
    refine ⟨⟨by simpa [runM] using ASP.E, by simp [runM, Asc], fun q => ?_⟩, by simp [runM]⟩
    simp [runM, inI_nil, findV, nextV, PT.flat]
  | i + 1, h => by
    obtain ⟨h1, h2⟩ := runM_ok l i (by omega)
    rw [runM_step (List.getElem?_eq_getElem (by omega))]
    have h3 := mpT_ok h1 (l[i]'(by omega))
    have h4 := mpT_len (runM l i) h1.hs (l[i]'(by omega))
    exact ⟨h3, by omega⟩
/-- The set of the pages of a list of regions. -/
def covS (l : List RV) : List (Int × Int) := l.foldl (fun s x => uniL s (oneI (x.s, x.s + x.p))) []
theorem covS_ok : ∀ (l : List RV) (s : List (Int × Int)), (∀ x ∈ l, chkV x = 0) → Asc none s → Asc none (l.foldl (fun s x => uniL s (oneI (x.s, x.s + x.p))) s) ∧ (∀ q, Iv.inI (l.foldl (fun s x => uniL s (oneI (x.s, x.s + x.p))) s) q = (Iv.inI s q || l.any (fun x => decide (x.s ≤ q) && decide (q < x.s + x.p)))) ∧ (l.foldl (fun s x => uniL s (oneI (x.s, x.s + x.p))) s).length ≤ s.length + l.length
  | [], s, _, h => ⟨h, fun q => by simp, by simp⟩
  | x :: l, s, hv, h => by
    have bx := chkV_bd (hv x (by simp))
    obtain ⟨u1, u2⟩ := uni_spec h (one_asc (f := x.s) (t := x.s + x.p) (by omega))
    obtain ⟨g1, g2, g3⟩ := covS_ok l _ (fun y hy => hv y (by simp [hy])) u1
    have := uni_len s (oneI (x.s, x.s + x.p))
    have := oneI_le (x.s, x.s + x.p)
    refine ⟨g1, fun q => ?_, by simp only [List.foldl_cons, List.length_cons]; omega⟩
    rw [List.foldl_cons, g2, u2, in_one (by omega), List.any_cons, Bool.or_assoc]
theorem cov_set {p : PT} {s : List (Int × Int)} (h : MOK p s) : covS p.flat = s := by
  obtain ⟨g1, g2, _⟩ := covS_ok p.flat [] (fun x hx => h.hp.l.c x hx) (by simp [Asc])
  refine g1.uniq h.hs (fun q => ?_)
  rw [g2, h.hm, inI_nil, Bool.false_or, Bool.eq_iff_iff, find_iff h.hp.l, List.any_eq_true]
  simp
/-! The first gap. -/
theorem run_one {n : Int} (hn : 1 ≤ n) : ∀ {L : List (Int × Int)} {p : Option Int} {s : Int}, Asc p L → (∀ q, s ≤ q → q < s + n → Iv.inI L q = true) → ∃ x ∈ L, x.1 ≤ s ∧ s + n ≤ x.2
  | [], _, s, _, h => by have := h s (by omega) (by omega); rw [inI_nil] at this; cases this
  | (c, d) :: L, p, s, ha, h => by
    have hA := ha
    unfold Asc at hA
    have ha2 : Asc (some d) L := hA.2.2
    have h0 := h s (by omega) (by omega)
    rw [inI_cons, Bool.or_eq_true, Bool.and_eq_true, decide_eq_true_eq, decide_eq_true_eq] at h0
    rcases h0 with ⟨h1, h2⟩ | h1
    · dsimp only at h1 h2
      by_cases h3 : s + n ≤ d
      · exact ⟨(c, d), by simp, h1, h3⟩
      · have h4 := h d (by omega) (by omega)
        rw [inI_cons, Bool.or_eq_true, Bool.and_eq_true, decide_eq_true_eq, decide_eq_true_eq] at h4
        rcases h4 with ⟨_, h5⟩ | h5
        · dsimp only at h5; omega
        · have := ha2.lt h5; omega
    · have h6 := ha2.lt h1
      obtain ⟨x, hx, h7⟩ := run_one hn ha2 (s := s) (fun q q1 q2 => by
        have h4 := h q q1 q2
        rw [inI_cons, Bool.or_eq_true, Bool.and_eq_true, decide_eq_true_eq, decide_eq_true_eq] at h4
        rcases h4 with ⟨_, h5⟩ | h5
        · dsimp only at h5; omega
        · exact h5)
      exact ⟨x, by simp [hx], h7⟩

end Go.Proofs.Ytkdjbiekjgeafaa
