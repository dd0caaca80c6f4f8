/- What the calls change of what is seen: plain laws. -/
import Derived.Test.YtjdpignfdncebaaVtM
set_option linter.unusedSimpArgs false
set_option linter.unusedVariables false
namespace Go.Proofs.Ytjdpignfdncebaa
open Go.RowKit

theorem flag22 : ∀ n : Fin 16, bits .andNot .i64 (bits .andNot .i64 (n.1 : Int) 2) 2 = bits .andNot .i64 (n.1 : Int) 2 := by decide
theorem andNot2 {x : RV} (hx : chkV x = 0) : bits .andNot .i64 (bits .andNot .i64 x.f 2) 2 = bits .andNot .i64 x.f 2 := by
  have bx := chkV_bd hx
  obtain ⟨m, hm⟩ := nat16 bx.2.2.2.2.1 bx.2.2.2.2.2.1
  rw [hm]
  exact flag22 m
theorem seenR_lo (x : RV) (g q : Int) : seenR (spLo x g) q = seenR x q := rfl
theorem seenR_hi {x : RV} (hx : chkV x = 0) (g q : Int) : seenR (spHi x g) q = seenR x q := by
  have bx := chkV_bd hx
  unfold seenR spHi
  dsimp only
  rw [andNot2 hx]
  by_cases hi : 0 ≤ x.i
  · rw [if_pos hi, if_pos hi, if_neg (by omega)]
    have : x.x + (g - x.s) + q - g = x.x + q - x.s := by omega
    rw [this]
  · rw [if_neg hi, if_neg hi]
theorem inR_lo {x : RV} {g q : Int} : inR (spLo x g) q ↔ x.s ≤ q ∧ q < g := by unfold inR spLo; dsimp only; omega
theorem inR_hi {x : RV} {g q : Int} : inR (spHi x g) q ↔ g ≤ q ∧ q < x.s + x.p := by unfold inR spHi; dsimp only; omega
/-- Cut. -/
theorem seen_cut {x : RV} {g c : Int} (hx : chkV x = 0) (hr : rngV g c = 0) {q : Int} (hq : inR x q) : seenV (cutV x g c).1 q = if g ≤ q ∧ q < g + c then S5.z else seenR x q := by
  have hk := (cut_part hx hr).k
  have hrb := rngV_ok hr
  have bx := chkV_bd hx
  have hq' := hq
  unfold inR at hq'
  have e : (cutV x g c).1 = if x.s + x.p ≤ g ∨ g + c ≤ x.s then [x] else (if x.s < g then [spLo x g] else []) ++ (if g + c < x.s + x.p then [spHi x (g + c)] else []) := by
    have b1 : decide (c < 1) = false := by rw [decide_eq_false_iff_not]; omega
    have b2 : (decide (g < 0) || decide (g > 512) || decide (c > 512 - g)) = false := by simp; omega
    have b0 : (chkV x != 0) = false := by simp [hx]
    unfold cutV
    rw [b0, b1, b2, endV_ok hx]
    by_cases h : x.s + x.p ≤ g ∨ g + c ≤ x.s
    · have b3 : (decide (x.s + x.p ≤ g) || decide (g + c ≤ x.s)) = true := by simpa using h
      rw [b3, if_pos h]; rfl
    · have b3 : (decide (x.s + x.p ≤ g) || decide (g + c ≤ x.s)) = false := by simpa using h
      rw [b3, if_neg h]
      simp only [cond_false]
      unfold cutL
      congr 1
      · by_cases h1 : x.s < g
        · rw [split_in hx h1 (by omega), if_pos h1]; rfl
        · rw [split_out hx (.inl (by omega)), if_neg h1]; rfl
      · by_cases h1 : g + c < x.s + x.p
        · rw [split_in hx (by omega) h1, if_pos h1]; rfl
        · rw [split_out hx (.inr (by omega)), if_neg h1]; rfl
  rw [e] at hk ⊢
  by_cases h : x.s + x.p ≤ g ∨ g + c ≤ x.s
  · rw [if_pos h] at hk ⊢
    rw [seen_in hk (by simp) hq, if_neg (by omega)]
  · rw [if_neg h] at hk ⊢
    by_cases h1 : g ≤ q ∧ q < g + c
    · rw [if_pos h1]
      refine seen_out hk (fun y hy => ?_)
      rcases List.mem_append.1 hy with hy | hy
      · split at hy
        · simp at hy; subst hy; rw [inR_lo]; omega
        · simp at hy
      · split at hy
        · simp at hy; subst hy; rw [inR_hi]; omega
        · simp at hy
    · rw [if_neg h1]
      by_cases h2 : q < g
      · rw [if_pos (by omega)] at hk ⊢
        rw [seen_in hk (x := spLo x g) (by simp) (inR_lo.2 (by omega)), seenR_lo]
      · rw [if_pos (c := g + c < x.s + x.p) (by omega)] at hk ⊢
        rw [seen_in hk (x := spHi x (g + c)) (by simp) (inR_hi.2 (by omega)), seenR_hi hx]
theorem seen_unmap {p : PT} (hp : ASP p) {g c : Int} (h : (unmapT p g c).2 = 0) (q : Int) : seenV (unmapT p g c).1.flat q = if g ≤ q ∧ q < g + c then S5.z else seenV p.flat q := by
  unfold unmapT at h ⊢
  by_cases hr : rngV g c = 0
  · rw [if_pos hr] at h ⊢
    have hf : ∀ x ∈ p.flat, part x ((fun r => (cutV r g c).1) x) := fun x hx => cut_part (hp.l.c x hx) hr
    have hk : okl (cutA g c p.flat) := okl_cat hp.l hf
    rw [seen_resT hk h]
    rcases seen_cat hp.l hf q with ⟨x, hx, hxq, e1, e2⟩ | ⟨_, e1, e2⟩
    · show seenV (cat _ p.flat) q = _
      rw [e2, e1]
      exact seen_cut (hp.l.c x hx) hr hxq
    · show seenV (cat _ p.flat) q = _
      rw [e2, e1]
      split <;> rfl
  · rw [if_neg hr] at h; exact absurd h hr
/-- Map. -/
theorem seen_ins {l : List RV} {r : RV} {i : Nat} (hl : okl l) (hk : okl (insAt l i r)) (q : Int) : seenV (insAt l i r) q = if r.s ≤ q ∧ q < r.s + r.p then seenR r q else seenV l q := by
  have hmem : ∀ y, y ∈ insAt l i r ↔ y = r ∨ y ∈ l := fun y => by
    unfold insAt
    rw [List.mem_append, List.mem_cons]
    constructor
    · rintro (h | h | h)
      · exact .inr (List.mem_of_mem_take h)
      · exact .inl h
      · exact .inr (List.mem_of_mem_drop h)
    · rintro (h | h)
      · exact .inr (.inl h)
      · rw [← List.take_append_drop i l, List.mem_append] at h
        rcases h with h | h
        · exact .inl h
        · exact .inr (.inr h)
  by_cases h : r.s ≤ q ∧ q < r.s + r.p
  · rw [if_pos h, seen_in hk ((hmem r).2 (.inl rfl)) h]
  · rw [if_neg h]
    refine seen_same hl hk (fun x hx hxq => ⟨x, (hmem x).2 (.inr hx), hxq, rfl⟩) (fun y hy hyq => ?_)
    rcases (hmem y).1 hy with rfl | hy
    · exact absurd hyq h
    · exact ⟨y, hy, hyq⟩
theorem seen_map {p : PT} (hp : ASP p) {r : RV} (h : (mapT p r).2 = 0) (q : Int) : seenV (mapT p r).1.flat q = if r.s ≤ q ∧ q < r.s + r.p then seenR r q else seenV p.flat q := by
  unfold mapT at h ⊢
  by_cases h1 : chkV r = 0
  · rw [if_pos h1] at h ⊢
    by_cases h2 : p.flat.any (fun x => ovlV x r) = true
    · rw [if_pos h2] at h; cases h
    · rw [if_neg h2] at h ⊢
      have hk := insAt_ok hp.l h1 (fun x hx => by rw [← Bool.not_eq_true]; exact fun e => h2 (List.any_eq_true.2 ⟨x, hx, e⟩))
      rw [seen_resT hk h, seen_ins hp.l hk]
  · rw [if_neg h1] at h; exact absurd h h1

/-- Changed parts: what is seen of the pages in the range is turned, the rest stays. -/
theorem seen_chg {oth : RV → Bool} {tr : RV → RV} {τ : S5 → S5} (ht : keepsT tr) {x : RV} {g c q : Int} (hx : chkV x = 0) (hc : 1 ≤ c) (hq : inR x q)
    (h1 : oth x = false → τ (seenR x q) = seenR x q) (h2 : oth x = true → ∀ y, chkV y = 0 → (y.f = x.f ∨ y.f = bits .andNot .i64 x.f 2) → seenR (tr y) q = τ (seenR y q)) :
    seenV (chgL oth tr g c x) q = if g ≤ q ∧ q < g + c then τ (seenR x q) else seenR x q := by
  have hk := (chg_part ht oth (g := g) hx hc).k
  have bx := chkV_bd hx
  have hq' := hq
  unfold inR at hq'
  cases hs : skipB x g c oth with
  | true =>
    have e : chgL oth tr g c x = [x] := by unfold chgL; rw [if_pos hs]
    rw [e] at hk ⊢
    rw [seen_in hk (by simp) hq]
    split
    · rename_i hr
      simp only [skipB, endV_ok hx, Bool.or_eq_true, decide_eq_true_eq] at hs
      rcases hs with hs | hs
      · omega
      · exact (h1 (by simpa using hs)).symm
    · rfl
  | false =>
    have hs2 := hs
    simp only [skipB, endV_ok hx, Bool.or_eq_false_iff, decide_eq_false_iff_not, Bool.not_eq_false'] at hs2
    obtain ⟨⟨s1, s2⟩, s3⟩ := hs2
    have h2 := h2 s3
    have hrt : ∀ y, chkV y = 0 → inR y q → inR (tr y) q := fun y hy h => by
      have := (ht y hy).2
      unfold inR at *
      omega
    have e : chgL oth tr g c x = (divP x g c).map (selT tr) := by unfold chgL; rw [if_neg (by rw [hs]; decide)]; rfl
    rw [e] at hk ⊢
    unfold divP divH divR at hk ⊢
    by_cases h3 : x.s < g
    · rw [split_in hx h3 (by omega)] at hk ⊢
      simp only [if_true, List.map_cons] at hk ⊢
      have q1 := spLo_ok hx h3 (by omega)
      have q2 := spHi_ok hx h3 (by omega)
      have e3 : (spHi x g).s = g := rfl
      have e4 : (spHi x g).p = x.p - (g - x.s) := rfl
      by_cases h4 : g + c < x.s + x.p
      · rw [split_in q2 (by omega) (by omega)] at hk ⊢
        simp only [if_true, List.map_cons, List.map_nil, selT, cond_true, cond_false] at hk ⊢
        by_cases h5 : q < g
        · rw [if_neg (by omega), seen_in hk (x := spLo x g) (by simp) (inR_lo.2 (by omega)), seenR_lo]
        · by_cases h6 : q < g + c
          · have q3 := spLo_ok q2 (g := g + c) (by omega) (by omega)
            rw [if_pos (by omega), seen_in hk (x := tr (spLo (spHi x g) (g + c))) (by simp) (hrt _ q3 (inR_lo.2 (by omega))), h2 _ q3 (.inr rfl), seenR_lo, seenR_hi hx]
          · rw [if_neg (by omega), seen_in hk (x := spHi (spHi x g) (g + c)) (by simp) (inR_hi.2 (by omega)), seenR_hi q2, seenR_hi hx]
      · rw [split_out q2 (.inr (by omega))] at hk ⊢
        simp only [show ((2 : Int) = 0) = False by simp, if_false, List.map_cons, List.map_nil, selT, cond_true, cond_false] at hk ⊢
        by_cases h5 : q < g
        · rw [if_neg (by omega), seen_in hk (x := spLo x g) (by simp) (inR_lo.2 (by omega)), seenR_lo]
        · rw [if_pos (by omega), seen_in hk (x := tr (spHi x g)) (by simp) (hrt _ q2 (inR_hi.2 (by omega))), h2 _ q2 (.inr rfl), seenR_hi hx]
    · rw [split_out hx (.inl (by omega))] at hk ⊢
      simp only [show ((2 : Int) = 0) = False by simp, if_false] at hk ⊢
      by_cases h4 : g + c < x.s + x.p
      · rw [split_in hx (by omega) h4] at hk ⊢
        simp only [if_true, List.map_cons, List.map_nil, selT, cond_true, cond_false] at hk ⊢
        by_cases h6 : q < g + c
        · have q3 := spLo_ok hx (g := g + c) (by omega) h4
          rw [if_pos (by omega), seen_in hk (x := tr (spLo x (g + c))) (by simp) (hrt _ q3 (inR_lo.2 (by omega))), h2 _ q3 (.inl rfl), seenR_lo]
        · rw [if_neg (by omega), seen_in hk (x := spHi x (g + c)) (by simp) (inR_hi.2 (by omega)), seenR_hi hx]
      · rw [split_out hx (.inr (by omega))] at hk ⊢
        simp only [show ((2 : Int) = 0) = False by simp, if_false, List.map_cons, List.map_nil, selT, cond_true, cond_false] at hk ⊢
        rw [if_pos (by omega), seen_in hk (x := tr x) (by simp) (hrt _ hx hq), h2 _ hx (.inl rfl)]
theorem seen_chgT {p : PT} (hp : ASP p) {g c : Int} (hr : rngV g c = 0) {oth : RV → Bool} {tr : RV → RV} {τ : S5 → S5} (ht : keepsT tr) (h : (chgT p g c oth tr).2 = 0) (q : Int)
    (h1 : ∀ x, chkV x = 0 → oth x = false → τ (seenR x q) = seenR x q) (h2 : ∀ x y, chkV x = 0 → oth x = true → chkV y = 0 → (y.f = x.f ∨ y.f = bits .andNot .i64 x.f 2) → seenR (tr y) q = τ (seenR y q)) :
    seenV (chgT p g c oth tr).1.flat q = if g ≤ q ∧ q < g + c then τ (seenV p.flat q) else seenV p.flat q := by
  have hrb := rngV_ok hr
  unfold chgT at h ⊢
  by_cases hc : covV p.flat g c = true
  · rw [if_pos hc] at h ⊢
    have hf : ∀ x ∈ p.flat, part x (chgL oth tr g c x) := fun x hx => chg_part ht oth (hp.l.c x hx) (by omega)
    have hk := okl_cat hp.l hf
    rw [seen_resT hk h]
    rcases seen_cat hp.l hf q with ⟨x, hx, hxq, e1, e2⟩ | ⟨hn, e1, e2⟩
    · have hxk := hp.l.c x hx
      rw [e2, e1]
      exact seen_chg ht hxk (by omega) hxq (h1 x hxk) (fun ho y hy hf => h2 x y hxk ho hy hf)
    · rw [e2, e1, if_neg]
      intro hin
      have := (covV_iff _ _ _).1 hc q hin.1 hin.2
      rw [find_iff hp.l] at this
      obtain ⟨x, hx, hh⟩ := this
      exact hn x hx hh
  · rw [if_neg hc] at h; cases h
def lkS (on : Bool) (s : S5) : S5 := { s with c := bits .andNot .i64 s.c 4 + (if on then 4 else 0) }
theorem flagL : ∀ n : Fin 16, ((bits .and .i64 (n.1 : Int) 4 != 0) = true → bits .andNot .i64 (bits .andNot .i64 (n.1 : Int) 2) 4 + 4 = bits .andNot .i64 (n.1 : Int) 2 ∧ bits .andNot .i64 (bits .xor .i64 (n.1 : Int) 4) 2 = bits .andNot .i64 (bits .andNot .i64 (n.1 : Int) 2) 4) ∧ ((bits .and .i64 (n.1 : Int) 4 != 0) = false → bits .andNot .i64 (bits .andNot .i64 (n.1 : Int) 2) 4 = bits .andNot .i64 (n.1 : Int) 2 ∧ bits .andNot .i64 (bits .xor .i64 (n.1 : Int) 4) 2 = bits .andNot .i64 (bits .andNot .i64 (n.1 : Int) 2) 4 + 4) := by decide
theorem flagK : ∀ n : Fin 16, (bits .and .i64 (bits .andNot .i64 (n.1 : Int) 2) 4 != 0) = (bits .and .i64 (n.1 : Int) 4 != 0) := by decide
theorem seen_prot {p : PT} (hp : ASP p) {g c n : Int} (h : (protT p g c n).2 = 0) (q : Int) : seenV (protT p g c n).1.flat q = if g ≤ q ∧ q < g + c then { seenV p.flat q with b := n } else seenV p.flat q := by
  unfold protT at h ⊢
  by_cases hr : rngV g c = 0
  · rw [if_pos hr] at h ⊢
    by_cases hn : n = 1 ∨ n = 3
    · rw [if_pos hn] at h ⊢
      refine seen_chgT (τ := fun s => { s with b := n }) hp hr (prT_keeps hn) h q (fun x hx ho => ?_) (fun x y hx ho hy hf => rfl)
      have : x.r = n := by simpa using ho
      simp [seenR, this]
    · rw [if_neg hn] at h; cases h
  · rw [if_neg hr] at h; exact absurd h hr
theorem seen_lock {p : PT} (hp : ASP p) {g c : Int} {on : Bool} (h : (lockT p g c on).2 = 0) (q : Int) : seenV (lockT p g c on).1.flat q = if g ≤ q ∧ q < g + c then lkS on (seenV p.flat q) else seenV p.flat q := by
  unfold lockT at h ⊢
  by_cases hr : rngV g c = 0
  · rw [if_pos hr] at h ⊢
    refine seen_chgT (τ := lkS on) hp hr lkT_keeps h q (fun x hx ho => ?_) (fun x y hx ho hy hf => ?_)
    · have bx := chkV_bd hx
      obtain ⟨m, hm⟩ := nat16 bx.2.2.2.2.1 bx.2.2.2.2.2.1
      have fl := flagL m
      rw [← hm] at fl
      unfold lkS seenR
      dsimp only
      cases on with
      | true =>
        have e := (fl.1 (by simpa using ho)).1
        rw [show (if (true = true) then (4 : Int) else 0) = 4 from rfl, e]
      | false =>
        have e := (fl.2 (by simpa using ho)).1
        rw [show (if (false = true) then (4 : Int) else 0) = 0 from rfl, Int.add_zero, e]
    · have bx := chkV_bd hx
      have bY := chkV_bd hy
      obtain ⟨m, hm⟩ := nat16 bx.2.2.2.2.1 bx.2.2.2.2.2.1
      obtain ⟨k, hk⟩ := nat16 bY.2.2.2.2.1 bY.2.2.2.2.2.1
      have fl := flagL k
      rw [← hk] at fl
      have hb : (bits .and .i64 y.f 4 != 0) = (bits .and .i64 x.f 4 != 0) := by
        rcases hf with e | e
        · rw [e]
        · rw [e, hm]; exact flagK m
      unfold lkS lkT seenR
      dsimp only
      cases on with
      | true =>
        have e := (fl.2 (by rw [hb]; simpa using ho)).2
        rw [show (if (true = true) then (4 : Int) else 0) = 4 from rfl, e]
      | false =>
        have e := (fl.1 (by rw [hb]; simpa using ho)).2
        rw [show (if (false = true) then (4 : Int) else 0) = 0 from rfl, Int.add_zero, e]
  · rw [if_neg hr] at h; exact absurd h hr

end Go.Proofs.Ytjdpignfdncebaa
