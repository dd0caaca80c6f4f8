/- What is seen of pages, of lists of regions: plain laws. -/
import Derived.Test.YtjdpignfdncebaaVsM
import Derived.Test.YtjdpignfdncebaaVqM
set_option linter.unusedSimpArgs false
set_option linter.unusedVariables false
namespace Go.Proofs.Ytjdpignfdncebaa
open Go.RowKit

def S5.z : S5 := ⟨0, 0, 0, 0, 0⟩
def inR (x : RV) (q : Int) : Prop := x.s ≤ q ∧ q < x.s + x.p
theorem seen_in {l : List RV} (hl : okl l) {x : RV} (hx : x ∈ l) {q : Int} (h : inR x q) : seenV l q = seenR x q := by
  unfold seenV
  rw [find_yes hl hx h, if_pos rfl]
theorem seen_out {l : List RV} (hl : okl l) {q : Int} (h : ∀ x ∈ l, ¬ inR x q) : seenV l q = S5.z := by
  unfold seenV
  rw [if_neg]
  · rfl
  · rw [find_iff hl]
    rintro ⟨x, hx, h2⟩
    exact h x hx h2
theorem seen_cases {l : List RV} (hl : okl l) (q : Int) : (∃ x ∈ l, inR x q ∧ seenV l q = seenR x q) ∨ ((∀ x ∈ l, ¬ inR x q) ∧ seenV l q = S5.z) := by
  by_cases h : ∃ x ∈ l, inR x q
  · obtain ⟨x, hx, h2⟩ := h
    exact .inl ⟨x, hx, h2, seen_in hl hx h2⟩
  · have h' : ∀ x ∈ l, ¬ inR x q := fun x hx h2 => h ⟨x, hx, h2⟩
    exact .inr ⟨h', seen_out hl h'⟩
/-- Whoever shows the same of each page of the same regions is seen alike. -/
theorem seen_same {l m : List RV} (hl : okl l) (hm : okl m) {q : Int} (h1 : ∀ x ∈ l, inR x q → ∃ y ∈ m, inR y q ∧ seenR y q = seenR x q) (h2 : ∀ y ∈ m, inR y q → ∃ x ∈ l, inR x q) : seenV m q = seenV l q := by
  rcases seen_cases hl q with ⟨x, hx, hxq, e⟩ | ⟨hn, e⟩
  · obtain ⟨y, hy, hyq, e2⟩ := h1 x hx hxq
    rw [e, seen_in hm hy hyq, e2]
  · rw [e, seen_out hm]
    intro y hy hyq
    obtain ⟨x, hx, h⟩ := h2 y hy hyq
    exact hn x hx h
theorem seen_one2 {a b : RV} (ha : chkV a = 0) (hb : chkV b = 0) (h : mrgV a b = true) (q : Int) : (inR (one2 a b) q ↔ inR a q ∨ inR b q) ∧ (inR a q → seenR (one2 a b) q = seenR a q) ∧ (inR b q → seenR (one2 a b) q = seenR b q) := by
  obtain ⟨h1, h2, h3, h4, h5, h6⟩ := (mrg_iff ha hb).1 h
  have ba := chkV_bd ha
  have bb := chkV_bd hb
  refine ⟨?_, fun _ => rfl, fun _ => ?_⟩
  · unfold inR one2
    dsimp only
    omega
  · unfold seenR one2
    dsimp only
    rw [h3, h4, h5]
    by_cases hi : 0 ≤ b.i
    · rw [if_pos hi, if_pos hi]
      have : a.x + q - a.s = b.x + q - b.s := by omega
      rw [this]
    · rw [if_neg hi, if_neg hi]
/-- Merging neighbours changes no page. -/
theorem seen_step {o : List RV} {x : RV} (ho : okl (o ++ [x])) (q : Int) (hk : okl (stepN o x)) : seenV (stepN o x) q = seenV (o ++ [x]) q := by
  by_cases h0 : o.length = 0
  · rw [stepN_0 h0]
  · obtain ⟨a, ha⟩ : ∃ a, o.getLast? = some a := by
      cases hq : o.getLast? with
      | some a => exact ⟨a, rfl⟩
      | none => rw [List.getLast?_eq_none_iff] at hq; rw [hq] at h0; exact absurd rfl h0
    have hx := ho.c x (by simp)
    have hac := ho.c a (List.mem_append_left _ (List.mem_of_getLast? ha))
    have hmk := merge_ok hac hx
    by_cases hm : mrgV a x = true
    · rw [if_pos hm] at hmk
      obtain ⟨o2, rfl⟩ : ∃ o2, o = o2 ++ [a] := List.getLast?_eq_some_iff.1 ha
      have e2 : stepN (o2 ++ [a]) x = o2 ++ [one2 a x] := by
        rw [stepN_m ha (by rw [hmk]), hmk, List.dropLast_concat]
      rw [e2] at hk ⊢
      obtain ⟨s1, s2, s3⟩ := seen_one2 hac hx hm q
      refine seen_same ho hk (fun y hy hyq => ?_) (fun y hy hyq => ?_)
      · simp only [List.append_assoc, List.mem_append, List.mem_cons, List.not_mem_nil, or_false] at hy
        rcases hy with hy | rfl | rfl
        · exact ⟨y, by simp [hy], hyq, rfl⟩
        · exact ⟨_, by simp, s1.2 (.inl hyq), s2 hyq⟩
        · exact ⟨_, by simp, s1.2 (.inr hyq), s3 hyq⟩
      · simp only [List.mem_append, List.mem_cons, List.not_mem_nil, or_false] at hy
        rcases hy with hy | rfl
        · exact ⟨y, by simp [hy], hyq⟩
        · rcases s1.1 hyq with h | h
          · exact ⟨a, by simp, h⟩
          · exact ⟨x, by simp, h⟩
    · rw [if_neg hm] at hmk
      rw [stepN_n ha (by rw [hmk]; decide)]
theorem seen_congr {l m n : List RV} (h1 : okl (l ++ n)) (h2 : okl (m ++ n)) (hl : okl l) (hm : okl m) {q : Int} (h : seenV m q = seenV l q) (hin : (∃ x ∈ l, inR x q) ↔ ∃ y ∈ m, inR y q) : seenV (m ++ n) q = seenV (l ++ n) q := by
  rcases seen_cases hl q with ⟨x, hx, hxq, e⟩ | ⟨hn, e⟩
  · obtain ⟨y, hy, hyq⟩ := hin.1 ⟨x, hx, hxq⟩
    rw [seen_in h1 (List.mem_append_left _ hx) hxq, seen_in h2 (List.mem_append_left _ hy) hyq, ← e, ← h, seen_in hm hy hyq]
  · refine seen_same h1 h2 (fun x hx hxq => ?_) (fun y hy hyq => ?_)
    · rcases List.mem_append.1 hx with hx | hx
      · exact absurd hxq (hn x hx)
      · exact ⟨x, List.mem_append_right _ hx, hxq, rfl⟩
    · rcases List.mem_append.1 hy with hy | hy
      · obtain ⟨x, hx, h⟩ := hin.2 ⟨y, hy, hyq⟩
        exact ⟨x, List.mem_append_left _ hx, h⟩
      · exact ⟨y, List.mem_append_right _ hy, hyq⟩
theorem seenR_a (x : RV) (q : Int) : (seenR x q).a = 1 := rfl
theorem seen_iff {l : List RV} (hl : okl l) (q : Int) : (∃ x ∈ l, inR x q) ↔ (seenV l q).a = 1 := by
  rw [seenV_a]
  have := find_iff hl q
  unfold inR
  rw [← this]
  cases (findV l q).2 <;> simp
theorem seen_fold (q : Int) : ∀ (l out : List RV), nrm out l → seenV (l.foldl stepN out) q = seenV (out ++ l) q
  | [], out, h => by simp
  | x :: l, out, h => by
    rw [List.foldl_cons, seen_fold q l (stepN out x) h.step, show out ++ x :: l = (out ++ [x]) ++ l by simp]
    have k1 : okl ((out ++ [x]) ++ l) := by have := h.l; simpa using this
    have k2 := h.step.l
    have k3 := k1.app1.1
    have k4 := k2.app1.1
    have e := seen_step k3 q k4
    exact seen_congr k1 k2 k3 k4 e (by rw [seen_iff k3, seen_iff k4, e])
theorem seen_norm {l : List RV} (hl : okl l) (q : Int) : seenV (normL l) q = seenV l q := by
  have := seen_fold q l [] ⟨hl, trivial⟩
  rw [List.nil_append] at this
  exact this
theorem seen_resT {l : List RV} (hl : okl l) (h : (resT l).2 = 0) (q : Int) : seenV (resT l).1.flat q = seenV l q := by
  rw [(resT_asp hl h).2, seen_norm hl]
/-- What is seen when each region is replaced by parts of it. -/
theorem seen_cat {f : RV → List RV} {l : List RV} (hl : okl l) (hf : ∀ x ∈ l, part x (f x)) (q : Int) : (∃ x ∈ l, inR x q ∧ seenV l q = seenR x q ∧ seenV (cat f l) q = seenV (f x) q) ∨ ((∀ x ∈ l, ¬ inR x q) ∧ seenV l q = S5.z ∧ seenV (cat f l) q = S5.z) := by
  have hc := okl_cat hl hf
  have hmem : ∀ y, y ∈ cat f l ↔ ∃ x ∈ l, y ∈ f x := fun y => by unfold cat; rw [List.mem_flatMap]
  have hin : ∀ x ∈ l, ∀ y ∈ f x, inR y q → inR x q := fun x hx y hy h => by
    have := (hf x hx).i y hy
    unfold inR RV.e at *
    omega
  rcases seen_cases hl q with ⟨x, hx, hxq, e⟩ | ⟨hn, e⟩
  · refine .inl ⟨x, hx, hxq, e, ?_⟩
    refine seen_same (hf x hx).k hc (fun y hy hyq => ⟨y, (hmem y).2 ⟨x, hx, hy⟩, hyq, rfl⟩) (fun y hy hyq => ?_)
    obtain ⟨z, hz, hyz⟩ := (hmem y).1 hy
    have hzq := hin z hz y hyz hyq
    have exz : x = z := by
      have h1 := find_yes hl hx hxq
      have h2 := find_yes hl hz hzq
      rw [h1] at h2
      exact (Prod.mk.inj h2).1
    subst exz
    exact ⟨y, hyz, hyq⟩
  · refine .inr ⟨hn, e, seen_out hc (fun y hy hyq => ?_)⟩
    obtain ⟨z, hz, hyz⟩ := (hmem y).1 hy
    exact hn z hz (hin z hz y hyz hyq)

end Go.Proofs.Ytjdpignfdncebaa
