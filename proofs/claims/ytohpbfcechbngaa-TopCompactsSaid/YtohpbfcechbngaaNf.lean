/- slices.Insert at rows of one's own. -/
import Derived.Test.YtohpbfcechbngaaNe
set_option linter.unusedSimpArgs false
set_option linter.unusedVariables false
namespace Go.Proofs.Ytohpbfcechbngaa
open Go.RowKit Go.Lib

/-- The rows that Insert is given. -/
def insB2I (l : List Int) (x : Int) : Bs := [(101, some (3, (il l).flatten.map .d)), (103, some (3, (il [x]).flatten.map .d))]
theorem ins_FI (l : List Int) (i : Nat) (x : Int) (hl : l.length ≤ 90000) (hi : i ≤ l.length) : FnB Try.prog CT 18 [.o 101 (il l).length, .d (.s (.int .i64 i)), .o 103 1] [(101, some (3, (il l).flatten.map .d)), (103, some (3, (il [x]).flatten.map .d))] (.o 101 (il (insAtI l i x)).length) [(101, some (3, (il (insAtI l i x)).flatten.map .d)), (103, none)] := by
  refine ⟨by kernel_rfl, fun X vs _ hk hb ha => ?_⟩
  have hsz : (Try.prog.info? 3).map (·.size) = some 1 := by rfl
  have hln : (il l).length = l.length := il_len l
  cases ha with
  | cons a1 a2 =>
  cases a2 with
  | cons a2 a3 =>
  cases a3 with
  | cons a3 a4 =>
  cases a4
  cases a2 with
  | d a2 =>
  cases a2
  cases a1 with
  | @o _ _ c p d1 v1 =>
  cases a3 with
  | @o _ _ vc p' d3 v3 =>
  rw [hln] at v1 ⊢
  have b1 := hb.bk 101 _ _ rfl
  have b3 := hb.bk 103 _ _ rfl
  have hv : ∃ vs1 vsp, p' = some ⟨X.E0.A 103, 0, none⟩ ∧ X.w.heap[X.E0.A 103]? = some (.cells (vs1 ++ vsp).toArray 3 (0, 0)) ∧ vs1.length = 1 ∧ RL (ownS X.E0 X.o (insB2I l x)) X.w vs1 (il [x]).flatten ∧ X.E0.nl 103 = false := by
    rcases b3 with ⟨_, h, _⟩ | ⟨h0, vs1, sp, m, n', c', h1, h2, h3, h4, _, _, h7, _⟩
    · cases h
    · rw [hsz] at h3
      cases h3
      rw [v3] at h4
      cases h4
      exact ⟨vs1, sp, rfl, h1, by omega, h2.unmap, h0⟩
  obtain ⟨vs1, vsp, rfl, hvb, hvl, hvr, hn3⟩ := hv
  have ho : ∃ cs, X.w.ownsRow 0 3 1 (.slice p l.length c) l.length cs ∧ RL (ownS X.E0 X.o (insB2I l x)) X.w cs (il l).flatten ∧ (∀ g, (Value.slice p l.length c).ownBlock = some g → X.E0.nl 101 = false ∧ X.E0.A 101 = g) := by
    rcases b1 with ⟨h0, h1, h2⟩ | ⟨h0, vs, sp, m, n', c', h1, h2, h3, h4, h5, h6, h7, h8⟩
    · rw [v1] at h2
      simp only [Value.slice.injEq] at h2
      obtain ⟨rfl, e, rfl⟩ := h2
      have hl0 : l = [] := List.length_eq_zero_iff.1 e
      subst hl0
      exact ⟨[], ⟨rfl, .inl ⟨rfl, rfl⟩⟩, .nil, fun g hg => by cases hg⟩
    · rw [v1] at h4
      simp only [Value.slice.injEq] at h4
      obtain ⟨rfl, rfl, rfl⟩ := h4
      rw [hsz] at h3
      cases h3
      refine ⟨vs, ⟨h7, .inr ⟨X.E0.A 101, c, (vs ++ sp).toArray, rfl, Nat.zero_le _, h1, h5, h6, by simpa using h8, ?_⟩⟩, h2.unmap, fun g hg => ⟨h0, by simpa [Value.ownBlock] using hg⟩⟩
      rw [← h7]
      simp
  obtain ⟨cs, hown, hcr, hblk⟩ := ho
  have hne : (Value.slice p l.length c).ownBlock ≠ some (X.E0.A 103) := fun e => by
    obtain ⟨e1, e2⟩ := hblk _ e
    have := hb.nd 101 103 ⟨⟨_, rfl⟩, e1⟩ ⟨⟨_, rfl⟩, hn3⟩ e2
    cases this
  refine (ins_anyI X.w p l.length c i (X.E0.A 103) vc cs vs1 vsp _ hl hi hown hvl hvb hne (hcr.one (il_flat_cell l)) (hvr.one (il_flat_cell [x]))).mono ?_
  rintro e w' ⟨v', rfl, g1, g2, g3⟩
  have hlen : l.length + 1 = (il (insAtI l i x)).length := by rw [il_len]; simp [insAtI]; omega
  have hcl := hown.1
  have hfl : (il l).flatten.take (i * 1) ++ ((il [x]).flatten ++ (il l).flatten.drop (i * 1)) = (il (insAtI l i x)).flatten := by
    rw [il_flat_take, il_flat_drop]
    simp [insAtI, il]
  have hA : ∀ g, v'.ownBlock = some g → X.w.heap.size ≤ g ∨ (X.E0.nl 101 = false ∧ g = X.E0.A 101) := fun g hg => by
    rcases g3 with h | h
    · rw [hg] at h
      obtain ⟨h1, h2⟩ := hblk g h.symm
      exact .inr ⟨h1, h2.symm⟩
    · rw [hg] at h
      cases h
      exact .inl (Nat.le_refl _)
  obtain ⟨p2, c2, rfl⟩ : ∃ p2 c2, v' = .slice p2 (l.length + 1) c2 := by
    rcases g1.2 with ⟨_, h2⟩ | ⟨g, cap, cur, h1, _⟩
    · omega
    · exact ⟨_, _, h1⟩
  let E' : Env := ⟨fun _ => ((Value.slice p2 (l.length + 1) c2).ownBlock).getD 0, fun _ => .slice p2 (l.length + 1) c2, fun _ => ((Value.slice p2 (l.length + 1) c2).ownBlock).isNone⟩
  let bs' : Bs := [(101, some (3, (il (insAtI l i x)).flatten.map .d)), (103, none)]
  have hlv : ∀ b, live E' bs' b → b = 101 ∧ ∃ g, (Value.slice p2 (l.length + 1) c2).ownBlock = some g ∧ E'.A b = g := fun b ⟨⟨en, h1⟩, h2⟩ => by
    have hb1 : b = 101 := by
      simp only [bs', lk_cons] at h1
      split at h1
      · rename_i he; exact he.symm
      · split at h1
        · cases h1
        · simp [lk] at h1
    refine ⟨hb1, ?_⟩
    simp only [E'] at h2 ⊢
    cases hq : (Value.slice p2 (l.length + 1) c2).ownBlock with
    | none => rw [hq] at h2; cases h2
    | some g => exact ⟨g, rfl, rfl⟩
  have hm : ∀ g, (Value.slice p l.length c).ownBlock = some g → g < X.w.heap.size ∧ X.m g := fun g hg => by
    obtain ⟨e1, e2⟩ := hblk g hg
    have hl1 : live X.E0 (insB2I l x) 101 := ⟨⟨_, rfl⟩, e1⟩
    obtain ⟨T, cs', hB⟩ := hb.blkOf hl1
    rw [e2] at hB
    have := hb.lo 101 hl1
    rw [e2] at this
    have hlt := hB.lt
    exact ⟨hlt, this.resolve_left (Nat.not_le.2 hlt)⟩
  have k : Keeps (ownS X.E0 X.o (insB2I l x)) (ownS E' X.o bs') X.w w' := .of (fun r hr hno => g2.block r hr (fun e => hno (.inr ⟨101, ⟨⟨_, rfl⟩, (hblk r e.symm).1⟩, (hblk r e.symm).2⟩))) g2.size (fun r hr ho => by
    rcases ho with ho | ⟨b, hb1, rfl⟩
    · exact .inl ho
    · obtain ⟨rfl, g, e1, e2⟩ := hlv b hb1
      rw [e2] at hr ⊢
      rcases hA g e1 with h | ⟨h, rfl⟩
      · omega
      · exact .inr ⟨101, ⟨⟨_, rfl⟩, h⟩, rfl⟩)
  have hrl : RL (ownS E' X.o bs') w' (cs.take (i * 1) ++ (vs1 ++ cs.drop (i * 1))) (il (insAtI l i x)).flatten := by
    rw [← hfl]
    exact ((hcr.take _).app (hvr.app (hcr.drop _))).keeps k
  rw [← hlen]
  refine ⟨_, E', rfl, ⟨⟨g2.os, g2.tape, g2.output, g2.size, fun r hr hnm => g2.block r hr (fun e => hnm (hm r e.symm).2)⟩, hb.o0, ?_, fun b T cs' hbk => ?_, fun b hb1 => ?_, fun b b' h1 h2 _ => by rw [(hlv b h1).1, (hlv b' h2).1]⟩, ?_⟩
  · rw [hk, kns_eq (l := [101, 103]) (ks := []) rfl (by decide)]
    exact EnK.nil
  · have hb1 : b = 101 ∧ T = 3 ∧ cs' = (il (insAtI l i x)).flatten.map .d := by
      simp only [lk_cons] at hbk
      split at hbk
      · rename_i he
        cases hbk
        exact ⟨he.symm, rfl, rfl⟩
      · split at hbk
        · cases hbk
        · simp [lk] at hbk
    obtain ⟨rfl, rfl, rfl⟩ := hb1
    rcases g1.2 with ⟨_, h2⟩ | ⟨g, cap, cur, h1, h2, h3, h4, h5, h6, h7⟩
    · omega
    · cases h1
      refine .inr ⟨rfl, _, cur.toList.drop ((l.length + 1) * 1), 1, l.length + 1, c2, ?_, RAL.map hrl, hsz, rfl, h4, h5, g1.1, ?_⟩
      · rw [← h7, List.take_append_drop]
        exact h3
      · rw [← h7, List.take_append_drop]
        simpa using h6
  · obtain ⟨rfl, g, e1, e2⟩ := hlv b hb1
    rw [e2]
    rcases hA g e1 with h | ⟨h, rfl⟩
    · exact .inl h
    · exact hb.lo 101 ⟨⟨_, rfl⟩, h⟩
  · exact .o ⟨_, rfl⟩ rfl

end Go.Proofs.Ytohpbfcechbngaa
