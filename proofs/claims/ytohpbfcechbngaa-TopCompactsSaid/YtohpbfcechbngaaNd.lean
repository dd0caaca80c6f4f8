/- slices.Insert at a row of regions: at the end; as a contract. -/
import Derived.Test.YtohpbfcechbngaaNc
set_option linter.unusedSimpArgs false
set_option linter.unusedVariables false
namespace Go.Proofs.Ytohpbfcechbngaa
open Go.RowKit Go.Lib

/-- What Insert leaves: a row of one's own, in the old block or a new one. -/
def InsPostI (w : World) (v : Value) (n : Nat) (xs : List Value) (e : Ending) (w' : World) : Prop := ∃ v', e = .returned v' ∧ w'.ownsRow 0 3 1 v' (n + 1) xs ∧ w.grownBy w' v.ownBlock ∧ (v'.ownBlock = v.ownBlock ∨ v'.ownBlock = some w.heap.size)
set_option maxHeartbeats 4000000 in
set_option maxRecDepth 100000 in
theorem ins_endI (w : World) (p : Option Addr) (n c vb vc : Nat) (cs vs vsp : List Value) (T' : TypeId) (hn : n ≤ 90000) (hnc : n ≤ c) (hown : w.ownsRow 0 3 1 (.slice p n c) n cs) (hvl : vs.length = 1)
    (hv : w.heap[vb]? = some (.cells (vs ++ vsp).toArray T' (0, 0))) (h1v : ∀ v ∈ vs, v.oneCell' = true) :
    Calls Try.prog 18 #[.slice p n c, .int .i64 n, .slice (some ⟨vb, 0, none⟩) 1 vc] w (InsPostI w (.slice p n c) n (cs ++ vs)) := by
  obtain ⟨i0, z, hi0, hz0, hzs, hzb, hzl⟩ : ∃ (i0 : TypeInfo) (z : Value), Try.prog.info? 3 = some i0 ∧ i0.zero = some z ∧ i0.size = 1 ∧ i0.bytes = 8 ∧ z.cells.size = 1 := ⟨_, _, rfl, rfl, rfl, rfl, rfl⟩
  have hsh : (p = none ∧ n = 0 ∧ c = 0) ∨ ∃ b, p = some ⟨b, 0, none⟩ := by
    rcases hown.2 with ⟨h1, h2⟩ | ⟨g, cap, cur, h1, _⟩
    · cases h1; exact .inl ⟨rfl, rfl, rfl⟩
    · cases h1; exact .inr ⟨g, rfl⟩
  have hr : ∃ v' W', Hid (∀ ty, (Builtin.append_ #[24, 24] ty #[.slice p n c, .slice (some ⟨vb, 0, none⟩) 1 vc]).run Try.prog w = .ok v' W') ∧ Hid (InsPostI w (.slice p n c) n (cs ++ vs) (.returned v') W') := by
    have h : ∀ ty, ∃ v' W', (Builtin.append_ #[24, 24] ty #[.slice p n c, .slice (some ⟨vb, 0, none⟩) 1 vc]).run Try.prog w = .ok v' W' ∧ InsPostI w (.slice p n c) n (cs ++ vs) (.returned v') W' := fun ty => by
      obtain ⟨v', W', hrun, g1, g2, g3, g4⟩ := run_append_own_at (P := Try.prog) w 0 24 ty 3 i0 z 1 8 Try.underlying24 hi0 hz0 hzs hzb hzl (by decide) _ n cs hown ⟨vb, 0, none⟩ 1 vc vs (by rw [hvl]) (fun j u hj => by
        rw [Addr.add_lit, Nat.zero_add, cell_rowI hv, List.getElem?_append_left (List.getElem?_eq_some_iff.1 hj).1, hj]) h1v (by unfold maxLen; omega) (by omega) (Nat.zero_le _)
      exact ⟨v', W', hrun, v', rfl, g1, g2, g4⟩
    obtain ⟨v', W', h1, h2⟩ := h 0
    exact ⟨v', W', fun ty => h1, h2⟩
  obtain ⟨v', W', hrun, hpost⟩ := hr
  clear hown hv h1v hi0 hz0 hzs hzb hzl
  rcases hsh with ⟨rfl, rfl, rfl⟩ | ⟨b, rfl⟩
  · go_enter Try.func18, Try.ntmps18
    go_upto_region 9999 with (first | (at_builtin; refine Lib.wpList_append_run _ rfl _ _ _ _ rfl _ _ rfl rfl _ _ (hrun.out _) ?_))
    all_goals go_ret
    all_goals exact hpost.out
  · have hin : (n : Int) ≤ (n : Int) := Int.le_refl _
    go_enter Try.func18, Try.ntmps18
    go_upto_region 9999 with (first | (at_builtin; refine Lib.wpList_append_run _ rfl _ _ _ _ rfl _ _ rfl rfl _ _ (hrun.out _) ?_))
    all_goals go_ret
    all_goals exact hpost.out

end Go.Proofs.Ytohpbfcechbngaa
