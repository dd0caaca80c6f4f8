/- Layer 02: a copy of a list (own). -/
import Derived.Test.YtlboakmiopnifaaIwh
import Derived.Laws.AppendOwnNone
import Derived.Deep.Upon
set_option linter.unusedSimpArgs false
set_option linter.unusedVariables false
namespace Go.Proofs.Ytlboakmiopnifaa
open Go.RowKit

/-- Nothing is appended: a nil slice. -/
theorem wpList_append_nilc {P : Program} {w : World} {ops : Array Oper} {rest : List Oper} {o : Oper} {a : Act} {Q : Exit → Act → World → Prop} (hgd : o.guard = none) (s x : Operand) (t : TypeId)
    (ho : o.op = .call { callee := .builtin .append, args := #[s, x], argTypes := #[t, t] })
    (e : TypeId) (i : TypeInfo) (ht : P.underlying t = some (.slice e)) (hi : P.info? e = some i)
    (ad : Option Addr) (n c c' : Nat) (hle : n ≤ c) (hs : a.eval s = .slice ad n c) (hx : a.eval x = .slice none 0 c')
    (h : wpList P ops Q rest (a.put o.dst (.slice ad n c)) w) : wpList P ops Q (o :: rest) a w := by
  refine wpList_plain hgd fun K hK => ?_
  have hrun := run_append_nothing (P := P) w t t o.type e i ht hi ad n c hle _ (Src.ofNil w ht c')
  unfold Oper.wp
  simp [execOp, ho, resolve, invoke, builtin, hs, hx, hrun, Result.andThen]
  exact hK _ _ h

theorem add_block (p : Addr) (j : Nat) : p.block = (p.add j).block := by unfold Addr.add; split <;> rfl
theorem ivF_one (l : List (Int × Int)) : ∀ u ∈ ivF l, u.oneCell' = true := by
  induction l with
  | nil => simp [ivF]
  | cons x l ih =>
    intro u hu
    simp only [ivF, List.mem_cons] at hu
    rcases hu with rfl | rfl | hu
    · rfl
    · rfl
    · exact ih u hu

theorem own_any (l : List (Int × Int)) (ad : Option Addr) (c : Nat) (w : World) (h : isSl w (.slice ad l.length c) 2 l.length (ivF l)) (hl : l.length ≤ 12) :
    Calls Try.prog 34 #[.slice ad l.length c] w fun e w' => ∃ r, e = .returned r ∧ w'.ownsRow w.heap.size 28 2 r l.length (ivF l) ∧ Below w.heap.size w w' := by
  obtain ⟨i0, hi0, hz0, hs0, hy0⟩ := infoIv_parts
  cases ad with
  | none =>
    have hl0 : l = [] := by
      obtain ⟨_, h2⟩ := h
      rcases h2 with ⟨_, _, _, hn⟩ | ⟨b, o, cap, hv, _⟩
      · exact List.length_eq_zero_iff.1 hn
      · cases hv
    subst hl0
    clear h hl
    go_enter Try.func34, Try.ntmps34
    go_upto_region 9999 with (first | (at_builtin; refine wpList_append_nilc rfl _ _ 22 rfl 28 i0 Try.underlying22 hi0 (some ⟨_, 0, none⟩) 0 0 _ (Nat.le_refl _) rfl rfl ?_))
    all_goals go_ret
    all_goals exact ⟨_, rfl, World.ownsRow_lit w #[] 0 (Nat.le_refl _) (by unfold maxLen; omega) (by simp), Ext.below (by (exact Ext.of_below (by (repeat' (first | (with_reducible exact Below.refl _ _) | (with_reducible assumption) | (with_reducible refine Below.alloc ?_ ?_ _) | (with_reducible refine Below.wext ?_ ?_ _ _) | (with_reducible refine Below.drew ?_) | (with_reducible refine Below.setCell ?_ ?_ _) | (with_reducible exact Nat.le_refl _) | (with_reducible refine Below.drewN' ?_ _) | (simp; omega) | (simp; done))))))⟩
  | some p =>
    have hlen := ivF_len l
    have H : Hid (∀ j u, (ivF l)[j]? = some u → w.cell? (p.add j) = some u) := by
      intro j u hu
      obtain ⟨_, h2⟩ := h
      rcases h2 with ⟨_, _, _, hn⟩ | ⟨b, o, cap, hv, _, _, _, hx⟩
      · obtain rfl := List.length_eq_zero_iff.1 hn
        simp [ivF] at hu
      · cases hv
        have hj : j < l.length * 2 := by
          have := (List.getElem?_eq_some_iff.1 hu).1
          omega
        rw [← hu, ← hx j hj]
        exact congrArg _ (Addr.add_mid b o j)
    have HB : Hid (0 < l.length → p.block < w.heap.size) := by
      intro h0
      obtain ⟨_, h2⟩ := h
      rcases h2 with ⟨_, _, _, hn⟩ | ⟨b, o, cap, hv, _, _, hb, hx⟩
      · omega
      · cases hv; exact hb
    clear h
    go_enter Try.func34, Try.ntmps34
    go_upto_region 9999 with (first | (at_builtin; go_loud (refine wpList_append_own _ rfl _ _ 22 rfl w.heap.size 28 i0 (.agg #[.int .i64 0, .int .i64 0]) 2 16 Try.underlying22 hi0 hz0 hs0 hy0 rfl (by decide) _ _ _ rfl (World.ownsRow_lit w #[] 0 (Nat.le_refl _) (by unfold maxLen; omega) (by simp)) p l.length _ (ivF l) rfl (by omega) (by intro j u hu; refine Eq.trans ?_ (H.out j u hu); exact (Ext.below (by (exact Ext.of_below (by (repeat' (first | (with_reducible exact Below.refl _ _) | (with_reducible assumption) | (with_reducible refine Below.alloc ?_ ?_ _) | (with_reducible refine Below.wext ?_ ?_ _ _) | (with_reducible refine Below.drew ?_) | (with_reducible refine Below.setCell ?_ ?_ _) | (with_reducible exact Nat.le_refl _) | (with_reducible refine Below.drewN' ?_ _) | (simp; omega) | (simp; done))))))).cell (add_block p j ▸ HB.out (by have := (List.getElem?_eq_some_iff.1 hu).1; omega))) (ivF_one l) (by unfold maxLen; omega) (by omega) (by simp) ?_; intro vA wA hownA hgrA _)))
    all_goals go_ret
    refine ⟨vA, rfl, by simpa using hownA, Below.trans (Ext.below (w' := w.alloc _) (by (exact Ext.of_below (by (repeat' (first | (with_reducible exact Below.refl _ _) | (with_reducible assumption) | (with_reducible refine Below.alloc ?_ ?_ _) | (with_reducible refine Below.wext ?_ ?_ _ _) | (with_reducible refine Below.drew ?_) | (with_reducible refine Below.setCell ?_ ?_ _) | (with_reducible exact Nat.le_refl _) | (with_reducible refine Below.drewN' ?_ _) | (simp; omega) | (simp; done))))))) (below_of_grown hgrA (by simp) (fun k hk => by cases hk; simp))⟩

end Go.Proofs.Ytlboakmiopnifaa
