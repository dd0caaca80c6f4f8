/- Rangetree: what the laws share. -/
import Derived.Test.YtnbohogkfdeddaaRuh
import Derived.Test.YtnbohogkfdeddaaRug
set_option linter.unusedSimpArgs false
set_option linter.unusedVariables false
namespace Go.Proofs.Ytnbohogkfdeddaa
open Go.RowKit

/-- All blocks but those of L. -/
def Ex (L : List Nat) : Nat → Prop := fun g => g ∉ L
theorem Up.ex {L : List Nat} {w : World} (h : ∀ r ∈ L, r < w.heap.size) : Up (Ex L) w := fun g hg hm => by have := h g hm; omega
theorem isT.ex {L L' : List Nat} {n : Nat} {w : World} {t : BT} {v : TV} (h : isT (Lw (Ex L) n) w t v) (hL : ∀ r ∈ L', r ∈ L) : isT (Ex L') w t v := h.mono (fun g _ hg hm => hg.1 (hL g hm))
theorem isT.exm {L L' : List Nat} {n : Nat} {w : World} {t : BT} {v : TV} (h : isT (Lw (Ex L) n) w t v) (hL : ∀ r ∈ L', r ∈ L ∨ n ≤ r) : isT (Ex L') w t v := h.mono (fun g _ hg hm => by
  rcases hL g hm with h1 | h1
  · exact hg.1 h1
  · exact absurd hg.2 (by omega))
theorem insert_to {A : Nat → Prop} (p : PT) (r : RV) (v : TV) (w : World) (q : PT) (e : Int) (hF : InsF p r = (q, e)) (hA : Up A w) (hp : good p) (ht : isT A w p.bt v) :
    Calls Try.prog 15 #[.agg v.cs.toArray, .agg r.cs.toArray] w fun e' w' => ∃ v', e' = .returned (.tuple #[.agg v'.cs.toArray, .int .i64 e]) ∧ isT A w' q.bt v' ∧ Ext w w' := by
  have := insert_P p r v w hA hp ht
  rw [hF] at this
  exact this
theorem delete_to {A : Nat → Prop} (p : PT) (s : Int) (v : TV) (w : World) (q : PT) (e : Int) (hF : DelF p s = (q, e)) (hA : Up A w) (hp : good p) (ht : isT A w p.bt v) :
    Calls Try.prog 20 #[.agg v.cs.toArray, .int .i64 s] w fun e' w' => ∃ v', e' = .returned (.tuple #[.agg v'.cs.toArray, .int .i64 e]) ∧ isT A w' q.bt v' ∧ Ext w w' := by
  have := delete_P p s v w hA hp ht
  rw [hF] at this
  exact this
theorem lsame_eq (a b : List RV) (va vb : Value) (w : World) (ha : isSl w va 6 a.length (rF a)) (hb : isSl w vb 6 b.length (rF b)) (h : a = b) (hl : a.length ≤ 100000) :
    Calls Try.prog 16 #[va, vb] w fun e w' => e = .returned (.bool true) ∧ Ext w w' := by
  subst h
  have := lsame_any a a va vb w ha hb hl hl
  rwa [(sameL_iff a a).2 rfl] at this
theorem ins_next {p : PT} {x : RV} {last : Int} (hp : good p) (hv : vld x) (hl : ∀ y ∈ p.flat, y.e ≤ last) (hx : ¬ x.s < last) : InsF p x = (insP p x, 0) :=
  (ins_okP hp hv (fun y hy hmm => by have := hl y hy; unfold meets at hmm; omega)).1

end Go.Proofs.Ytnbohogkfdeddaa
