/- More steps for walks over blocks that are known whole. -/
import Derived.Test.YtnbohogkfdeddaaWk
set_option linter.unusedSimpArgs false
set_option linter.unusedVariables false
namespace Go.Proofs.Ytnbohogkfdeddaa
open Go.RowKit

theorem name_k {K : Act → World → Prop} {a : Act} {w : World} (h : ∀ X, X = w → K a X) : K a w := h w rfl

theorem wp_region_SE {P : Program} {ops : Array Oper} {Q : Exit → Act → World → Prop} (S : World → Prop) (E : List Nat) {id : Nat} {a : Act} {w : World} (hm : P.follows .mixedOrders = true)
    (h : wpAnyD P .any ops Q S (fun j => E.contains j) ops.size (Array.replicate ops.size false) a w.drew) : (Code.region id ops true).wp P Q a w :=
  wp_region_any hm (wpAny_of_D _ _ _ _ h)

theorem Blk.setW {w Y : World} {r j : Nat} {T : TypeId} {cs : List Value} {u : Value} (h : Blk w r T cs) (hW : Y = w.setCell ⟨r, j, none⟩ u) : Blk Y r T (cs.set j u) := by
  rw [hW]
  exact h.set j u

end Go.Proofs.Ytnbohogkfdeddaa
