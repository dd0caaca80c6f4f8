/-
  No cell of these rows narrows 'for every input' (looked for: loops, veiled, ifaces, maps, wideKeys, modest, calm, conditions, laid).
  DERIVED. THE GIVEN ROWS OF THIS SEAT. 8 by the template 'for every input the law returns true; each argument reads behind the call as it read before'; 0 by the template 'total and deterministic' (their statements: YtohodegmkepemaaTotals.lean).
  GIVEN WITH THE SEED: the statements are not yours to turn. If you find one false, say at which input.
  Laid BY PROGRAM, IN A SANDBOX (cutbox-rows.mjs): the forced cells as the released guide's own fill.sh prints them over the translation 931d80de8c2bb0d5… (all of the seat's roots in one cut). By AI agents, Wed Nov 11 2026. No macro, syntax, notation, axiom, sorry.
-/
import Derived.Test.YtohodegmkepemaaChecked
import GoSem.Claim
import GoSem.ClaimJoined
import GoSem.ClaimMapViews
import Derived.JoinedTies
import Derived.KernelRfl
namespace Go.Proofs.Ytohodegmkepemaa
/- THE CELL 'sum', in the pinned program and in every row, IS THE sha256 OF THE DUMP (.gsa) THAT YtohodegmkepemaaProg.lean LOADS. Nothing in Lean hashes anything: it is a label: what it is worth is what the hold of that sum in a sandbox is worth. -/
noncomputable def Try.pinned : Pinned := { name := "ytohodegmkepemaa", sum := "931d80de8c2bb0d56cf26446b1125397855cfd4928ad9ff132a2e1ac47af6719", checked := Try.checked }
namespace Rows
def none {H : Type} : Left H := { results := [], args := [] }

/-- 'estoverslaw22.RegionChecks': WHATEVER THE INPUT: true; the input reads as it did. -/
def regionChecksSpec : ChangeSpec := { name := "regionChecks", fn := fun _ => fun
  | [d] => { results := [.lit (.bool true)], args := [d] }
  | _ => none }
def regionChecksRow : OpenClaim := { program := "ytohodegmkepemaa", sum := "931d80de8c2bb0d56cf26446b1125397855cfd4928ad9ff132a2e1ac47af6719", func := "estovers/estoverslaw22.RegionChecks", spec := "regionChecks", apart := false }
def RegionChecksSaid : Prop := regionChecksRow.holds Try.pinned (OpenSpec.ofChange regionChecksSpec)

/-- ITS FALSE NEIGHBOUR: 'it returns false'. Refute it at one input. -/
def regionChecksWrong : ChangeSpec := { name := "regionChecks", fn := fun _ => fun
  | [d] => { results := [.lit (.bool false)], args := [d] }
  | _ => none }
def RegionChecksWrongFalsely : Prop := regionChecksRow.holds Try.pinned (OpenSpec.ofChange regionChecksWrong)

/-- 'estoverslaw22.RegionMerges': WHATEVER THE INPUT: true; the input reads as it did. -/
def regionMergesSpec : ChangeSpec := { name := "regionMerges", fn := fun _ => fun
  | [d1, d2] => { results := [.lit (.bool true)], args := [d1, d2] }
  | _ => none }
def regionMergesRow : OpenClaim := { program := "ytohodegmkepemaa", sum := "931d80de8c2bb0d56cf26446b1125397855cfd4928ad9ff132a2e1ac47af6719", func := "estovers/estoverslaw22.RegionMerges", spec := "regionMerges", apart := false }
def RegionMergesSaid : Prop := regionMergesRow.holds Try.pinned (OpenSpec.ofChange regionMergesSpec)

/-- ITS FALSE NEIGHBOUR: 'it returns false'. Refute it at one input. -/
def regionMergesWrong : ChangeSpec := { name := "regionMerges", fn := fun _ => fun
  | [d1, d2] => { results := [.lit (.bool false)], args := [d1, d2] }
  | _ => none }
def RegionMergesWrongFalsely : Prop := regionMergesRow.holds Try.pinned (OpenSpec.ofChange regionMergesWrong)

/-- 'estoverslaw22.RegionSplits': WHATEVER THE INPUT: true; the input reads as it did. -/
def regionSplitsSpec : ChangeSpec := { name := "regionSplits", fn := fun _ => fun
  | [d1, d2] => { results := [.lit (.bool true)], args := [d1, d2] }
  | _ => none }
def regionSplitsRow : OpenClaim := { program := "ytohodegmkepemaa", sum := "931d80de8c2bb0d56cf26446b1125397855cfd4928ad9ff132a2e1ac47af6719", func := "estovers/estoverslaw22.RegionSplits", spec := "regionSplits", apart := false }
def RegionSplitsSaid : Prop := regionSplitsRow.holds Try.pinned (OpenSpec.ofChange regionSplitsSpec)

/-- ITS FALSE NEIGHBOUR: 'it returns false'. Refute it at one input. -/
def regionSplitsWrong : ChangeSpec := { name := "regionSplits", fn := fun _ => fun
  | [d1, d2] => { results := [.lit (.bool false)], args := [d1, d2] }
  | _ => none }
def RegionSplitsWrongFalsely : Prop := regionSplitsRow.holds Try.pinned (OpenSpec.ofChange regionSplitsWrong)

/-- 'estoverslaw22.RegionCuts': WHATEVER THE INPUT: true; the input reads as it did. -/
def regionCutsSpec : ChangeSpec := { name := "regionCuts", fn := fun _ => fun
  | [d1, d2, d3] => { results := [.lit (.bool true)], args := [d1, d2, d3] }
  | _ => none }
def regionCutsRow : OpenClaim := { program := "ytohodegmkepemaa", sum := "931d80de8c2bb0d56cf26446b1125397855cfd4928ad9ff132a2e1ac47af6719", func := "estovers/estoverslaw22.RegionCuts", spec := "regionCuts", apart := false }
def RegionCutsSaid : Prop := regionCutsRow.holds Try.pinned (OpenSpec.ofChange regionCutsSpec)

/-- ITS FALSE NEIGHBOUR: 'it returns false'. Refute it at one input. -/
def regionCutsWrong : ChangeSpec := { name := "regionCuts", fn := fun _ => fun
  | [d1, d2, d3] => { results := [.lit (.bool false)], args := [d1, d2, d3] }
  | _ => none }
def RegionCutsWrongFalsely : Prop := regionCutsRow.holds Try.pinned (OpenSpec.ofChange regionCutsWrong)

/-- 'estoverslaw22.RegionPages': WHATEVER THE INPUT: true; the input reads as it did. -/
def regionPagesSpec : ChangeSpec := { name := "regionPages", fn := fun _ => fun
  | [d1, d2, d3] => { results := [.lit (.bool true)], args := [d1, d2, d3] }
  | _ => none }
def regionPagesRow : OpenClaim := { program := "ytohodegmkepemaa", sum := "931d80de8c2bb0d56cf26446b1125397855cfd4928ad9ff132a2e1ac47af6719", func := "estovers/estoverslaw22.RegionPages", spec := "regionPages", apart := false }
def RegionPagesSaid : Prop := regionPagesRow.holds Try.pinned (OpenSpec.ofChange regionPagesSpec)

/-- ITS FALSE NEIGHBOUR: 'it returns false'. Refute it at one input. -/
def regionPagesWrong : ChangeSpec := { name := "regionPages", fn := fun _ => fun
  | [d1, d2, d3] => { results := [.lit (.bool false)], args := [d1, d2, d3] }
  | _ => none }
def RegionPagesWrongFalsely : Prop := regionPagesRow.holds Try.pinned (OpenSpec.ofChange regionPagesWrong)

/-- 'estoverslaw22.RegionAsks': WHATEVER THE INPUT: true; the input reads as it did. -/
def regionAsksSpec : ChangeSpec := { name := "regionAsks", fn := fun _ => fun
  | [d1, d2, d3] => { results := [.lit (.bool true)], args := [d1, d2, d3] }
  | _ => none }
def regionAsksRow : OpenClaim := { program := "ytohodegmkepemaa", sum := "931d80de8c2bb0d56cf26446b1125397855cfd4928ad9ff132a2e1ac47af6719", func := "estovers/estoverslaw22.RegionAsks", spec := "regionAsks", apart := false }
def RegionAsksSaid : Prop := regionAsksRow.holds Try.pinned (OpenSpec.ofChange regionAsksSpec)

/-- ITS FALSE NEIGHBOUR: 'it returns false'. Refute it at one input. -/
def regionAsksWrong : ChangeSpec := { name := "regionAsks", fn := fun _ => fun
  | [d1, d2, d3] => { results := [.lit (.bool false)], args := [d1, d2, d3] }
  | _ => none }
def RegionAsksWrongFalsely : Prop := regionAsksRow.holds Try.pinned (OpenSpec.ofChange regionAsksWrong)

/-- 'estoverslaw22.RegionBack': WHATEVER THE INPUT: true; the input reads as it did. -/
def regionBackSpec : ChangeSpec := { name := "regionBack", fn := fun _ => fun
  | [d1, d2] => { results := [.lit (.bool true)], args := [d1, d2] }
  | _ => none }
def regionBackRow : OpenClaim := { program := "ytohodegmkepemaa", sum := "931d80de8c2bb0d56cf26446b1125397855cfd4928ad9ff132a2e1ac47af6719", func := "estovers/estoverslaw22.RegionBack", spec := "regionBack", apart := false }
def RegionBackSaid : Prop := regionBackRow.holds Try.pinned (OpenSpec.ofChange regionBackSpec)

/-- ITS FALSE NEIGHBOUR: 'it returns false'. Refute it at one input. -/
def regionBackWrong : ChangeSpec := { name := "regionBack", fn := fun _ => fun
  | [d1, d2] => { results := [.lit (.bool false)], args := [d1, d2] }
  | _ => none }
def RegionBackWrongFalsely : Prop := regionBackRow.holds Try.pinned (OpenSpec.ofChange regionBackWrong)

/-- 'estoverslaw22.RegionMeets': WHATEVER THE INPUT: true; the input reads as it did. -/
def regionMeetsSpec : ChangeSpec := { name := "regionMeets", fn := fun _ => fun
  | [d1, d2] => { results := [.lit (.bool true)], args := [d1, d2] }
  | _ => none }
def regionMeetsRow : OpenClaim := { program := "ytohodegmkepemaa", sum := "931d80de8c2bb0d56cf26446b1125397855cfd4928ad9ff132a2e1ac47af6719", func := "estovers/estoverslaw22.RegionMeets", spec := "regionMeets", apart := false }
def RegionMeetsSaid : Prop := regionMeetsRow.holds Try.pinned (OpenSpec.ofChange regionMeetsSpec)

/-- ITS FALSE NEIGHBOUR: 'it returns false'. Refute it at one input. -/
def regionMeetsWrong : ChangeSpec := { name := "regionMeets", fn := fun _ => fun
  | [d1, d2] => { results := [.lit (.bool false)], args := [d1, d2] }
  | _ => none }
def RegionMeetsWrongFalsely : Prop := regionMeetsRow.holds Try.pinned (OpenSpec.ofChange regionMeetsWrong)

/- THE SECOND FORM. 'bulk': how many values and letters a reading holds, each counted each time it is reached (what is shared counts as often as it is met; a slice's spare places count too). A statement '..UptoSaid' is the law's where the arguments, and the package variables that the reading takes, are together of bulk at most 1048576: NARROWER than '..Said'. Prove '..Said' where nothing that the law and all that it calls make is longer than what came in: it says more and counts as full. Else prove '..UptoSaid'. A law counts once. -/
mutual
def uptoBulk {H : Type} : DataW H → Nat
  | .lit (.string bytes) => bytes.length + 1
  | .lit _ => 1
  | .nil => 1
  | .ptr d => uptoBulk d + 1
  | .slice elems spare => uptoBulkAll elems + uptoBulkAll spare + 1
  | .agg parts => uptoBulkAll parts + 1
  | .iface _ d => uptoBulk d + 1
  | .map entries => uptoBulkEntries entries + 1
  | .held _ => 1
def uptoBulkAll {H : Type} : List (DataW H) → Nat
  | [] => 0
  | d :: r => uptoBulk d + uptoBulkAll r
def uptoBulkEntries {H : Type} : List (Lit × DataW H) → Nat
  | [] => 0
  | x :: r => uptoBulkEntry x + uptoBulkEntries r
def uptoBulkEntry {H : Type} : Lit × DataW H → Nat
  | (.string bytes, d) => bytes.length + uptoBulk d + 1
  | (_, d) => uptoBulk d + 1
 end
def uptoSmall : (H : Type) → List (DataW H) → Bool := fun _ ds => decide (uptoBulkAll ds ≤ 1048576)
def OpenSpec.upto (s : _root_.Go.ChangeSpec) : _root_.Go.OpenSpec := { _root_.Go.OpenSpec.ofChange s with cond := some uptoSmall }

/-- 'estoverslaw22.RegionChecks', WHERE WHAT IT READS IS OF BULK AT MOST 1048576: true; the input reads as it did. -/
def regionChecksUptoRow : OpenClaim := { program := "ytohodegmkepemaa", sum := "931d80de8c2bb0d56cf26446b1125397855cfd4928ad9ff132a2e1ac47af6719", func := "estovers/estoverslaw22.RegionChecks", spec := "regionChecks", apart := false, narrowed := true }
def RegionChecksUptoSaid : Prop := regionChecksUptoRow.holds Try.pinned (OpenSpec.upto regionChecksSpec)

/-- 'estoverslaw22.RegionMerges', WHERE WHAT IT READS IS OF BULK AT MOST 1048576: true; the input reads as it did. -/
def regionMergesUptoRow : OpenClaim := { program := "ytohodegmkepemaa", sum := "931d80de8c2bb0d56cf26446b1125397855cfd4928ad9ff132a2e1ac47af6719", func := "estovers/estoverslaw22.RegionMerges", spec := "regionMerges", apart := false, narrowed := true }
def RegionMergesUptoSaid : Prop := regionMergesUptoRow.holds Try.pinned (OpenSpec.upto regionMergesSpec)

/-- 'estoverslaw22.RegionSplits', WHERE WHAT IT READS IS OF BULK AT MOST 1048576: true; the input reads as it did. -/
def regionSplitsUptoRow : OpenClaim := { program := "ytohodegmkepemaa", sum := "931d80de8c2bb0d56cf26446b1125397855cfd4928ad9ff132a2e1ac47af6719", func := "estovers/estoverslaw22.RegionSplits", spec := "regionSplits", apart := false, narrowed := true }
def RegionSplitsUptoSaid : Prop := regionSplitsUptoRow.holds Try.pinned (OpenSpec.upto regionSplitsSpec)

/-- 'estoverslaw22.RegionCuts', WHERE WHAT IT READS IS OF BULK AT MOST 1048576: true; the input reads as it did. -/
def regionCutsUptoRow : OpenClaim := { program := "ytohodegmkepemaa", sum := "931d80de8c2bb0d56cf26446b1125397855cfd4928ad9ff132a2e1ac47af6719", func := "estovers/estoverslaw22.RegionCuts", spec := "regionCuts", apart := false, narrowed := true }
def RegionCutsUptoSaid : Prop := regionCutsUptoRow.holds Try.pinned (OpenSpec.upto regionCutsSpec)

/-- 'estoverslaw22.RegionPages', WHERE WHAT IT READS IS OF BULK AT MOST 1048576: true; the input reads as it did. -/
def regionPagesUptoRow : OpenClaim := { program := "ytohodegmkepemaa", sum := "931d80de8c2bb0d56cf26446b1125397855cfd4928ad9ff132a2e1ac47af6719", func := "estovers/estoverslaw22.RegionPages", spec := "regionPages", apart := false, narrowed := true }
def RegionPagesUptoSaid : Prop := regionPagesUptoRow.holds Try.pinned (OpenSpec.upto regionPagesSpec)

/-- 'estoverslaw22.RegionAsks', WHERE WHAT IT READS IS OF BULK AT MOST 1048576: true; the input reads as it did. -/
def regionAsksUptoRow : OpenClaim := { program := "ytohodegmkepemaa", sum := "931d80de8c2bb0d56cf26446b1125397855cfd4928ad9ff132a2e1ac47af6719", func := "estovers/estoverslaw22.RegionAsks", spec := "regionAsks", apart := false, narrowed := true }
def RegionAsksUptoSaid : Prop := regionAsksUptoRow.holds Try.pinned (OpenSpec.upto regionAsksSpec)

/-- 'estoverslaw22.RegionBack', WHERE WHAT IT READS IS OF BULK AT MOST 1048576: true; the input reads as it did. -/
def regionBackUptoRow : OpenClaim := { program := "ytohodegmkepemaa", sum := "931d80de8c2bb0d56cf26446b1125397855cfd4928ad9ff132a2e1ac47af6719", func := "estovers/estoverslaw22.RegionBack", spec := "regionBack", apart := false, narrowed := true }
def RegionBackUptoSaid : Prop := regionBackUptoRow.holds Try.pinned (OpenSpec.upto regionBackSpec)

/-- 'estoverslaw22.RegionMeets', WHERE WHAT IT READS IS OF BULK AT MOST 1048576: true; the input reads as it did. -/
def regionMeetsUptoRow : OpenClaim := { program := "ytohodegmkepemaa", sum := "931d80de8c2bb0d56cf26446b1125397855cfd4928ad9ff132a2e1ac47af6719", func := "estovers/estoverslaw22.RegionMeets", spec := "regionMeets", apart := false, narrowed := true }
def RegionMeetsUptoSaid : Prop := regionMeetsUptoRow.holds Try.pinned (OpenSpec.upto regionMeetsSpec)

end Rows
end Go.Proofs.Ytohodegmkepemaa
