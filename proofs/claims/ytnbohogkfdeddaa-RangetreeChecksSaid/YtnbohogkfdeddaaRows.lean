/-
  NARROWER THAN 'FOR EVERY INPUT', by the rows' own cells (each row's printed sentence says how): RangetreeChecks: loops.
  DERIVED. THE GIVEN ROWS OF THIS SEAT. 8 by the template 'for every input the law returns true; each argument reads behind the call as it read before'; 0 by the template 'total and deterministic' (their statements: YtnbohogkfdeddaaTotals.lean).
  GIVEN WITH THE SEED: the statements are not yours to turn. If you find one false, say at which input.
  Laid BY PROGRAM, IN A SANDBOX (cutbox-rows.mjs): the forced cells as the released guide's own fill.sh prints them over the translation 312bfa28fee6e759… (all of the seat's roots in one cut). By AI agents, Wed Nov 11 2026. No macro, syntax, notation, axiom, sorry.
-/
import Derived.Test.YtnbohogkfdeddaaChecked
import GoSem.Claim
import GoSem.ClaimJoined
import GoSem.ClaimMapViews
import Derived.JoinedTies
import Derived.KernelRfl
namespace Go.Proofs.Ytnbohogkfdeddaa
/- THE CELL 'sum', in the pinned program and in every row, IS THE sha256 OF THE DUMP (.gsa) THAT YtnbohogkfdeddaaProg.lean LOADS. Nothing in Lean hashes anything: it is a label: what it is worth is what the hold of that sum in a sandbox is worth. -/
noncomputable def Try.pinned : Pinned := { name := "ytnbohogkfdeddaa", sum := "312bfa28fee6e759caf8f3b3464161ee67bd17d77bc94c3240c31e8fc5672396", checked := Try.checked }
namespace Rows
def none {H : Type} : Left H := { results := [], args := [] }

/-- 'estoverslaw03.RangetreeBuilds': WHATEVER THE INPUT: true; the input reads as it did. -/
def rangetreeBuildsSpec : ChangeSpec := { name := "rangetreeBuilds", fn := fun _ => fun
  | [d] => { results := [.lit (.bool true)], args := [d] }
  | _ => none }
def rangetreeBuildsRow : OpenClaim := { program := "ytnbohogkfdeddaa", sum := "312bfa28fee6e759caf8f3b3464161ee67bd17d77bc94c3240c31e8fc5672396", func := "estovers/estoverslaw03.RangetreeBuilds", spec := "rangetreeBuilds", unfollowed := true, recurses := true, apart := false }
def RangetreeBuildsSaid : Prop := rangetreeBuildsRow.holds Try.pinned (OpenSpec.ofChange rangetreeBuildsSpec)

/-- ITS FALSE NEIGHBOUR: 'it returns false'. Refute it at one input. -/
def rangetreeBuildsWrong : ChangeSpec := { name := "rangetreeBuilds", fn := fun _ => fun
  | [d] => { results := [.lit (.bool false)], args := [d] }
  | _ => none }
def RangetreeBuildsWrongFalsely : Prop := rangetreeBuildsRow.holds Try.pinned (OpenSpec.ofChange rangetreeBuildsWrong)

/-- 'estoverslaw03.RangetreeSteps': WHATEVER THE INPUT: true; the input reads as it did. -/
def rangetreeStepsSpec : ChangeSpec := { name := "rangetreeSteps", fn := fun _ => fun
  | [d] => { results := [.lit (.bool true)], args := [d] }
  | _ => none }
def rangetreeStepsRow : OpenClaim := { program := "ytnbohogkfdeddaa", sum := "312bfa28fee6e759caf8f3b3464161ee67bd17d77bc94c3240c31e8fc5672396", func := "estovers/estoverslaw03.RangetreeSteps", spec := "rangetreeSteps", unfollowed := true, recurses := true, apart := false }
def RangetreeStepsSaid : Prop := rangetreeStepsRow.holds Try.pinned (OpenSpec.ofChange rangetreeStepsSpec)

/-- ITS FALSE NEIGHBOUR: 'it returns false'. Refute it at one input. -/
def rangetreeStepsWrong : ChangeSpec := { name := "rangetreeSteps", fn := fun _ => fun
  | [d] => { results := [.lit (.bool false)], args := [d] }
  | _ => none }
def RangetreeStepsWrongFalsely : Prop := rangetreeStepsRow.holds Try.pinned (OpenSpec.ofChange rangetreeStepsWrong)

/-- 'estoverslaw03.RangetreeLists': WHATEVER THE INPUT: true; the input reads as it did. -/
def rangetreeListsSpec : ChangeSpec := { name := "rangetreeLists", fn := fun _ => fun
  | [d] => { results := [.lit (.bool true)], args := [d] }
  | _ => none }
def rangetreeListsRow : OpenClaim := { program := "ytnbohogkfdeddaa", sum := "312bfa28fee6e759caf8f3b3464161ee67bd17d77bc94c3240c31e8fc5672396", func := "estovers/estoverslaw03.RangetreeLists", spec := "rangetreeLists", unfollowed := true, recurses := true, apart := false }
def RangetreeListsSaid : Prop := rangetreeListsRow.holds Try.pinned (OpenSpec.ofChange rangetreeListsSpec)

/-- ITS FALSE NEIGHBOUR: 'it returns false'. Refute it at one input. -/
def rangetreeListsWrong : ChangeSpec := { name := "rangetreeLists", fn := fun _ => fun
  | [d] => { results := [.lit (.bool false)], args := [d] }
  | _ => none }
def RangetreeListsWrongFalsely : Prop := rangetreeListsRow.holds Try.pinned (OpenSpec.ofChange rangetreeListsWrong)

/-- 'estoverslaw03.RangetreeChecks': WHATEVER THE INPUT: true; the input reads as it did. -/
def rangetreeChecksSpec : ChangeSpec := { name := "rangetreeChecks", fn := fun _ => fun
  | [d1, d2] => { results := [.lit (.bool true)], args := [d1, d2] }
  | _ => none }
def rangetreeChecksRow : OpenClaim := { program := "ytnbohogkfdeddaa", sum := "312bfa28fee6e759caf8f3b3464161ee67bd17d77bc94c3240c31e8fc5672396", func := "estovers/estoverslaw03.RangetreeChecks", spec := "rangetreeChecks", unfollowed := true, recurses := true, loops := true, apart := false }
def RangetreeChecksSaid : Prop := rangetreeChecksRow.holds Try.pinned (OpenSpec.ofChange rangetreeChecksSpec)

/-- ITS FALSE NEIGHBOUR: 'it returns false'. Refute it at one input. -/
def rangetreeChecksWrong : ChangeSpec := { name := "rangetreeChecks", fn := fun _ => fun
  | [d1, d2] => { results := [.lit (.bool false)], args := [d1, d2] }
  | _ => none }
def RangetreeChecksWrongFalsely : Prop := rangetreeChecksRow.holds Try.pinned (OpenSpec.ofChange rangetreeChecksWrong)

/-- 'estoverslaw03.RangetreeHeight': WHATEVER THE INPUT: true; the input reads as it did. -/
def rangetreeHeightSpec : ChangeSpec := { name := "rangetreeHeight", fn := fun _ => fun
  | [d] => { results := [.lit (.bool true)], args := [d] }
  | _ => none }
def rangetreeHeightRow : OpenClaim := { program := "ytnbohogkfdeddaa", sum := "312bfa28fee6e759caf8f3b3464161ee67bd17d77bc94c3240c31e8fc5672396", func := "estovers/estoverslaw03.RangetreeHeight", spec := "rangetreeHeight", unfollowed := true, recurses := true, apart := false }
def RangetreeHeightSaid : Prop := rangetreeHeightRow.holds Try.pinned (OpenSpec.ofChange rangetreeHeightSpec)

/-- ITS FALSE NEIGHBOUR: 'it returns false'. Refute it at one input. -/
def rangetreeHeightWrong : ChangeSpec := { name := "rangetreeHeight", fn := fun _ => fun
  | [d] => { results := [.lit (.bool false)], args := [d] }
  | _ => none }
def RangetreeHeightWrongFalsely : Prop := rangetreeHeightRow.holds Try.pinned (OpenSpec.ofChange rangetreeHeightWrong)

/-- 'estoverslaw03.RangetreeFinds': WHATEVER THE INPUT: true; the input reads as it did. -/
def rangetreeFindsSpec : ChangeSpec := { name := "rangetreeFinds", fn := fun _ => fun
  | [d1, d2] => { results := [.lit (.bool true)], args := [d1, d2] }
  | _ => none }
def rangetreeFindsRow : OpenClaim := { program := "ytnbohogkfdeddaa", sum := "312bfa28fee6e759caf8f3b3464161ee67bd17d77bc94c3240c31e8fc5672396", func := "estovers/estoverslaw03.RangetreeFinds", spec := "rangetreeFinds", unfollowed := true, recurses := true, apart := false }
def RangetreeFindsSaid : Prop := rangetreeFindsRow.holds Try.pinned (OpenSpec.ofChange rangetreeFindsSpec)

/-- ITS FALSE NEIGHBOUR: 'it returns false'. Refute it at one input. -/
def rangetreeFindsWrong : ChangeSpec := { name := "rangetreeFinds", fn := fun _ => fun
  | [d1, d2] => { results := [.lit (.bool false)], args := [d1, d2] }
  | _ => none }
def RangetreeFindsWrongFalsely : Prop := rangetreeFindsRow.holds Try.pinned (OpenSpec.ofChange rangetreeFindsWrong)

/-- 'estoverslaw03.RangetreeGaps': WHATEVER THE INPUT: true; the input reads as it did. -/
def rangetreeGapsSpec : ChangeSpec := { name := "rangetreeGaps", fn := fun _ => fun
  | [d1, d2] => { results := [.lit (.bool true)], args := [d1, d2] }
  | _ => none }
def rangetreeGapsRow : OpenClaim := { program := "ytnbohogkfdeddaa", sum := "312bfa28fee6e759caf8f3b3464161ee67bd17d77bc94c3240c31e8fc5672396", func := "estovers/estoverslaw03.RangetreeGaps", spec := "rangetreeGaps", unfollowed := true, recurses := true, apart := false }
def RangetreeGapsSaid : Prop := rangetreeGapsRow.holds Try.pinned (OpenSpec.ofChange rangetreeGapsSpec)

/-- ITS FALSE NEIGHBOUR: 'it returns false'. Refute it at one input. -/
def rangetreeGapsWrong : ChangeSpec := { name := "rangetreeGaps", fn := fun _ => fun
  | [d1, d2] => { results := [.lit (.bool false)], args := [d1, d2] }
  | _ => none }
def RangetreeGapsWrongFalsely : Prop := rangetreeGapsRow.holds Try.pinned (OpenSpec.ofChange rangetreeGapsWrong)

/-- 'estoverslaw03.RangetreeBack': WHATEVER THE INPUT: true; the input reads as it did. -/
def rangetreeBackSpec : ChangeSpec := { name := "rangetreeBack", fn := fun _ => fun
  | [d1, d2] => { results := [.lit (.bool true)], args := [d1, d2] }
  | _ => none }
def rangetreeBackRow : OpenClaim := { program := "ytnbohogkfdeddaa", sum := "312bfa28fee6e759caf8f3b3464161ee67bd17d77bc94c3240c31e8fc5672396", func := "estovers/estoverslaw03.RangetreeBack", spec := "rangetreeBack", unfollowed := true, recurses := true, apart := false }
def RangetreeBackSaid : Prop := rangetreeBackRow.holds Try.pinned (OpenSpec.ofChange rangetreeBackSpec)

/-- ITS FALSE NEIGHBOUR: 'it returns false'. Refute it at one input. -/
def rangetreeBackWrong : ChangeSpec := { name := "rangetreeBack", fn := fun _ => fun
  | [d1, d2] => { results := [.lit (.bool false)], args := [d1, d2] }
  | _ => none }
def RangetreeBackWrongFalsely : Prop := rangetreeBackRow.holds Try.pinned (OpenSpec.ofChange rangetreeBackWrong)

/- THE SECOND FORM. 'bulk': how many values and letters a reading holds, each counted each time it is reached (what is shared counts as often as it is met; a slice's spare places count too). A statement '..UptoSaid' is the law's where the arguments, and the package variables that the reading takes, are together of bulk at most 1048576: NARROWER than '..Said'. Prove '..Said' where nothing that the law and all that it calls make is longer than what came in: it says more and counts as full. Else prove '..UptoSaid'. A law counts once. -/
mutual
def uptoBulk {H : Type} : DataW H → Nat
  | .lit (.string bytes) => bytes.length + 1
  | .lit _ => 1
  | .nil => 1
  | .ptr d => uptoBulk d + 1
  | .slice elems spare => uptoBulkAll elems + uptoBulkAll spare + 1
  | .agg parts => uptoBulkAll parts + 1
  | .iface _ d => uptoBulk d + 1
  | .map entries => uptoBulkEntries entries + 1
  | .held _ => 1
def uptoBulkAll {H : Type} : List (DataW H) → Nat
  | [] => 0
  | d :: r => uptoBulk d + uptoBulkAll r
def uptoBulkEntries {H : Type} : List (Lit × DataW H) → Nat
  | [] => 0
  | x :: r => uptoBulkEntry x + uptoBulkEntries r
def uptoBulkEntry {H : Type} : Lit × DataW H → Nat
  | (.string bytes, d) => bytes.length + uptoBulk d + 1
  | (_, d) => uptoBulk d + 1
 end
def uptoSmall : (H : Type) → List (DataW H) → Bool := fun _ ds => decide (uptoBulkAll ds ≤ 1048576)
def OpenSpec.upto (s : _root_.Go.ChangeSpec) : _root_.Go.OpenSpec := { _root_.Go.OpenSpec.ofChange s with cond := some uptoSmall }

/-- 'estoverslaw03.RangetreeBuilds', WHERE WHAT IT READS IS OF BULK AT MOST 1048576: true; the input reads as it did. -/
def rangetreeBuildsUptoRow : OpenClaim := { program := "ytnbohogkfdeddaa", sum := "312bfa28fee6e759caf8f3b3464161ee67bd17d77bc94c3240c31e8fc5672396", func := "estovers/estoverslaw03.RangetreeBuilds", spec := "rangetreeBuilds", unfollowed := true, recurses := true, apart := false, narrowed := true }
def RangetreeBuildsUptoSaid : Prop := rangetreeBuildsUptoRow.holds Try.pinned (OpenSpec.upto rangetreeBuildsSpec)

/-- 'estoverslaw03.RangetreeSteps', WHERE WHAT IT READS IS OF BULK AT MOST 1048576: true; the input reads as it did. -/
def rangetreeStepsUptoRow : OpenClaim := { program := "ytnbohogkfdeddaa", sum := "312bfa28fee6e759caf8f3b3464161ee67bd17d77bc94c3240c31e8fc5672396", func := "estovers/estoverslaw03.RangetreeSteps", spec := "rangetreeSteps", unfollowed := true, recurses := true, apart := false, narrowed := true }
def RangetreeStepsUptoSaid : Prop := rangetreeStepsUptoRow.holds Try.pinned (OpenSpec.upto rangetreeStepsSpec)

/-- 'estoverslaw03.RangetreeLists', WHERE WHAT IT READS IS OF BULK AT MOST 1048576: true; the input reads as it did. -/
def rangetreeListsUptoRow : OpenClaim := { program := "ytnbohogkfdeddaa", sum := "312bfa28fee6e759caf8f3b3464161ee67bd17d77bc94c3240c31e8fc5672396", func := "estovers/estoverslaw03.RangetreeLists", spec := "rangetreeLists", unfollowed := true, recurses := true, apart := false, narrowed := true }
def RangetreeListsUptoSaid : Prop := rangetreeListsUptoRow.holds Try.pinned (OpenSpec.upto rangetreeListsSpec)

/-- 'estoverslaw03.RangetreeChecks', WHERE WHAT IT READS IS OF BULK AT MOST 1048576: true; the input reads as it did. -/
def rangetreeChecksUptoRow : OpenClaim := { program := "ytnbohogkfdeddaa", sum := "312bfa28fee6e759caf8f3b3464161ee67bd17d77bc94c3240c31e8fc5672396", func := "estovers/estoverslaw03.RangetreeChecks", spec := "rangetreeChecks", unfollowed := true, recurses := true, loops := true, apart := false, narrowed := true }
def RangetreeChecksUptoSaid : Prop := rangetreeChecksUptoRow.holds Try.pinned (OpenSpec.upto rangetreeChecksSpec)

/-- 'estoverslaw03.RangetreeHeight', WHERE WHAT IT READS IS OF BULK AT MOST 1048576: true; the input reads as it did. -/
def rangetreeHeightUptoRow : OpenClaim := { program := "ytnbohogkfdeddaa", sum := "312bfa28fee6e759caf8f3b3464161ee67bd17d77bc94c3240c31e8fc5672396", func := "estovers/estoverslaw03.RangetreeHeight", spec := "rangetreeHeight", unfollowed := true, recurses := true, apart := false, narrowed := true }
def RangetreeHeightUptoSaid : Prop := rangetreeHeightUptoRow.holds Try.pinned (OpenSpec.upto rangetreeHeightSpec)

/-- 'estoverslaw03.RangetreeFinds', WHERE WHAT IT READS IS OF BULK AT MOST 1048576: true; the input reads as it did. -/
def rangetreeFindsUptoRow : OpenClaim := { program := "ytnbohogkfdeddaa", sum := "312bfa28fee6e759caf8f3b3464161ee67bd17d77bc94c3240c31e8fc5672396", func := "estovers/estoverslaw03.RangetreeFinds", spec := "rangetreeFinds", unfollowed := true, recurses := true, apart := false, narrowed := true }
def RangetreeFindsUptoSaid : Prop := rangetreeFindsUptoRow.holds Try.pinned (OpenSpec.upto rangetreeFindsSpec)

/-- 'estoverslaw03.RangetreeGaps', WHERE WHAT IT READS IS OF BULK AT MOST 1048576: true; the input reads as it did. -/
def rangetreeGapsUptoRow : OpenClaim := { program := "ytnbohogkfdeddaa", sum := "312bfa28fee6e759caf8f3b3464161ee67bd17d77bc94c3240c31e8fc5672396", func := "estovers/estoverslaw03.RangetreeGaps", spec := "rangetreeGaps", unfollowed := true, recurses := true, apart := false, narrowed := true }
def RangetreeGapsUptoSaid : Prop := rangetreeGapsUptoRow.holds Try.pinned (OpenSpec.upto rangetreeGapsSpec)

/-- 'estoverslaw03.RangetreeBack', WHERE WHAT IT READS IS OF BULK AT MOST 1048576: true; the input reads as it did. -/
def rangetreeBackUptoRow : OpenClaim := { program := "ytnbohogkfdeddaa", sum := "312bfa28fee6e759caf8f3b3464161ee67bd17d77bc94c3240c31e8fc5672396", func := "estovers/estoverslaw03.RangetreeBack", spec := "rangetreeBack", unfollowed := true, recurses := true, apart := false, narrowed := true }
def RangetreeBackUptoSaid : Prop := rangetreeBackUptoRow.holds Try.pinned (OpenSpec.upto rangetreeBackSpec)

end Rows
end Go.Proofs.Ytnbohogkfdeddaa
