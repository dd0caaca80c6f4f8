/-
  No cell of these rows narrows 'for every input' (looked for: loops, veiled, ifaces, maps, wideKeys, modest, calm, conditions, laid).
  DERIVED. THE GIVEN ROWS OF THIS SEAT. 7 by the template 'for every input the law returns true; each argument reads behind the call as it read before'; 0 by the template 'total and deterministic' (their statements: YtcbadcbahmclpaaTotals.lean).
  GIVEN WITH THE SEED: the statements are not yours to turn. If you find one false, say at which input.
  Laid BY PROGRAM, IN A SANDBOX (cutbox-rows.mjs): the forced cells as the released guide's own fill.sh prints them over the translation 87f430aaea681f89… (all of the seat's roots in one cut). By AI agents, Wed Nov 11 2026. No macro, syntax, notation, axiom, sorry.
-/
import Derived.Test.YtcbadcbahmclpaaChecked
import GoSem.Claim
import GoSem.ClaimJoined
import GoSem.ClaimMapViews
import Derived.JoinedTies
import Derived.KernelRfl
namespace Go.Proofs.Ytcbadcbahmclpaa
/- THE CELL 'sum', in the pinned program and in every row, IS THE sha256 OF THE DUMP (.gsa) THAT YtcbadcbahmclpaaProg.lean LOADS. Nothing in Lean hashes anything: it is a label: what it is worth is what the hold of that sum in a sandbox is worth. -/
noncomputable def Try.pinned : Pinned := { name := "ytcbadcbahmclpaa", sum := "87f430aaea681f897be66d3b0dd1da9e761d59c4f4bfa572e50a321d8dc388aa", checked := Try.checked }
namespace Rows
def none {H : Type} : Left H := { results := [], args := [] }

/-- 'estoverslaw26.FaultplanChecks': WHATEVER THE INPUT: true; the input reads as it did. -/
def faultplanChecksSpec : ChangeSpec := { name := "faultplanChecks", fn := fun _ => fun
  | [d] => { results := [.lit (.bool true)], args := [d] }
  | _ => none }
def faultplanChecksRow : OpenClaim := { program := "ytcbadcbahmclpaa", sum := "87f430aaea681f897be66d3b0dd1da9e761d59c4f4bfa572e50a321d8dc388aa", func := "estovers/estoverslaw26.FaultplanChecks", spec := "faultplanChecks", unfollowed := true, recurses := true, apart := false }
def FaultplanChecksSaid : Prop := faultplanChecksRow.holds Try.pinned (OpenSpec.ofChange faultplanChecksSpec)

/-- ITS FALSE NEIGHBOUR: 'it returns false'. Refute it at one input. -/
def faultplanChecksWrong : ChangeSpec := { name := "faultplanChecks", fn := fun _ => fun
  | [d] => { results := [.lit (.bool false)], args := [d] }
  | _ => none }
def FaultplanChecksWrongFalsely : Prop := faultplanChecksRow.holds Try.pinned (OpenSpec.ofChange faultplanChecksWrong)

/-- 'estoverslaw26.FaultplanPlans': WHATEVER THE INPUT: true; the input reads as it did. -/
def faultplanPlansSpec : ChangeSpec := { name := "faultplanPlans", fn := fun _ => fun
  | [d] => { results := [.lit (.bool true)], args := [d] }
  | _ => none }
def faultplanPlansRow : OpenClaim := { program := "ytcbadcbahmclpaa", sum := "87f430aaea681f897be66d3b0dd1da9e761d59c4f4bfa572e50a321d8dc388aa", func := "estovers/estoverslaw26.FaultplanPlans", spec := "faultplanPlans", unfollowed := true, recurses := true, apart := false }
def FaultplanPlansSaid : Prop := faultplanPlansRow.holds Try.pinned (OpenSpec.ofChange faultplanPlansSpec)

/-- ITS FALSE NEIGHBOUR: 'it returns false'. Refute it at one input. -/
def faultplanPlansWrong : ChangeSpec := { name := "faultplanPlans", fn := fun _ => fun
  | [d] => { results := [.lit (.bool false)], args := [d] }
  | _ => none }
def FaultplanPlansWrongFalsely : Prop := faultplanPlansRow.holds Try.pinned (OpenSpec.ofChange faultplanPlansWrong)

/-- 'estoverslaw26.FaultplanAfters': WHATEVER THE INPUT: true; the input reads as it did. -/
def faultplanAftersSpec : ChangeSpec := { name := "faultplanAfters", fn := fun _ => fun
  | [d] => { results := [.lit (.bool true)], args := [d] }
  | _ => none }
def faultplanAftersRow : OpenClaim := { program := "ytcbadcbahmclpaa", sum := "87f430aaea681f897be66d3b0dd1da9e761d59c4f4bfa572e50a321d8dc388aa", func := "estovers/estoverslaw26.FaultplanAfters", spec := "faultplanAfters", unfollowed := true, recurses := true, apart := false }
def FaultplanAftersSaid : Prop := faultplanAftersRow.holds Try.pinned (OpenSpec.ofChange faultplanAftersSpec)

/-- ITS FALSE NEIGHBOUR: 'it returns false'. Refute it at one input. -/
def faultplanAftersWrong : ChangeSpec := { name := "faultplanAfters", fn := fun _ => fun
  | [d] => { results := [.lit (.bool false)], args := [d] }
  | _ => none }
def FaultplanAftersWrongFalsely : Prop := faultplanAftersRow.holds Try.pinned (OpenSpec.ofChange faultplanAftersWrong)

/-- 'estoverslaw26.FaultplanEnds': WHATEVER THE INPUT: true; the input reads as it did. -/
def faultplanEndsSpec : ChangeSpec := { name := "faultplanEnds", fn := fun _ => fun
  | [d] => { results := [.lit (.bool true)], args := [d] }
  | _ => none }
def faultplanEndsRow : OpenClaim := { program := "ytcbadcbahmclpaa", sum := "87f430aaea681f897be66d3b0dd1da9e761d59c4f4bfa572e50a321d8dc388aa", func := "estovers/estoverslaw26.FaultplanEnds", spec := "faultplanEnds", unfollowed := true, recurses := true, apart := false }
def FaultplanEndsSaid : Prop := faultplanEndsRow.holds Try.pinned (OpenSpec.ofChange faultplanEndsSpec)

/-- ITS FALSE NEIGHBOUR: 'it returns false'. Refute it at one input. -/
def faultplanEndsWrong : ChangeSpec := { name := "faultplanEnds", fn := fun _ => fun
  | [d] => { results := [.lit (.bool false)], args := [d] }
  | _ => none }
def FaultplanEndsWrongFalsely : Prop := faultplanEndsRow.holds Try.pinned (OpenSpec.ofChange faultplanEndsWrong)

/-- 'estoverslaw26.FaultplanNeeds': WHATEVER THE INPUT: true; the input reads as it did. -/
def faultplanNeedsSpec : ChangeSpec := { name := "faultplanNeeds", fn := fun _ => fun
  | [d] => { results := [.lit (.bool true)], args := [d] }
  | _ => none }
def faultplanNeedsRow : OpenClaim := { program := "ytcbadcbahmclpaa", sum := "87f430aaea681f897be66d3b0dd1da9e761d59c4f4bfa572e50a321d8dc388aa", func := "estovers/estoverslaw26.FaultplanNeeds", spec := "faultplanNeeds", unfollowed := true, recurses := true, apart := false }
def FaultplanNeedsSaid : Prop := faultplanNeedsRow.holds Try.pinned (OpenSpec.ofChange faultplanNeedsSpec)

/-- ITS FALSE NEIGHBOUR: 'it returns false'. Refute it at one input. -/
def faultplanNeedsWrong : ChangeSpec := { name := "faultplanNeeds", fn := fun _ => fun
  | [d] => { results := [.lit (.bool false)], args := [d] }
  | _ => none }
def FaultplanNeedsWrongFalsely : Prop := faultplanNeedsRow.holds Try.pinned (OpenSpec.ofChange faultplanNeedsWrong)

/-- 'estoverslaw26.FaultplanRefuses': WHATEVER THE INPUT: true; the input reads as it did. -/
def faultplanRefusesSpec : ChangeSpec := { name := "faultplanRefuses", fn := fun _ => fun
  | [d] => { results := [.lit (.bool true)], args := [d] }
  | _ => none }
def faultplanRefusesRow : OpenClaim := { program := "ytcbadcbahmclpaa", sum := "87f430aaea681f897be66d3b0dd1da9e761d59c4f4bfa572e50a321d8dc388aa", func := "estovers/estoverslaw26.FaultplanRefuses", spec := "faultplanRefuses", unfollowed := true, recurses := true, apart := false }
def FaultplanRefusesSaid : Prop := faultplanRefusesRow.holds Try.pinned (OpenSpec.ofChange faultplanRefusesSpec)

/-- ITS FALSE NEIGHBOUR: 'it returns false'. Refute it at one input. -/
def faultplanRefusesWrong : ChangeSpec := { name := "faultplanRefuses", fn := fun _ => fun
  | [d] => { results := [.lit (.bool false)], args := [d] }
  | _ => none }
def FaultplanRefusesWrongFalsely : Prop := faultplanRefusesRow.holds Try.pinned (OpenSpec.ofChange faultplanRefusesWrong)

/-- 'estoverslaw26.FaultplanPrivate': WHATEVER THE INPUT: true; the input reads as it did. -/
def faultplanPrivateSpec : ChangeSpec := { name := "faultplanPrivate", fn := fun _ => fun
  | [d] => { results := [.lit (.bool true)], args := [d] }
  | _ => none }
def faultplanPrivateRow : OpenClaim := { program := "ytcbadcbahmclpaa", sum := "87f430aaea681f897be66d3b0dd1da9e761d59c4f4bfa572e50a321d8dc388aa", func := "estovers/estoverslaw26.FaultplanPrivate", spec := "faultplanPrivate", unfollowed := true, recurses := true, apart := false }
def FaultplanPrivateSaid : Prop := faultplanPrivateRow.holds Try.pinned (OpenSpec.ofChange faultplanPrivateSpec)

/-- ITS FALSE NEIGHBOUR: 'it returns false'. Refute it at one input. -/
def faultplanPrivateWrong : ChangeSpec := { name := "faultplanPrivate", fn := fun _ => fun
  | [d] => { results := [.lit (.bool false)], args := [d] }
  | _ => none }
def FaultplanPrivateWrongFalsely : Prop := faultplanPrivateRow.holds Try.pinned (OpenSpec.ofChange faultplanPrivateWrong)

/- THE SECOND FORM. 'bulk': how many values and letters a reading holds, each counted each time it is reached (what is shared counts as often as it is met; a slice's spare places count too). A statement '..UptoSaid' is the law's where the arguments, and the package variables that the reading takes, are together of bulk at most 1048576: NARROWER than '..Said'. Prove '..Said' where nothing that the law and all that it calls make is longer than what came in: it says more and counts as full. Else prove '..UptoSaid'. A law counts once. -/
mutual
def uptoBulk {H : Type} : DataW H → Nat
  | .lit (.string bytes) => bytes.length + 1
  | .lit _ => 1
  | .nil => 1
  | .ptr d => uptoBulk d + 1
  | .slice elems spare => uptoBulkAll elems + uptoBulkAll spare + 1
  | .agg parts => uptoBulkAll parts + 1
  | .iface _ d => uptoBulk d + 1
  | .map entries => uptoBulkEntries entries + 1
  | .held _ => 1
def uptoBulkAll {H : Type} : List (DataW H) → Nat
  | [] => 0
  | d :: r => uptoBulk d + uptoBulkAll r
def uptoBulkEntries {H : Type} : List (Lit × DataW H) → Nat
  | [] => 0
  | x :: r => uptoBulkEntry x + uptoBulkEntries r
def uptoBulkEntry {H : Type} : Lit × DataW H → Nat
  | (.string bytes, d) => bytes.length + uptoBulk d + 1
  | (_, d) => uptoBulk d + 1
 end
def uptoSmall : (H : Type) → List (DataW H) → Bool := fun _ ds => decide (uptoBulkAll ds ≤ 1048576)
def OpenSpec.upto (s : _root_.Go.ChangeSpec) : _root_.Go.OpenSpec := { _root_.Go.OpenSpec.ofChange s with cond := some uptoSmall }

/-- 'estoverslaw26.FaultplanChecks', WHERE WHAT IT READS IS OF BULK AT MOST 1048576: true; the input reads as it did. -/
def faultplanChecksUptoRow : OpenClaim := { program := "ytcbadcbahmclpaa", sum := "87f430aaea681f897be66d3b0dd1da9e761d59c4f4bfa572e50a321d8dc388aa", func := "estovers/estoverslaw26.FaultplanChecks", spec := "faultplanChecks", unfollowed := true, recurses := true, apart := false, narrowed := true }
def FaultplanChecksUptoSaid : Prop := faultplanChecksUptoRow.holds Try.pinned (OpenSpec.upto faultplanChecksSpec)

/-- 'estoverslaw26.FaultplanPlans', WHERE WHAT IT READS IS OF BULK AT MOST 1048576: true; the input reads as it did. -/
def faultplanPlansUptoRow : OpenClaim := { program := "ytcbadcbahmclpaa", sum := "87f430aaea681f897be66d3b0dd1da9e761d59c4f4bfa572e50a321d8dc388aa", func := "estovers/estoverslaw26.FaultplanPlans", spec := "faultplanPlans", unfollowed := true, recurses := true, apart := false, narrowed := true }
def FaultplanPlansUptoSaid : Prop := faultplanPlansUptoRow.holds Try.pinned (OpenSpec.upto faultplanPlansSpec)

/-- 'estoverslaw26.FaultplanAfters', WHERE WHAT IT READS IS OF BULK AT MOST 1048576: true; the input reads as it did. -/
def faultplanAftersUptoRow : OpenClaim := { program := "ytcbadcbahmclpaa", sum := "87f430aaea681f897be66d3b0dd1da9e761d59c4f4bfa572e50a321d8dc388aa", func := "estovers/estoverslaw26.FaultplanAfters", spec := "faultplanAfters", unfollowed := true, recurses := true, apart := false, narrowed := true }
def FaultplanAftersUptoSaid : Prop := faultplanAftersUptoRow.holds Try.pinned (OpenSpec.upto faultplanAftersSpec)

/-- 'estoverslaw26.FaultplanEnds', WHERE WHAT IT READS IS OF BULK AT MOST 1048576: true; the input reads as it did. -/
def faultplanEndsUptoRow : OpenClaim := { program := "ytcbadcbahmclpaa", sum := "87f430aaea681f897be66d3b0dd1da9e761d59c4f4bfa572e50a321d8dc388aa", func := "estovers/estoverslaw26.FaultplanEnds", spec := "faultplanEnds", unfollowed := true, recurses := true, apart := false, narrowed := true }
def FaultplanEndsUptoSaid : Prop := faultplanEndsUptoRow.holds Try.pinned (OpenSpec.upto faultplanEndsSpec)

/-- 'estoverslaw26.FaultplanNeeds', WHERE WHAT IT READS IS OF BULK AT MOST 1048576: true; the input reads as it did. -/
def faultplanNeedsUptoRow : OpenClaim := { program := "ytcbadcbahmclpaa", sum := "87f430aaea681f897be66d3b0dd1da9e761d59c4f4bfa572e50a321d8dc388aa", func := "estovers/estoverslaw26.FaultplanNeeds", spec := "faultplanNeeds", unfollowed := true, recurses := true, apart := false, narrowed := true }
def FaultplanNeedsUptoSaid : Prop := faultplanNeedsUptoRow.holds Try.pinned (OpenSpec.upto faultplanNeedsSpec)

/-- 'estoverslaw26.FaultplanRefuses', WHERE WHAT IT READS IS OF BULK AT MOST 1048576: true; the input reads as it did. -/
def faultplanRefusesUptoRow : OpenClaim := { program := "ytcbadcbahmclpaa", sum := "87f430aaea681f897be66d3b0dd1da9e761d59c4f4bfa572e50a321d8dc388aa", func := "estovers/estoverslaw26.FaultplanRefuses", spec := "faultplanRefuses", unfollowed := true, recurses := true, apart := false, narrowed := true }
def FaultplanRefusesUptoSaid : Prop := faultplanRefusesUptoRow.holds Try.pinned (OpenSpec.upto faultplanRefusesSpec)

/-- 'estoverslaw26.FaultplanPrivate', WHERE WHAT IT READS IS OF BULK AT MOST 1048576: true; the input reads as it did. -/
def faultplanPrivateUptoRow : OpenClaim := { program := "ytcbadcbahmclpaa", sum := "87f430aaea681f897be66d3b0dd1da9e761d59c4f4bfa572e50a321d8dc388aa", func := "estovers/estoverslaw26.FaultplanPrivate", spec := "faultplanPrivate", unfollowed := true, recurses := true, apart := false, narrowed := true }
def FaultplanPrivateUptoSaid : Prop := faultplanPrivateUptoRow.holds Try.pinned (OpenSpec.upto faultplanPrivateSpec)

end Rows
end Go.Proofs.Ytcbadcbahmclpaa
