/-
  NARROWER THAN 'FOR EVERY INPUT', by the rows' own cells (each row's printed sentence says how): AddrspaceMaps: loops · AddrspaceUnmaps: loops · AddrspaceGrows: loops · AddrspaceChecks: loops · AddrspaceProtects: loops · AddrspaceStacks: loops · AddrspaceLowest: loops · AddrspaceKeeps: loops.
  DERIVED. THE GIVEN ROWS OF THIS SEAT. 10 by the template 'for every input the law returns true; each argument reads behind the call as it read before'; 0 by the template 'total and deterministic' (their statements: YtjdpignfdncebaaTotals.lean).
  GIVEN WITH THE SEED: the statements are not yours to turn. If you find one false, say at which input.
  Laid BY PROGRAM, IN A SANDBOX (cutbox-rows.mjs): the forced cells as the released guide's own fill.sh prints them over the translation ab8a156f2947af7c… (all of the seat's roots in one cut). By AI agents, Wed Nov 11 2026. No macro, syntax, notation, axiom, sorry.
-/
import Derived.Test.YtjdpignfdncebaaChecked
import GoSem.Claim
import GoSem.ClaimJoined
import GoSem.ClaimMapViews
import Derived.JoinedTies
import Derived.KernelRfl
namespace Go.Proofs.Ytjdpignfdncebaa
/- THE CELL 'sum', in the pinned program and in every row, IS THE sha256 OF THE DUMP (.gsa) THAT YtjdpignfdncebaaProg.lean LOADS. Nothing in Lean hashes anything: it is a label: what it is worth is what the hold of that sum in a sandbox is worth. -/
noncomputable def Try.pinned : Pinned := { name := "ytjdpignfdncebaa", sum := "ab8a156f2947af7c3e68c898a25dd4d43d02ae39d4ef45384114aa49977e4a11", checked := Try.checked }
namespace Rows
def none {H : Type} : Left H := { results := [], args := [] }

/-- 'estoverslaw23.AddrspaceMaps': WHATEVER THE INPUT: true; the input reads as it did. -/
def addrspaceMapsSpec : ChangeSpec := { name := "addrspaceMaps", fn := fun _ => fun
  | [d1, d2, d3] => { results := [.lit (.bool true)], args := [d1, d2, d3] }
  | _ => none }
def addrspaceMapsRow : OpenClaim := { program := "ytjdpignfdncebaa", sum := "ab8a156f2947af7c3e68c898a25dd4d43d02ae39d4ef45384114aa49977e4a11", func := "estovers/estoverslaw23.AddrspaceMaps", spec := "addrspaceMaps", inPlace := ["slices.overlaps[estovers/api.Region]"], unfollowed := true, recurses := true, loops := true, apart := false }
def AddrspaceMapsSaid : Prop := addrspaceMapsRow.holds Try.pinned (OpenSpec.ofChange addrspaceMapsSpec)

/-- ITS FALSE NEIGHBOUR: 'it returns false'. Refute it at one input. -/
def addrspaceMapsWrong : ChangeSpec := { name := "addrspaceMaps", fn := fun _ => fun
  | [d1, d2, d3] => { results := [.lit (.bool false)], args := [d1, d2, d3] }
  | _ => none }
def AddrspaceMapsWrongFalsely : Prop := addrspaceMapsRow.holds Try.pinned (OpenSpec.ofChange addrspaceMapsWrong)

/-- 'estoverslaw23.AddrspaceUnmaps': WHATEVER THE INPUT: true; the input reads as it did. -/
def addrspaceUnmapsSpec : ChangeSpec := { name := "addrspaceUnmaps", fn := fun _ => fun
  | [d1, d2, d3] => { results := [.lit (.bool true)], args := [d1, d2, d3] }
  | _ => none }
def addrspaceUnmapsRow : OpenClaim := { program := "ytjdpignfdncebaa", sum := "ab8a156f2947af7c3e68c898a25dd4d43d02ae39d4ef45384114aa49977e4a11", func := "estovers/estoverslaw23.AddrspaceUnmaps", spec := "addrspaceUnmaps", inPlace := ["slices.overlaps[estovers/api.Region]"], unfollowed := true, recurses := true, loops := true, apart := false }
def AddrspaceUnmapsSaid : Prop := addrspaceUnmapsRow.holds Try.pinned (OpenSpec.ofChange addrspaceUnmapsSpec)

/-- ITS FALSE NEIGHBOUR: 'it returns false'. Refute it at one input. -/
def addrspaceUnmapsWrong : ChangeSpec := { name := "addrspaceUnmaps", fn := fun _ => fun
  | [d1, d2, d3] => { results := [.lit (.bool false)], args := [d1, d2, d3] }
  | _ => none }
def AddrspaceUnmapsWrongFalsely : Prop := addrspaceUnmapsRow.holds Try.pinned (OpenSpec.ofChange addrspaceUnmapsWrong)

/-- 'estoverslaw23.AddrspaceGrows': WHATEVER THE INPUT: true; the input reads as it did. -/
def addrspaceGrowsSpec : ChangeSpec := { name := "addrspaceGrows", fn := fun _ => fun
  | [d1, d2] => { results := [.lit (.bool true)], args := [d1, d2] }
  | _ => none }
def addrspaceGrowsRow : OpenClaim := { program := "ytjdpignfdncebaa", sum := "ab8a156f2947af7c3e68c898a25dd4d43d02ae39d4ef45384114aa49977e4a11", func := "estovers/estoverslaw23.AddrspaceGrows", spec := "addrspaceGrows", inPlace := ["slices.overlaps[estovers/api.Region]"], unfollowed := true, recurses := true, loops := true, apart := false }
def AddrspaceGrowsSaid : Prop := addrspaceGrowsRow.holds Try.pinned (OpenSpec.ofChange addrspaceGrowsSpec)

/-- ITS FALSE NEIGHBOUR: 'it returns false'. Refute it at one input. -/
def addrspaceGrowsWrong : ChangeSpec := { name := "addrspaceGrows", fn := fun _ => fun
  | [d1, d2] => { results := [.lit (.bool false)], args := [d1, d2] }
  | _ => none }
def AddrspaceGrowsWrongFalsely : Prop := addrspaceGrowsRow.holds Try.pinned (OpenSpec.ofChange addrspaceGrowsWrong)

/-- 'estoverslaw23.AddrspaceChecks': WHATEVER THE INPUT: true; the input reads as it did. -/
def addrspaceChecksSpec : ChangeSpec := { name := "addrspaceChecks", fn := fun _ => fun
  | [d1, d2] => { results := [.lit (.bool true)], args := [d1, d2] }
  | _ => none }
def addrspaceChecksRow : OpenClaim := { program := "ytjdpignfdncebaa", sum := "ab8a156f2947af7c3e68c898a25dd4d43d02ae39d4ef45384114aa49977e4a11", func := "estovers/estoverslaw23.AddrspaceChecks", spec := "addrspaceChecks", inPlace := ["slices.overlaps[estovers/api.Region]"], unfollowed := true, recurses := true, loops := true, apart := false }
def AddrspaceChecksSaid : Prop := addrspaceChecksRow.holds Try.pinned (OpenSpec.ofChange addrspaceChecksSpec)

/-- ITS FALSE NEIGHBOUR: 'it returns false'. Refute it at one input. -/
def addrspaceChecksWrong : ChangeSpec := { name := "addrspaceChecks", fn := fun _ => fun
  | [d1, d2] => { results := [.lit (.bool false)], args := [d1, d2] }
  | _ => none }
def AddrspaceChecksWrongFalsely : Prop := addrspaceChecksRow.holds Try.pinned (OpenSpec.ofChange addrspaceChecksWrong)

/-- 'estoverslaw23.AddrspaceProtects': WHATEVER THE INPUT: true; the input reads as it did. -/
def addrspaceProtectsSpec : ChangeSpec := { name := "addrspaceProtects", fn := fun _ => fun
  | [d1, d2, d3] => { results := [.lit (.bool true)], args := [d1, d2, d3] }
  | _ => none }
def addrspaceProtectsRow : OpenClaim := { program := "ytjdpignfdncebaa", sum := "ab8a156f2947af7c3e68c898a25dd4d43d02ae39d4ef45384114aa49977e4a11", func := "estovers/estoverslaw23.AddrspaceProtects", spec := "addrspaceProtects", inPlace := ["slices.overlaps[estovers/api.Region]"], unfollowed := true, recurses := true, loops := true, apart := false }
def AddrspaceProtectsSaid : Prop := addrspaceProtectsRow.holds Try.pinned (OpenSpec.ofChange addrspaceProtectsSpec)

/-- ITS FALSE NEIGHBOUR: 'it returns false'. Refute it at one input. -/
def addrspaceProtectsWrong : ChangeSpec := { name := "addrspaceProtects", fn := fun _ => fun
  | [d1, d2, d3] => { results := [.lit (.bool false)], args := [d1, d2, d3] }
  | _ => none }
def AddrspaceProtectsWrongFalsely : Prop := addrspaceProtectsRow.holds Try.pinned (OpenSpec.ofChange addrspaceProtectsWrong)

/-- 'estoverslaw23.AddrspaceCanonical': WHATEVER THE INPUT: true; the input reads as it did. -/
def addrspaceCanonicalSpec : ChangeSpec := { name := "addrspaceCanonical", fn := fun _ => fun
  | [d] => { results := [.lit (.bool true)], args := [d] }
  | _ => none }
def addrspaceCanonicalRow : OpenClaim := { program := "ytjdpignfdncebaa", sum := "ab8a156f2947af7c3e68c898a25dd4d43d02ae39d4ef45384114aa49977e4a11", func := "estovers/estoverslaw23.AddrspaceCanonical", spec := "addrspaceCanonical", inPlace := ["slices.overlaps[estovers/api.Region]"], unfollowed := true, recurses := true, apart := false }
def AddrspaceCanonicalSaid : Prop := addrspaceCanonicalRow.holds Try.pinned (OpenSpec.ofChange addrspaceCanonicalSpec)

/-- ITS FALSE NEIGHBOUR: 'it returns false'. Refute it at one input. -/
def addrspaceCanonicalWrong : ChangeSpec := { name := "addrspaceCanonical", fn := fun _ => fun
  | [d] => { results := [.lit (.bool false)], args := [d] }
  | _ => none }
def AddrspaceCanonicalWrongFalsely : Prop := addrspaceCanonicalRow.holds Try.pinned (OpenSpec.ofChange addrspaceCanonicalWrong)

/-- 'estoverslaw23.AddrspaceStacks': WHATEVER THE INPUT: true; the input reads as it did. -/
def addrspaceStacksSpec : ChangeSpec := { name := "addrspaceStacks", fn := fun _ => fun
  | [d1, d2] => { results := [.lit (.bool true)], args := [d1, d2] }
  | _ => none }
def addrspaceStacksRow : OpenClaim := { program := "ytjdpignfdncebaa", sum := "ab8a156f2947af7c3e68c898a25dd4d43d02ae39d4ef45384114aa49977e4a11", func := "estovers/estoverslaw23.AddrspaceStacks", spec := "addrspaceStacks", inPlace := ["slices.overlaps[estovers/api.Region]"], unfollowed := true, recurses := true, loops := true, apart := false }
def AddrspaceStacksSaid : Prop := addrspaceStacksRow.holds Try.pinned (OpenSpec.ofChange addrspaceStacksSpec)

/-- ITS FALSE NEIGHBOUR: 'it returns false'. Refute it at one input. -/
def addrspaceStacksWrong : ChangeSpec := { name := "addrspaceStacks", fn := fun _ => fun
  | [d1, d2] => { results := [.lit (.bool false)], args := [d1, d2] }
  | _ => none }
def AddrspaceStacksWrongFalsely : Prop := addrspaceStacksRow.holds Try.pinned (OpenSpec.ofChange addrspaceStacksWrong)

/-- 'estoverslaw23.AddrspaceLowest': WHATEVER THE INPUT: true; the input reads as it did. -/
def addrspaceLowestSpec : ChangeSpec := { name := "addrspaceLowest", fn := fun _ => fun
  | [d1, d2] => { results := [.lit (.bool true)], args := [d1, d2] }
  | _ => none }
def addrspaceLowestRow : OpenClaim := { program := "ytjdpignfdncebaa", sum := "ab8a156f2947af7c3e68c898a25dd4d43d02ae39d4ef45384114aa49977e4a11", func := "estovers/estoverslaw23.AddrspaceLowest", spec := "addrspaceLowest", inPlace := ["slices.overlaps[estovers/api.Region]"], unfollowed := true, recurses := true, loops := true, apart := false }
def AddrspaceLowestSaid : Prop := addrspaceLowestRow.holds Try.pinned (OpenSpec.ofChange addrspaceLowestSpec)

/-- ITS FALSE NEIGHBOUR: 'it returns false'. Refute it at one input. -/
def addrspaceLowestWrong : ChangeSpec := { name := "addrspaceLowest", fn := fun _ => fun
  | [d1, d2] => { results := [.lit (.bool false)], args := [d1, d2] }
  | _ => none }
def AddrspaceLowestWrongFalsely : Prop := addrspaceLowestRow.holds Try.pinned (OpenSpec.ofChange addrspaceLowestWrong)

/-- 'estoverslaw23.AddrspaceKeeps': WHATEVER THE INPUT: true; the input reads as it did. -/
def addrspaceKeepsSpec : ChangeSpec := { name := "addrspaceKeeps", fn := fun _ => fun
  | [d1, d2] => { results := [.lit (.bool true)], args := [d1, d2] }
  | _ => none }
def addrspaceKeepsRow : OpenClaim := { program := "ytjdpignfdncebaa", sum := "ab8a156f2947af7c3e68c898a25dd4d43d02ae39d4ef45384114aa49977e4a11", func := "estovers/estoverslaw23.AddrspaceKeeps", spec := "addrspaceKeeps", inPlace := ["slices.overlaps[estovers/api.Region]"], unfollowed := true, recurses := true, loops := true, apart := false }
def AddrspaceKeepsSaid : Prop := addrspaceKeepsRow.holds Try.pinned (OpenSpec.ofChange addrspaceKeepsSpec)

/-- ITS FALSE NEIGHBOUR: 'it returns false'. Refute it at one input. -/
def addrspaceKeepsWrong : ChangeSpec := { name := "addrspaceKeeps", fn := fun _ => fun
  | [d1, d2] => { results := [.lit (.bool false)], args := [d1, d2] }
  | _ => none }
def AddrspaceKeepsWrongFalsely : Prop := addrspaceKeepsRow.holds Try.pinned (OpenSpec.ofChange addrspaceKeepsWrong)

/-- 'estoverslaw23.AddrspacePages': WHATEVER THE INPUT: true; the input reads as it did. -/
def addrspacePagesSpec : ChangeSpec := { name := "addrspacePages", fn := fun _ => fun
  | [d] => { results := [.lit (.bool true)], args := [d] }
  | _ => none }
def addrspacePagesRow : OpenClaim := { program := "ytjdpignfdncebaa", sum := "ab8a156f2947af7c3e68c898a25dd4d43d02ae39d4ef45384114aa49977e4a11", func := "estovers/estoverslaw23.AddrspacePages", spec := "addrspacePages", inPlace := ["slices.overlaps[estovers/api.Region]"], unfollowed := true, recurses := true, apart := false }
def AddrspacePagesSaid : Prop := addrspacePagesRow.holds Try.pinned (OpenSpec.ofChange addrspacePagesSpec)

/-- ITS FALSE NEIGHBOUR: 'it returns false'. Refute it at one input. -/
def addrspacePagesWrong : ChangeSpec := { name := "addrspacePages", fn := fun _ => fun
  | [d] => { results := [.lit (.bool false)], args := [d] }
  | _ => none }
def AddrspacePagesWrongFalsely : Prop := addrspacePagesRow.holds Try.pinned (OpenSpec.ofChange addrspacePagesWrong)

/- THE SECOND FORM. 'bulk': how many values and letters a reading holds, each counted each time it is reached (what is shared counts as often as it is met; a slice's spare places count too). A statement '..UptoSaid' is the law's where the arguments, and the package variables that the reading takes, are together of bulk at most 1048576: NARROWER than '..Said'. Prove '..Said' where nothing that the law and all that it calls make is longer than what came in: it says more and counts as full. Else prove '..UptoSaid'. A law counts once. -/
mutual
def uptoBulk {H : Type} : DataW H → Nat
  | .lit (.string bytes) => bytes.length + 1
  | .lit _ => 1
  | .nil => 1
  | .ptr d => uptoBulk d + 1
  | .slice elems spare => uptoBulkAll elems + uptoBulkAll spare + 1
  | .agg parts => uptoBulkAll parts + 1
  | .iface _ d => uptoBulk d + 1
  | .map entries => uptoBulkEntries entries + 1
  | .held _ => 1
def uptoBulkAll {H : Type} : List (DataW H) → Nat
  | [] => 0
  | d :: r => uptoBulk d + uptoBulkAll r
def uptoBulkEntries {H : Type} : List (Lit × DataW H) → Nat
  | [] => 0
  | x :: r => uptoBulkEntry x + uptoBulkEntries r
def uptoBulkEntry {H : Type} : Lit × DataW H → Nat
  | (.string bytes, d) => bytes.length + uptoBulk d + 1
  | (_, d) => uptoBulk d + 1
 end
def uptoSmall : (H : Type) → List (DataW H) → Bool := fun _ ds => decide (uptoBulkAll ds ≤ 1048576)
def OpenSpec.upto (s : _root_.Go.ChangeSpec) : _root_.Go.OpenSpec := { _root_.Go.OpenSpec.ofChange s with cond := some uptoSmall }

/-- 'estoverslaw23.AddrspaceMaps', WHERE WHAT IT READS IS OF BULK AT MOST 1048576: true; the input reads as it did. -/
def addrspaceMapsUptoRow : OpenClaim := { program := "ytjdpignfdncebaa", sum := "ab8a156f2947af7c3e68c898a25dd4d43d02ae39d4ef45384114aa49977e4a11", func := "estovers/estoverslaw23.AddrspaceMaps", spec := "addrspaceMaps", inPlace := ["slices.overlaps[estovers/api.Region]"], unfollowed := true, recurses := true, loops := true, apart := false, narrowed := true }
def AddrspaceMapsUptoSaid : Prop := addrspaceMapsUptoRow.holds Try.pinned (OpenSpec.upto addrspaceMapsSpec)

/-- 'estoverslaw23.AddrspaceUnmaps', WHERE WHAT IT READS IS OF BULK AT MOST 1048576: true; the input reads as it did. -/
def addrspaceUnmapsUptoRow : OpenClaim := { program := "ytjdpignfdncebaa", sum := "ab8a156f2947af7c3e68c898a25dd4d43d02ae39d4ef45384114aa49977e4a11", func := "estovers/estoverslaw23.AddrspaceUnmaps", spec := "addrspaceUnmaps", inPlace := ["slices.overlaps[estovers/api.Region]"], unfollowed := true, recurses := true, loops := true, apart := false, narrowed := true }
def AddrspaceUnmapsUptoSaid : Prop := addrspaceUnmapsUptoRow.holds Try.pinned (OpenSpec.upto addrspaceUnmapsSpec)

/-- 'estoverslaw23.AddrspaceGrows', WHERE WHAT IT READS IS OF BULK AT MOST 1048576: true; the input reads as it did. -/
def addrspaceGrowsUptoRow : OpenClaim := { program := "ytjdpignfdncebaa", sum := "ab8a156f2947af7c3e68c898a25dd4d43d02ae39d4ef45384114aa49977e4a11", func := "estovers/estoverslaw23.AddrspaceGrows", spec := "addrspaceGrows", inPlace := ["slices.overlaps[estovers/api.Region]"], unfollowed := true, recurses := true, loops := true, apart := false, narrowed := true }
def AddrspaceGrowsUptoSaid : Prop := addrspaceGrowsUptoRow.holds Try.pinned (OpenSpec.upto addrspaceGrowsSpec)

/-- 'estoverslaw23.AddrspaceChecks', WHERE WHAT IT READS IS OF BULK AT MOST 1048576: true; the input reads as it did. -/
def addrspaceChecksUptoRow : OpenClaim := { program := "ytjdpignfdncebaa", sum := "ab8a156f2947af7c3e68c898a25dd4d43d02ae39d4ef45384114aa49977e4a11", func := "estovers/estoverslaw23.AddrspaceChecks", spec := "addrspaceChecks", inPlace := ["slices.overlaps[estovers/api.Region]"], unfollowed := true, recurses := true, loops := true, apart := false, narrowed := true }
def AddrspaceChecksUptoSaid : Prop := addrspaceChecksUptoRow.holds Try.pinned (OpenSpec.upto addrspaceChecksSpec)

/-- 'estoverslaw23.AddrspaceProtects', WHERE WHAT IT READS IS OF BULK AT MOST 1048576: true; the input reads as it did. -/
def addrspaceProtectsUptoRow : OpenClaim := { program := "ytjdpignfdncebaa", sum := "ab8a156f2947af7c3e68c898a25dd4d43d02ae39d4ef45384114aa49977e4a11", func := "estovers/estoverslaw23.AddrspaceProtects", spec := "addrspaceProtects", inPlace := ["slices.overlaps[estovers/api.Region]"], unfollowed := true, recurses := true, loops := true, apart := false, narrowed := true }
def AddrspaceProtectsUptoSaid : Prop := addrspaceProtectsUptoRow.holds Try.pinned (OpenSpec.upto addrspaceProtectsSpec)

/-- 'estoverslaw23.AddrspaceCanonical', WHERE WHAT IT READS IS OF BULK AT MOST 1048576: true; the input reads as it did. -/
def addrspaceCanonicalUptoRow : OpenClaim := { program := "ytjdpignfdncebaa", sum := "ab8a156f2947af7c3e68c898a25dd4d43d02ae39d4ef45384114aa49977e4a11", func := "estovers/estoverslaw23.AddrspaceCanonical", spec := "addrspaceCanonical", inPlace := ["slices.overlaps[estovers/api.Region]"], unfollowed := true, recurses := true, apart := false, narrowed := true }
def AddrspaceCanonicalUptoSaid : Prop := addrspaceCanonicalUptoRow.holds Try.pinned (OpenSpec.upto addrspaceCanonicalSpec)

/-- 'estoverslaw23.AddrspaceStacks', WHERE WHAT IT READS IS OF BULK AT MOST 1048576: true; the input reads as it did. -/
def addrspaceStacksUptoRow : OpenClaim := { program := "ytjdpignfdncebaa", sum := "ab8a156f2947af7c3e68c898a25dd4d43d02ae39d4ef45384114aa49977e4a11", func := "estovers/estoverslaw23.AddrspaceStacks", spec := "addrspaceStacks", inPlace := ["slices.overlaps[estovers/api.Region]"], unfollowed := true, recurses := true, loops := true, apart := false, narrowed := true }
def AddrspaceStacksUptoSaid : Prop := addrspaceStacksUptoRow.holds Try.pinned (OpenSpec.upto addrspaceStacksSpec)

/-- 'estoverslaw23.AddrspaceLowest', WHERE WHAT IT READS IS OF BULK AT MOST 1048576: true; the input reads as it did. -/
def addrspaceLowestUptoRow : OpenClaim := { program := "ytjdpignfdncebaa", sum := "ab8a156f2947af7c3e68c898a25dd4d43d02ae39d4ef45384114aa49977e4a11", func := "estovers/estoverslaw23.AddrspaceLowest", spec := "addrspaceLowest", inPlace := ["slices.overlaps[estovers/api.Region]"], unfollowed := true, recurses := true, loops := true, apart := false, narrowed := true }
def AddrspaceLowestUptoSaid : Prop := addrspaceLowestUptoRow.holds Try.pinned (OpenSpec.upto addrspaceLowestSpec)

/-- 'estoverslaw23.AddrspaceKeeps', WHERE WHAT IT READS IS OF BULK AT MOST 1048576: true; the input reads as it did. -/
def addrspaceKeepsUptoRow : OpenClaim := { program := "ytjdpignfdncebaa", sum := "ab8a156f2947af7c3e68c898a25dd4d43d02ae39d4ef45384114aa49977e4a11", func := "estovers/estoverslaw23.AddrspaceKeeps", spec := "addrspaceKeeps", inPlace := ["slices.overlaps[estovers/api.Region]"], unfollowed := true, recurses := true, loops := true, apart := false, narrowed := true }
def AddrspaceKeepsUptoSaid : Prop := addrspaceKeepsUptoRow.holds Try.pinned (OpenSpec.upto addrspaceKeepsSpec)

/-- 'estoverslaw23.AddrspacePages', WHERE WHAT IT READS IS OF BULK AT MOST 1048576: true; the input reads as it did. -/
def addrspacePagesUptoRow : OpenClaim := { program := "ytjdpignfdncebaa", sum := "ab8a156f2947af7c3e68c898a25dd4d43d02ae39d4ef45384114aa49977e4a11", func := "estovers/estoverslaw23.AddrspacePages", spec := "addrspacePages", inPlace := ["slices.overlaps[estovers/api.Region]"], unfollowed := true, recurses := true, apart := false, narrowed := true }
def AddrspacePagesUptoSaid : Prop := addrspacePagesUptoRow.holds Try.pinned (OpenSpec.upto addrspacePagesSpec)

end Rows
end Go.Proofs.Ytjdpignfdncebaa
