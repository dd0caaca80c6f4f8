/-
  No cell of these rows narrows 'for every input' (looked for: loops, veiled, ifaces, maps, wideKeys, modest, calm, conditions, laid).
  DERIVED. THE GIVEN ROWS OF THIS SEAT. 6 by the template 'for every input the law returns true; each argument reads behind the call as it read before'; 0 by the template 'total and deterministic' (their statements: YtdghgkajjhcbkaaTotals.lean).
  GIVEN WITH THE SEED: the statements are not yours to turn. If you find one false, say at which input.
  Laid BY PROGRAM, IN A SANDBOX (cutbox-rows.mjs): the forced cells as the released guide's own fill.sh prints them over the translation 8a16e41ff4868190… (all of the seat's roots in one cut). By AI agents, Wed Nov 11 2026. No macro, syntax, notation, axiom, sorry.
-/
import Derived.Test.YtdghgkajjhcbkaaChecked
import GoSem.Claim
import GoSem.ClaimJoined
import GoSem.ClaimMapViews
import Derived.JoinedTies
import Derived.KernelRfl
namespace Go.Proofs.Ytdghgkajjhcbkaa
/- THE CELL 'sum', in the pinned program and in every row, IS THE sha256 OF THE DUMP (.gsa) THAT YtdghgkajjhcbkaaProg.lean LOADS. Nothing in Lean hashes anything: it is a label: what it is worth is what the hold of that sum in a sandbox is worth. -/
noncomputable def Try.pinned : Pinned := { name := "ytdghgkajjhcbkaa", sum := "8a16e41ff48681903b73bf11198dcde008397c020981997dbbb1c3e12a4cf248", checked := Try.checked }
namespace Rows
def none {H : Type} : Left H := { results := [], args := [] }

/-- 'estoverslaw29.ErrseqValid': WHATEVER THE INPUT: true; the input reads as it did. -/
def errseqValidSpec : ChangeSpec := { name := "errseqValid", fn := fun _ => fun
  | [d] => { results := [.lit (.bool true)], args := [d] }
  | _ => none }
def errseqValidRow : OpenClaim := { program := "ytdghgkajjhcbkaa", sum := "8a16e41ff48681903b73bf11198dcde008397c020981997dbbb1c3e12a4cf248", func := "estovers/estoverslaw29.ErrseqValid", spec := "errseqValid", apart := false }
def ErrseqValidSaid : Prop := errseqValidRow.holds Try.pinned (OpenSpec.ofChange errseqValidSpec)

/-- ITS FALSE NEIGHBOUR: 'it returns false'. Refute it at one input. -/
def errseqValidWrong : ChangeSpec := { name := "errseqValid", fn := fun _ => fun
  | [d] => { results := [.lit (.bool false)], args := [d] }
  | _ => none }
def ErrseqValidWrongFalsely : Prop := errseqValidRow.holds Try.pinned (OpenSpec.ofChange errseqValidWrong)

/-- 'estoverslaw29.ErrseqSets': WHATEVER THE INPUT: true; the input reads as it did. -/
def errseqSetsSpec : ChangeSpec := { name := "errseqSets", fn := fun _ => fun
  | [d] => { results := [.lit (.bool true)], args := [d] }
  | _ => none }
def errseqSetsRow : OpenClaim := { program := "ytdghgkajjhcbkaa", sum := "8a16e41ff48681903b73bf11198dcde008397c020981997dbbb1c3e12a4cf248", func := "estovers/estoverslaw29.ErrseqSets", spec := "errseqSets", apart := false }
def ErrseqSetsSaid : Prop := errseqSetsRow.holds Try.pinned (OpenSpec.ofChange errseqSetsSpec)

/-- ITS FALSE NEIGHBOUR: 'it returns false'. Refute it at one input. -/
def errseqSetsWrong : ChangeSpec := { name := "errseqSets", fn := fun _ => fun
  | [d] => { results := [.lit (.bool false)], args := [d] }
  | _ => none }
def ErrseqSetsWrongFalsely : Prop := errseqSetsRow.holds Try.pinned (OpenSpec.ofChange errseqSetsWrong)

/-- 'estoverslaw29.ErrseqChecks': WHATEVER THE INPUT: true; the input reads as it did. -/
def errseqChecksSpec : ChangeSpec := { name := "errseqChecks", fn := fun _ => fun
  | [d1, d2] => { results := [.lit (.bool true)], args := [d1, d2] }
  | _ => none }
def errseqChecksRow : OpenClaim := { program := "ytdghgkajjhcbkaa", sum := "8a16e41ff48681903b73bf11198dcde008397c020981997dbbb1c3e12a4cf248", func := "estovers/estoverslaw29.ErrseqChecks", spec := "errseqChecks", apart := false }
def ErrseqChecksSaid : Prop := errseqChecksRow.holds Try.pinned (OpenSpec.ofChange errseqChecksSpec)

/-- ITS FALSE NEIGHBOUR: 'it returns false'. Refute it at one input. -/
def errseqChecksWrong : ChangeSpec := { name := "errseqChecks", fn := fun _ => fun
  | [d1, d2] => { results := [.lit (.bool false)], args := [d1, d2] }
  | _ => none }
def ErrseqChecksWrongFalsely : Prop := errseqChecksRow.holds Try.pinned (OpenSpec.ofChange errseqChecksWrong)

/-- 'estoverslaw29.ErrseqOnce': WHATEVER THE INPUT: true; the input reads as it did. -/
def errseqOnceSpec : ChangeSpec := { name := "errseqOnce", fn := fun _ => fun
  | [d] => { results := [.lit (.bool true)], args := [d] }
  | _ => none }
def errseqOnceRow : OpenClaim := { program := "ytdghgkajjhcbkaa", sum := "8a16e41ff48681903b73bf11198dcde008397c020981997dbbb1c3e12a4cf248", func := "estovers/estoverslaw29.ErrseqOnce", spec := "errseqOnce", apart := false }
def ErrseqOnceSaid : Prop := errseqOnceRow.holds Try.pinned (OpenSpec.ofChange errseqOnceSpec)

/-- ITS FALSE NEIGHBOUR: 'it returns false'. Refute it at one input. -/
def errseqOnceWrong : ChangeSpec := { name := "errseqOnce", fn := fun _ => fun
  | [d] => { results := [.lit (.bool false)], args := [d] }
  | _ => none }
def ErrseqOnceWrongFalsely : Prop := errseqOnceRow.holds Try.pinned (OpenSpec.ofChange errseqOnceWrong)

/-- 'estoverslaw29.ErrseqTwice': WHATEVER THE INPUT: true; the input reads as it did. -/
def errseqTwiceSpec : ChangeSpec := { name := "errseqTwice", fn := fun _ => fun
  | [d1, d2] => { results := [.lit (.bool true)], args := [d1, d2] }
  | _ => none }
def errseqTwiceRow : OpenClaim := { program := "ytdghgkajjhcbkaa", sum := "8a16e41ff48681903b73bf11198dcde008397c020981997dbbb1c3e12a4cf248", func := "estovers/estoverslaw29.ErrseqTwice", spec := "errseqTwice", apart := false }
def ErrseqTwiceSaid : Prop := errseqTwiceRow.holds Try.pinned (OpenSpec.ofChange errseqTwiceSpec)

/-- ITS FALSE NEIGHBOUR: 'it returns false'. Refute it at one input. -/
def errseqTwiceWrong : ChangeSpec := { name := "errseqTwice", fn := fun _ => fun
  | [d1, d2] => { results := [.lit (.bool false)], args := [d1, d2] }
  | _ => none }
def ErrseqTwiceWrongFalsely : Prop := errseqTwiceRow.holds Try.pinned (OpenSpec.ofChange errseqTwiceWrong)

/-- 'estoverslaw29.ErrseqUnseen': WHATEVER THE INPUT: true; the input reads as it did. -/
def errseqUnseenSpec : ChangeSpec := { name := "errseqUnseen", fn := fun _ => fun
  | [d] => { results := [.lit (.bool true)], args := [d] }
  | _ => none }
def errseqUnseenRow : OpenClaim := { program := "ytdghgkajjhcbkaa", sum := "8a16e41ff48681903b73bf11198dcde008397c020981997dbbb1c3e12a4cf248", func := "estovers/estoverslaw29.ErrseqUnseen", spec := "errseqUnseen", apart := false }
def ErrseqUnseenSaid : Prop := errseqUnseenRow.holds Try.pinned (OpenSpec.ofChange errseqUnseenSpec)

/-- ITS FALSE NEIGHBOUR: 'it returns false'. Refute it at one input. -/
def errseqUnseenWrong : ChangeSpec := { name := "errseqUnseen", fn := fun _ => fun
  | [d] => { results := [.lit (.bool false)], args := [d] }
  | _ => none }
def ErrseqUnseenWrongFalsely : Prop := errseqUnseenRow.holds Try.pinned (OpenSpec.ofChange errseqUnseenWrong)

/- THE SECOND FORM. 'bulk': how many values and letters a reading holds, each counted each time it is reached (what is shared counts as often as it is met; a slice's spare places count too). A statement '..UptoSaid' is the law's where the arguments, and the package variables that the reading takes, are together of bulk at most 1048576: NARROWER than '..Said'. Prove '..Said' where nothing that the law and all that it calls make is longer than what came in: it says more and counts as full. Else prove '..UptoSaid'. A law counts once. -/
mutual
def uptoBulk {H : Type} : DataW H → Nat
  | .lit (.string bytes) => bytes.length + 1
  | .lit _ => 1
  | .nil => 1
  | .ptr d => uptoBulk d + 1
  | .slice elems spare => uptoBulkAll elems + uptoBulkAll spare + 1
  | .agg parts => uptoBulkAll parts + 1
  | .iface _ d => uptoBulk d + 1
  | .map entries => uptoBulkEntries entries + 1
  | .held _ => 1
def uptoBulkAll {H : Type} : List (DataW H) → Nat
  | [] => 0
  | d :: r => uptoBulk d + uptoBulkAll r
def uptoBulkEntries {H : Type} : List (Lit × DataW H) → Nat
  | [] => 0
  | x :: r => uptoBulkEntry x + uptoBulkEntries r
def uptoBulkEntry {H : Type} : Lit × DataW H → Nat
  | (.string bytes, d) => bytes.length + uptoBulk d + 1
  | (_, d) => uptoBulk d + 1
 end
def uptoSmall : (H : Type) → List (DataW H) → Bool := fun _ ds => decide (uptoBulkAll ds ≤ 1048576)
def OpenSpec.upto (s : _root_.Go.ChangeSpec) : _root_.Go.OpenSpec := { _root_.Go.OpenSpec.ofChange s with cond := some uptoSmall }

/-- 'estoverslaw29.ErrseqValid', WHERE WHAT IT READS IS OF BULK AT MOST 1048576: true; the input reads as it did. -/
def errseqValidUptoRow : OpenClaim := { program := "ytdghgkajjhcbkaa", sum := "8a16e41ff48681903b73bf11198dcde008397c020981997dbbb1c3e12a4cf248", func := "estovers/estoverslaw29.ErrseqValid", spec := "errseqValid", apart := false, narrowed := true }
def ErrseqValidUptoSaid : Prop := errseqValidUptoRow.holds Try.pinned (OpenSpec.upto errseqValidSpec)

/-- 'estoverslaw29.ErrseqSets', WHERE WHAT IT READS IS OF BULK AT MOST 1048576: true; the input reads as it did. -/
def errseqSetsUptoRow : OpenClaim := { program := "ytdghgkajjhcbkaa", sum := "8a16e41ff48681903b73bf11198dcde008397c020981997dbbb1c3e12a4cf248", func := "estovers/estoverslaw29.ErrseqSets", spec := "errseqSets", apart := false, narrowed := true }
def ErrseqSetsUptoSaid : Prop := errseqSetsUptoRow.holds Try.pinned (OpenSpec.upto errseqSetsSpec)

/-- 'estoverslaw29.ErrseqChecks', WHERE WHAT IT READS IS OF BULK AT MOST 1048576: true; the input reads as it did. -/
def errseqChecksUptoRow : OpenClaim := { program := "ytdghgkajjhcbkaa", sum := "8a16e41ff48681903b73bf11198dcde008397c020981997dbbb1c3e12a4cf248", func := "estovers/estoverslaw29.ErrseqChecks", spec := "errseqChecks", apart := false, narrowed := true }
def ErrseqChecksUptoSaid : Prop := errseqChecksUptoRow.holds Try.pinned (OpenSpec.upto errseqChecksSpec)

/-- 'estoverslaw29.ErrseqOnce', WHERE WHAT IT READS IS OF BULK AT MOST 1048576: true; the input reads as it did. -/
def errseqOnceUptoRow : OpenClaim := { program := "ytdghgkajjhcbkaa", sum := "8a16e41ff48681903b73bf11198dcde008397c020981997dbbb1c3e12a4cf248", func := "estovers/estoverslaw29.ErrseqOnce", spec := "errseqOnce", apart := false, narrowed := true }
def ErrseqOnceUptoSaid : Prop := errseqOnceUptoRow.holds Try.pinned (OpenSpec.upto errseqOnceSpec)

/-- 'estoverslaw29.ErrseqTwice', WHERE WHAT IT READS IS OF BULK AT MOST 1048576: true; the input reads as it did. -/
def errseqTwiceUptoRow : OpenClaim := { program := "ytdghgkajjhcbkaa", sum := "8a16e41ff48681903b73bf11198dcde008397c020981997dbbb1c3e12a4cf248", func := "estovers/estoverslaw29.ErrseqTwice", spec := "errseqTwice", apart := false, narrowed := true }
def ErrseqTwiceUptoSaid : Prop := errseqTwiceUptoRow.holds Try.pinned (OpenSpec.upto errseqTwiceSpec)

/-- 'estoverslaw29.ErrseqUnseen', WHERE WHAT IT READS IS OF BULK AT MOST 1048576: true; the input reads as it did. -/
def errseqUnseenUptoRow : OpenClaim := { program := "ytdghgkajjhcbkaa", sum := "8a16e41ff48681903b73bf11198dcde008397c020981997dbbb1c3e12a4cf248", func := "estovers/estoverslaw29.ErrseqUnseen", spec := "errseqUnseen", apart := false, narrowed := true }
def ErrseqUnseenUptoSaid : Prop := errseqUnseenUptoRow.holds Try.pinned (OpenSpec.upto errseqUnseenSpec)

end Rows
end Go.Proofs.Ytdghgkajjhcbkaa
