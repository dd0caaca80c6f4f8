/- Questions as arguments. -/
import Derived.Test.YtkdjbiekjgeafaaLtaM
set_option linter.unusedSimpArgs false
set_option linter.unusedVariables false
namespace Go.Proofs.Ytkdjbiekjgeafaa
open Go.ChangeShapes Go.WideShapes Go.ChangeAt Go.RowKit

section
variable {H : Type} {enc : TypeId × Value → H} {w : World} {base : Nat} {spare : Nat → Bool} {held : Bool} {v : Value} {d : DataW H} {p : List MemPlace} {r : Reach} {b0 : Nat}
theorem ask_arg (hv : Value.okWide Try.prog w r b0 36 v) (h : DataW.Trod enc Try.prog w base spare held 36 v d p) : ∃ q : Int × Int × Int, RD (fun _ => False) w v (.st [.s (.int .i64 q.1), .s (.int .i64 q.2.1), .s (.int .i64 q.2.2)]) := by
  obtain ⟨l, rfl, hf, _⟩ := open_flat [some .i64, some .i64, some .i64] Try.underlying36 (by kernel_rfl) (by kernel_rfl) (by kernel_rfl) hv h
  obtain ⟨a, l, rfl, _, hf⟩ := flatOK_int hf
  obtain ⟨b, l, rfl, _, hf⟩ := flatOK_int hf
  obtain ⟨c, l, rfl, _, hf⟩ := flatOK_int hf
  obtain rfl := flatOK_nil hf
  exact ⟨(a, b, c), .st (.cons (.s rfl) (.cons (.s rfl) (.cons (.s rfl) .nil)))⟩
end
end Go.Proofs.Ytkdjbiekjgeafaa
