/- For every argument the law TopInodeAfter returns true and leaves its arguments as they were. No condition. -/
import Derived.Test.YtohkigillmlinaaDvk
import Derived.Test.YtohkigillmlinaaDvy
set_option linter.unusedSimpArgs false
set_option linter.unusedVariables false
namespace Go.Proofs.Ytohkigillmlinaa
open Go.ChangeShapes Go.WideShapes Go.ChangeAt Go.RowKit

set_option maxRecDepth 100000 in
theorem topInodeAfter_lifted (os : Os) (started : os.Started) (H : Type) (enc : TypeId × Value → H) :
    ReturnsInHanded {} Try.checked os 4 .any (Rows.topInodeAfterSpec.pre6 enc Try.prog Try.f4 Rows.topInodeAfterRow.domain false) (Rows.topInodeAfterSpec.post enc Try.prog Try.f4 false true false false) := by
  refine returnsInHanded_of_change_sized (C := Try.checked) Try.own started (by kernel_rfl) Try.func4
    (ChangeSpec.witness6 (enc := enc) (C := Try.checked) false ⟨#[], #[.agg #[.int .u8 0, .int .u8 0], .slice none 0 0, .slice none 0 0], []⟩ 8 (by kernel_rfl) (by kernel_rfl) (by kernel_rfl) (by kernel_rfl)) ?_
  intro W base args ds gs before hval0 hW _ hsz0 _
  have hval : ∀ (j : Nat) t v, Try.f4.params[j]? = some t → args[j]? = some v → Value.okWide Try.prog W .any base t v := hval0
  have hW' := hW
  have hlt := hW.lt
  obtain ⟨p, q, hA0, hV, rfl, _, _⟩ := hW
  have hA : DataW.TrodAll enc Try.prog W 0 (fun _ => true) true Try.f4.params.toList args.toList ds p := hA0
  have hsz : (DataW.weightsEach Try.prog (Try.f4.params.toList ++ Rows.topInodeAfterSpec.plain.varTypes Try.prog) (ds ++ gs)).all (· ≤ reachBytes) = true := hsz0
  rw [Try.params4] at hA hval hsz
  clear hA0 hval0 hsz0
  obtain ⟨rfl, rfl⟩ := trodVars_none hV
  obtain ⟨v0, vs0, d0, ds0, p0, q0, hargs0, hds0, hps0, h0, r0⟩ := trodAll_cons hA
  obtain ⟨v1, vs1, d1, ds1, p1, q1, hargs1, hds1, hps1, h1, r1⟩ := trodAll_cons r0
  obtain ⟨v2, vs2, d2, ds2, p2, q2, hargs2, hds2, hps2, h2, r2⟩ := trodAll_cons r1
  obtain ⟨ha3, hb3, hc3⟩ := trodAll_nil r2
  obtain rfl : args = #[v0, v1, v2] := by cases args; simp_all
  obtain rfl : ds = [d0, d1, d2] := by simp_all
  clear hargs0 hds0 hargs1 hds1 hargs2 hds2 ha3 hb3
  obtain ⟨a0, b0, wa0, wb0, rfl⟩ := a2_arg (hval 0 51 v0 rfl rfl) h0
  obtain ⟨t1, hr1⟩ := pks_arg (hval 1 23 v1 rfl rfl) h1
  obtain ⟨t2, hr2⟩ := pks_arg (hval 2 23 v2 rfl rfl) h2
  refine (law_of (vs := [.agg #[.int .u8 a0, .int .u8 b0], v1, v2]) (law_after a0 b0 wa0 wb0 t1 t2) (.cons (.st (.cons (.s rfl) (.cons (.s rfl) .nil))) (.cons hr1 (.cons hr2 .nil)))).mono fun e W' ⟨he, hg⟩ => ⟨.bool true, he, ?_⟩
  exact law_post Try.laidOut (by kernel_rfl) rfl rfl Try.underlying4 hW' rfl hg.below

theorem topInodeAfter_holds : Rows.TopInodeAfterSaid :=
  OpenClaim.holds_of_wide 4 Try.f4 rfl rfl rfl rfl rfl rfl rfl ⟨rfl, rfl, rfl, rfl, rfl⟩ rfl rfl rfl rfl rfl (by kernel_rfl) Try.func4 (by kernel_rfl)
    (of_decide_eq_true (by kernel_rfl)) (by unfold Func.isWrapper; first | (rw [if_pos (by decide +kernel)]; kernel_rfl) | (rw [if_neg (by decide +kernel)]; exact ⟨rfl, rfl⟩))
    (fun os started H enc _ => topInodeAfter_lifted os started H enc)

end Go.Proofs.Ytohkigillmlinaa
