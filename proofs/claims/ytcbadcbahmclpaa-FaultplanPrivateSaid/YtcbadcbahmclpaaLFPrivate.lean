/- For every argument the law FaultplanPrivate returns true and leaves its arguments as they were. No condition. -/
import Derived.Test.YtcbadcbahmclpaaLift
import Derived.Test.YtcbadcbahmclpaaFpro
set_option linter.unusedSimpArgs false
set_option linter.unusedVariables false
namespace Go.Proofs.Ytcbadcbahmclpaa
open Go.ChangeShapes Go.WideShapes Go.ChangeAt Go.RowKit

set_option maxRecDepth 100000 in
theorem faultplanPrivate_lifted (os : Os) (started : os.Started) (H : Type) (enc : TypeId × Value → H) :
    ReturnsInHanded {} Try.checked os 9 .any (Rows.faultplanPrivateSpec.pre6 enc Try.prog Try.f9 Rows.faultplanPrivateRow.domain false) (Rows.faultplanPrivateSpec.post enc Try.prog Try.f9 false true false false) := by
  refine returnsInHanded_of_change_sized (C := Try.checked) Try.own started (by kernel_rfl) Try.func9
    (ChangeSpec.witness6 (enc := enc) (C := Try.checked) false ⟨#[], #[.agg #[.bool false, .bool false, .int .i64 0, .bool false, .bool false, .bool false, .bool false, .int .i64 0, .bool false, .bool false, .bool false, .bool false, .bool false, .bool false, .bool false, .bool false, .int .i64 0]], []⟩ 8 (by kernel_rfl) (by kernel_rfl) (by kernel_rfl) (by kernel_rfl)) ?_
  intro W base args ds gs before hval0 hW _ hsz0 _
  have hval : ∀ (j : Nat) t v, Try.f9.params[j]? = some t → args[j]? = some v → Value.okWide Try.prog W .any base t v := hval0
  have hW' := hW
  have hlt := hW.lt
  obtain ⟨p, q, hA0, hV, rfl, _, _⟩ := hW
  have hA : DataW.TrodAll enc Try.prog W 0 (fun _ => true) true Try.f9.params.toList args.toList ds p := hA0
  have hsz : (DataW.weightsEach Try.prog (Try.f9.params.toList ++ Rows.faultplanPrivateSpec.plain.varTypes Try.prog) (ds ++ gs)).all (· ≤ reachBytes) = true := hsz0
  rw [Try.params9] at hA hval hsz
  clear hA0 hval0 hsz0
  obtain ⟨rfl, rfl⟩ := trodVars_none hV
  obtain ⟨v0, vs0, d0, ds0, p0, q0, hargs0, hds0, hps0, h0, r0⟩ := trodAll_cons hA
  obtain ⟨ha1, hb1, hc1⟩ := trodAll_nil r0
  obtain rfl : args = #[v0] := by cases args; simp_all
  obtain rfl : ds = [d0] := by simp_all
  clear hargs0 hds0 ha1 hb1
  obtain ⟨l0, hv0, fl0_0, hp0⟩ := open_flat [none, none, some .i64, none, none, none, none, some .i64, none, none, none, none, none, none, none, none, some .i64] Try.underlying23 (by kernel_rfl) (by kernel_rfl) (by kernel_rfl) (hval 0 23 v0 rfl rfl) h0
  obtain ⟨a0_0, l0_0, hl0_0, fl0_1⟩ := flatOK_bool fl0_0
  obtain ⟨a0_1, l0_1, hl0_1, fl0_2⟩ := flatOK_bool fl0_1
  obtain ⟨a0_2, l0_2, hl0_2, wf0_2, fl0_3⟩ := flatOK_int fl0_2
  obtain ⟨a0_3, l0_3, hl0_3, fl0_4⟩ := flatOK_bool fl0_3
  obtain ⟨a0_4, l0_4, hl0_4, fl0_5⟩ := flatOK_bool fl0_4
  obtain ⟨a0_5, l0_5, hl0_5, fl0_6⟩ := flatOK_bool fl0_5
  obtain ⟨a0_6, l0_6, hl0_6, fl0_7⟩ := flatOK_bool fl0_6
  obtain ⟨a0_7, l0_7, hl0_7, wf0_7, fl0_8⟩ := flatOK_int fl0_7
  obtain ⟨a0_8, l0_8, hl0_8, fl0_9⟩ := flatOK_bool fl0_8
  obtain ⟨a0_9, l0_9, hl0_9, fl0_10⟩ := flatOK_bool fl0_9
  obtain ⟨a0_10, l0_10, hl0_10, fl0_11⟩ := flatOK_bool fl0_10
  obtain ⟨a0_11, l0_11, hl0_11, fl0_12⟩ := flatOK_bool fl0_11
  obtain ⟨a0_12, l0_12, hl0_12, fl0_13⟩ := flatOK_bool fl0_12
  obtain ⟨a0_13, l0_13, hl0_13, fl0_14⟩ := flatOK_bool fl0_13
  obtain ⟨a0_14, l0_14, hl0_14, fl0_15⟩ := flatOK_bool fl0_14
  obtain ⟨a0_15, l0_15, hl0_15, fl0_16⟩ := flatOK_bool fl0_15
  obtain ⟨a0_16, l0_16, hl0_16, wf0_16, fl0_17⟩ := flatOK_int fl0_16
  have hz0 := flatOK_nil fl0_17
  subst hz0 hl0_16 hl0_15 hl0_14 hl0_13 hl0_12 hl0_11 hl0_10 hl0_9 hl0_8 hl0_7 hl0_6 hl0_5 hl0_4 hl0_3 hl0_2 hl0_1 hl0_0 hv0
  refine (law_priv ⟨a0_0, a0_1, a0_2, a0_3, a0_4, a0_5, a0_6, a0_7, a0_8, a0_9, a0_10, a0_11, a0_12, a0_13, a0_14, a0_15, a0_16⟩ W).mono fun e W' ⟨he, hg⟩ => ⟨.bool true, he, ?_⟩
  exact law_post Try.laidOut (by kernel_rfl) rfl rfl Try.underlying4 hW' rfl hg.below

theorem faultplanPrivate_holds : Rows.FaultplanPrivateSaid :=
  OpenClaim.holds_of_wide 9 Try.f9 rfl rfl rfl rfl rfl rfl rfl ⟨rfl, rfl, rfl, rfl, rfl⟩ rfl rfl rfl rfl rfl (by kernel_rfl) Try.func9 (by kernel_rfl)
    (of_decide_eq_true (by kernel_rfl)) (by unfold Func.isWrapper; first | (rw [if_pos (by decide +kernel)]; kernel_rfl) | (rw [if_neg (by decide +kernel)]; exact ⟨rfl, rfl⟩))
    (fun os started H enc _ => faultplanPrivate_lifted os started H enc)

end Go.Proofs.Ytcbadcbahmclpaa
