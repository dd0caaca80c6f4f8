/- For every argument the law RangetreeBack returns true and leaves its arguments as they were. No condition. -/
import Derived.Test.YtnbohogkfdeddaaLift
import Derived.Test.YtnbohogkfdeddaaRum
import Derived.Test.YtnbohogkfdeddaaRus
set_option linter.unusedSimpArgs false
set_option linter.unusedVariables false
namespace Go.Proofs.Ytnbohogkfdeddaa
open Go.ChangeShapes Go.WideShapes Go.ChangeAt Go.RowKit

set_option maxRecDepth 100000 in
theorem rangetreeBack_lifted (os : Os) (started : os.Started) (H : Type) (enc : TypeId × Value → H) :
    ReturnsInHanded {} Try.checked os 10 .any (Rows.rangetreeBackSpec.pre6 enc Try.prog Try.f10 Rows.rangetreeBackRow.domain false) (Rows.rangetreeBackSpec.post enc Try.prog Try.f10 false true false false) := by
  refine returnsInHanded_of_change_sized (C := Try.checked) Try.own started (by kernel_rfl) Try.func10
    (ChangeSpec.witness6 (enc := enc) (C := Try.checked) false ⟨#[], #[.slice none 0 0, .agg #[.int .i64 0, .int .i64 0, .int .i64 0, .int .i64 0, .int .i64 0, .int .i64 0]], []⟩ 8 (by kernel_rfl) (by kernel_rfl) (by kernel_rfl) (by kernel_rfl)) ?_
  intro W base args ds gs before hval0 hW _ hsz0 _
  have hval : ∀ (j : Nat) t v, Try.f10.params[j]? = some t → args[j]? = some v → Value.okWide Try.prog W .any base t v := hval0
  have hW' := hW
  have hlt := hW.lt
  obtain ⟨p, q, hA0, hV, rfl, _, _⟩ := hW
  have hA : DataW.TrodAll enc Try.prog W 0 (fun _ => true) true Try.f10.params.toList args.toList ds p := hA0
  have hsz : (DataW.weightsEach Try.prog (Try.f10.params.toList ++ Rows.rangetreeBackSpec.plain.varTypes Try.prog) (ds ++ gs)).all (· ≤ reachBytes) = true := hsz0
  rw [Try.params10] at hA hval hsz
  clear hA0 hval0 hsz0
  obtain ⟨rfl, rfl⟩ := trodVars_none hV
  obtain ⟨v0, vs0, d0, ds0, p0, q0, hargs0, hds0, hps0, h0, r0⟩ := trodAll_cons hA
  obtain ⟨v1, vs1, d1, ds1, p1, q1, hargs1, hds1, hps1, h1, r1⟩ := trodAll_cons r0
  obtain ⟨ha2, hb2, hc2⟩ := trodAll_nil r1
  obtain rfl : args = #[v0, v1] := by cases args; simp_all
  obtain rfl : ds = [d0, d1] := by simp_all
  clear hargs0 hds0 hargs1 hds1 ha2 hb2
  obtain ⟨l0, hs0⟩ := os_arg (hval 0 36 v0 rfl rfl) h0
  obtain ⟨l1, hv1, fl1_0, hp1⟩ := open_flat [some .i64, some .i64, some .i64, some .i64, some .i64, some .i64] Try.underlying25 (by kernel_rfl) (by kernel_rfl) (by kernel_rfl) (hval 1 25 v1 rfl rfl) h1
  obtain ⟨a1_0, l1_0, hl1_0, wf1_0, fl1_1⟩ := flatOK_int fl1_0
  obtain ⟨a1_1, l1_1, hl1_1, wf1_1, fl1_2⟩ := flatOK_int fl1_1
  obtain ⟨a1_2, l1_2, hl1_2, wf1_2, fl1_3⟩ := flatOK_int fl1_2
  obtain ⟨a1_3, l1_3, hl1_3, wf1_3, fl1_4⟩ := flatOK_int fl1_3
  obtain ⟨a1_4, l1_4, hl1_4, wf1_4, fl1_5⟩ := flatOK_int fl1_4
  obtain ⟨a1_5, l1_5, hl1_5, wf1_5, fl1_6⟩ := flatOK_int fl1_5
  have hz1 := flatOK_nil fl1_6
  subst hz1 hl1_5 hl1_4 hl1_3 hl1_2 hl1_1 hl1_0 hv1
  refine (law_back l0 v0 ⟨a1_0, a1_1, a1_2, a1_3, a1_4, a1_5⟩ W hs0).mono fun e W' ⟨he, hg⟩ => ⟨.bool true, he, ?_⟩
  exact law_post Try.laidOut (by kernel_rfl) rfl rfl Try.underlying4 hW' rfl hg.below

theorem rangetreeBack_holds : Rows.RangetreeBackSaid :=
  OpenClaim.holds_of_wide 10 Try.f10 rfl rfl rfl rfl rfl rfl rfl ⟨rfl, rfl, rfl, rfl, rfl⟩ rfl rfl rfl rfl rfl (by kernel_rfl) Try.func10 (by kernel_rfl)
    (of_decide_eq_true (by kernel_rfl)) (by unfold Func.isWrapper; first | (rw [if_pos (by decide +kernel)]; kernel_rfl) | (rw [if_neg (by decide +kernel)]; exact ⟨rfl, rfl⟩))
    (fun os started H enc _ => rangetreeBack_lifted os started H enc)

end Go.Proofs.Ytnbohogkfdeddaa
