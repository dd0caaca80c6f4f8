/- For every argument the law IntervalKeeps returns true and leaves its arguments as they were. No condition. -/
import Derived.Test.YtlboakmiopnifaaLift
import Derived.Test.YtlboakmiopnifaaIwk
set_option linter.unusedSimpArgs false
set_option linter.unusedVariables false
namespace Go.Proofs.Ytlboakmiopnifaa
open Go.ChangeShapes Go.WideShapes Go.ChangeAt Go.RowKit

set_option maxRecDepth 100000 in
theorem intervalKeeps_lifted (os : Os) (started : os.Started) (H : Type) (enc : TypeId × Value → H) :
    ReturnsInHanded {} Try.checked os 10 .any (Rows.intervalKeepsSpec.pre6 enc Try.prog Try.f10 Rows.intervalKeepsRow.domain false) (Rows.intervalKeepsSpec.post enc Try.prog Try.f10 false true false false) := by
  refine returnsInHanded_of_change_sized (C := Try.checked) Try.own started (by kernel_rfl) Try.func10
    (ChangeSpec.witness6 (enc := enc) (C := Try.checked) false ⟨#[], #[.slice none 0 0, .slice none 0 0, .agg #[.int .i64 0, .int .i64 0]], []⟩ 8 (by kernel_rfl) (by kernel_rfl) (by kernel_rfl) (by kernel_rfl)) ?_
  intro W base args ds gs before hval0 hW _ hsz0 _
  have hval : ∀ (j : Nat) t v, Try.f10.params[j]? = some t → args[j]? = some v → Value.okWide Try.prog W .any base t v := hval0
  have hW' := hW
  have hlt := hW.lt
  obtain ⟨p, q, hA0, hV, rfl, _, _⟩ := hW
  have hA : DataW.TrodAll enc Try.prog W 0 (fun _ => true) true Try.f10.params.toList args.toList ds p := hA0
  have hsz : (DataW.weightsEach Try.prog (Try.f10.params.toList ++ Rows.intervalKeepsSpec.plain.varTypes Try.prog) (ds ++ gs)).all (· ≤ reachBytes) = true := hsz0
  rw [Try.params10] at hA hval hsz
  clear hA0 hval0 hsz0
  obtain ⟨rfl, rfl⟩ := trodVars_none hV
  obtain ⟨v0, vs0, d0, ds0, p0, q0, hargs0, hds0, hps0, h0, r0⟩ := trodAll_cons hA
  obtain ⟨v1, vs1, d1, ds1, p1, q1, hargs1, hds1, hps1, h1, r1⟩ := trodAll_cons r0
  obtain ⟨v2, vs2, d2, ds2, p2, q2, hargs2, hds2, hps2, h2, r2⟩ := trodAll_cons r1
  obtain ⟨ha3, hb3, hc3⟩ := trodAll_nil r2
  obtain rfl : args = #[v0, v1, v2] := by cases args; simp_all
  obtain rfl : ds = [d0, d1, d2] := by simp_all
  clear hargs0 hds0 hargs1 hds1 hargs2 hds2 ha3 hb3
  obtain ⟨rows0, rok0, rin0⟩ := open_flats [some .i64, some .i64] (by decide) Try.underlying22 Try.underlying28 (by kernel_rfl) (by kernel_rfl) (by kernel_rfl) (hval 0 22 v0 rfl rfl) h0
  obtain ⟨rows1, rok1, rin1⟩ := open_flats [some .i64, some .i64] (by decide) Try.underlying22 Try.underlying28 (by kernel_rfl) (by kernel_rfl) (by kernel_rfl) (hval 1 22 v1 rfl rfl) h1
  obtain ⟨l2, hv2, fl2_0, hp2⟩ := open_flat [some .i64, some .i64] Try.underlying28 (by kernel_rfl) (by kernel_rfl) (by kernel_rfl) (hval 2 28 v2 rfl rfl) h2
  obtain ⟨a2_0, l2_0, hl2_0, wf2_0, fl2_1⟩ := flatOK_int fl2_0
  obtain ⟨a2_1, l2_1, hl2_1, wf2_1, fl2_2⟩ := flatOK_int fl2_1
  have hz2 := flatOK_nil fl2_2
  subst hz2 hl2_1 hl2_0 hv2
  refine (law_keeps rows0 rows1 rok0 rok1 v0 v1 a2_0 a2_1 W rin0 rin1).mono fun e W' ⟨he, hg⟩ => ⟨.bool true, he, ?_⟩
  exact law_post Try.laidOut (by kernel_rfl) rfl rfl Try.underlying4 hW' rfl hg.below

theorem intervalKeeps_holds : Rows.IntervalKeepsSaid :=
  OpenClaim.holds_of_wide 10 Try.f10 rfl rfl rfl rfl rfl rfl rfl ⟨rfl, rfl, rfl, rfl, rfl⟩ rfl rfl rfl rfl rfl (by kernel_rfl) Try.func10 (by kernel_rfl)
    (of_decide_eq_true (by kernel_rfl)) (by unfold Func.isWrapper; first | (rw [if_pos (by decide +kernel)]; kernel_rfl) | (rw [if_neg (by decide +kernel)]; exact ⟨rfl, rfl⟩))
    (fun os started H enc _ => intervalKeeps_lifted os started H enc)

end Go.Proofs.Ytlboakmiopnifaa
