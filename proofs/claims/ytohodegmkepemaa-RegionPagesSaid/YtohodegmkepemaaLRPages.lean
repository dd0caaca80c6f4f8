/- For every argument the law RegionPages returns true and leaves its arguments as they were. No condition. -/
import Derived.Test.YtohodegmkepemaaLift
import Derived.Test.YtohodegmkepemaaRgw
set_option linter.unusedSimpArgs false
set_option linter.unusedVariables false
namespace Go.Proofs.Ytohodegmkepemaa
open Go.ChangeShapes Go.WideShapes Go.ChangeAt Go.RowKit

set_option maxRecDepth 100000 in
theorem regionPages_lifted (os : Os) (started : os.Started) (H : Type) (enc : TypeId × Value → H) :
    ReturnsInHanded {} Try.checked os 7 .any (Rows.regionPagesSpec.pre6 enc Try.prog Try.f7 Rows.regionPagesRow.domain false) (Rows.regionPagesSpec.post enc Try.prog Try.f7 false true false false) := by
  refine returnsInHanded_of_change_sized (C := Try.checked) Try.own started (by kernel_rfl) Try.func7
    (ChangeSpec.witness6 (enc := enc) (C := Try.checked) false ⟨#[], #[.agg #[.int .i64 0, .int .i64 0, .int .i64 0, .int .i64 0, .int .i64 0, .int .i64 0], .int .i64 0, .int .i64 0], []⟩ 8 (by kernel_rfl) (by kernel_rfl) (by kernel_rfl) (by kernel_rfl)) ?_
  intro W base args ds gs before hval0 hW _ hsz0 _
  have hval : ∀ (j : Nat) t v, Try.f7.params[j]? = some t → args[j]? = some v → Value.okWide Try.prog W .any base t v := hval0
  have hW' := hW
  have hlt := hW.lt
  obtain ⟨p, q, hA0, hV, rfl, _, _⟩ := hW
  have hA : DataW.TrodAll enc Try.prog W 0 (fun _ => true) true Try.f7.params.toList args.toList ds p := hA0
  have hsz : (DataW.weightsEach Try.prog (Try.f7.params.toList ++ Rows.regionPagesSpec.plain.varTypes Try.prog) (ds ++ gs)).all (· ≤ reachBytes) = true := hsz0
  rw [Try.params7] at hA hval hsz
  clear hA0 hval0 hsz0
  obtain ⟨rfl, rfl⟩ := trodVars_none hV
  obtain ⟨v0, vs0, d0, ds0, p0, q0, hargs0, hds0, hps0, h0, r0⟩ := trodAll_cons hA
  obtain ⟨v1, vs1, d1, ds1, p1, q1, hargs1, hds1, hps1, h1, r1⟩ := trodAll_cons r0
  obtain ⟨v2, vs2, d2, ds2, p2, q2, hargs2, hds2, hps2, h2, r2⟩ := trodAll_cons r1
  obtain ⟨ha3, hb3, hc3⟩ := trodAll_nil r2
  obtain rfl : args = #[v0, v1, v2] := by cases args; simp_all
  obtain rfl : ds = [d0, d1, d2] := by simp_all
  clear hargs0 hds0 hargs1 hds1 hargs2 hds2 ha3 hb3
  obtain ⟨l0, hv0, fl0_0, hp0⟩ := open_flat [some .i64, some .i64, some .i64, some .i64, some .i64, some .i64] Try.underlying23 (by kernel_rfl) (by kernel_rfl) (by kernel_rfl) (hval 0 23 v0 rfl rfl) h0
  obtain ⟨a0_0, l0_0, hl0_0, wf0_0, fl0_1⟩ := flatOK_int fl0_0
  obtain ⟨a0_1, l0_1, hl0_1, wf0_1, fl0_2⟩ := flatOK_int fl0_1
  obtain ⟨a0_2, l0_2, hl0_2, wf0_2, fl0_3⟩ := flatOK_int fl0_2
  obtain ⟨a0_3, l0_3, hl0_3, wf0_3, fl0_4⟩ := flatOK_int fl0_3
  obtain ⟨a0_4, l0_4, hl0_4, wf0_4, fl0_5⟩ := flatOK_int fl0_4
  obtain ⟨a0_5, l0_5, hl0_5, wf0_5, fl0_6⟩ := flatOK_int fl0_5
  have hz0 := flatOK_nil fl0_6
  subst hz0 hl0_5 hl0_4 hl0_3 hl0_2 hl0_1 hl0_0 hv0
  obtain ⟨a1, rfl, rfl, hp1, wf1⟩ := open_int Try.underlying3 (hval 1 3 v1 rfl rfl) h1
  obtain ⟨a2, rfl, rfl, hp2, wf2⟩ := open_int Try.underlying3 (hval 2 3 v2 rfl rfl) h2
  refine (law_pages a0_0 a0_1 a0_2 a0_3 a0_4 a0_5 a1 a2 W).mono fun e W' ⟨he, hg⟩ => ⟨.bool true, he, ?_⟩
  exact law_post Try.laidOut (by kernel_rfl) rfl rfl Try.underlying4 hW' rfl hg.below

theorem regionPages_holds : Rows.RegionPagesSaid :=
  OpenClaim.holds_of_wide 7 Try.f7 rfl rfl rfl rfl rfl rfl rfl ⟨rfl, rfl, rfl, rfl, rfl⟩ rfl rfl rfl rfl rfl (by kernel_rfl) Try.func7 (by kernel_rfl)
    (of_decide_eq_true (by kernel_rfl)) (by unfold Func.isWrapper; first | (rw [if_pos (by decide +kernel)]; kernel_rfl) | (rw [if_neg (by decide +kernel)]; exact ⟨rfl, rfl⟩))
    (fun os started H enc _ => regionPages_lifted os started H enc)

end Go.Proofs.Ytohodegmkepemaa
