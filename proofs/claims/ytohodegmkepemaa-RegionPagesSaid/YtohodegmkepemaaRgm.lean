/- Layer 22: awake. -/
import Derived.Test.YtohodegmkepemaaRgl
set_option linter.unusedSimpArgs false
set_option linter.unusedVariables false
namespace Go.Proofs.Ytohodegmkepemaa
open Go.RowKit

set_option maxHeartbeats 2000000 in
theorem awake_any (w : World) :
    Calls Try.prog 13 #[] w fun e w' => e = .returned (.bool true) ∧ Ext w w' := by
  have e1 : splV (splE 4 6 3 1 2 5 7) 4 6 3 1 2 5 7 = .tuple #[.agg #[.int .i64 4, .int .i64 3, .int .i64 3, .int .i64 1, .int .i64 2, .int .i64 5], .agg #[.int .i64 7, .int .i64 3, .int .i64 3, .int .i64 1, .int .i64 2, .int .i64 8], .int .i64 0] := by rfl
  have e2 : mergV (mergE 4 3 3 1 2 5 7 3 3 1 2 8) 4 3 3 1 2 5 3 = .tuple #[.agg #[.int .i64 4, .int .i64 6, .int .i64 3, .int .i64 1, .int .i64 2, .int .i64 5], .int .i64 0] := by rfl
  have e3 : splV (splE 500 12 1 2 (-1) 0 505) 500 12 1 2 (-1) 0 505 = .tuple #[.agg #[.int .i64 500, .int .i64 5, .int .i64 1, .int .i64 2, .int .i64 (-1), .int .i64 0], .agg #[.int .i64 505, .int .i64 7, .int .i64 1, .int .i64 0, .int .i64 (-1), .int .i64 0], .int .i64 0] := by rfl
  have e4 : pageF 4 6 3 1 2 5 7 = 8 := by rfl
  have e5 : endF 4 6 3 1 2 5 = 10 := by rfl
  have e6 : permF 4 6 3 1 2 5 true = true := by rfl
  have e7 : chkR 0 1 2 0 (-1) 0 = 1 := by rfl
  have e8 : chkR 500 13 1 0 (-1) 0 = 2 := by rfl
  have HE : Hid (cutE 4 6 3 1 2 5 5 2 = 0) := by show cutE 4 6 3 1 2 5 5 2 = 0; rfl
  have HL : Hid (cutL 4 6 3 1 2 5 5 2 = [rgc 4 1 3 1 2 5, rgc 7 3 3 1 2 8]) := by show cutL 4 6 3 1 2 5 5 2 = [rgc 4 1 3 1 2 5, rgc 7 3 3 1 2 8]; rfl
  go_enter Try.func13, Try.ntmps13
  go_upto_region 7 with (first | (go_at_call 20; refine (cu_any _ _ _ _ _ _ _ _ _).mono ?_; intro e w1 hcp; obtain ⟨vc, hvc, hsl, os1, n1, rfl⟩ := hcp; rw [HE.out] at hvc; subst hvc; rw [HL.out] at hsl; obtain ⟨bc, oc, capc, rfl, hcp1, hcp2, hblt, hcell⟩ := hsl.cell (by decide); have hbl : LtD bc _ := hblt; (try simp at hbl); have c6 := (hcell 6 (by decide)).trans (c := some (Value.int .i64 7)) rfl; have c7 := (hcell 7 (by decide)).trans (c := some (Value.int .i64 3)) rfl; have c8 := (hcell 8 (by decide)).trans (c := some (Value.int .i64 3)) rfl; have c9 := (hcell 9 (by decide)).trans (c := some (Value.int .i64 1)) rfl; have c10 := (hcell 10 (by decide)).trans (c := some (Value.int .i64 2)) rfl; have c11 := (hcell 11 (by decide)).trans (c := some (Value.int .i64 8)) rfl; clear hcell hsl hblt) | (go_at_call 18; refine (sp_any _ _ _ _ _ _ _ _).mono ?_; rintro e w1 ⟨rfl, os1, n1, rfl⟩) | (go_at_call 14; refine (me_any _ _ _ _ _ _ _ _ _ _ _ _ _).mono ?_; rintro e w1 ⟨rfl, os1, n1, rfl⟩) | (go_at_call 24; refine (page_any _ _ _ _ _ _ _ _).mono ?_; rintro e w1 ⟨rfl, os1, n1, rfl⟩) | (go_at_call 27; refine (end_any _ _ _ _ _ _ _).mono ?_; rintro e w1 ⟨rfl, os1, n1, rfl⟩) | (go_at_call 25; refine (perm_true _ _ _ _ _ _ _).mono ?_; rintro e w1 ⟨rfl, os1, n1, rfl⟩) | (go_at_call 11; refine (chk_any _ _ _ _ _ _ _).mono ?_; rintro e w1 ⟨rfl, os1, n1, rfl⟩))
  (refine wp_region_ext (by kernel_rfl) (by kernel_rfl) ?_; (repeat (any_goals (refine wpQuiet_step (fun K hK => ?_); go_simp; (first | (refine hK _ ?_; clear hK K) | (apply Exists.intro; refine ⟨fun _ => ?_, hK _ ?_⟩; (first | (go_at_call 18; exact Calls.ext_of (sp_any _ _ _ _ _ _ _ _)) | (go_at_call 14; exact Calls.ext_of (me_any _ _ _ _ _ _ _ _ _ _ _ _ _)) | (go_at_call 24; exact Calls.ext_of (page_any _ _ _ _ _ _ _ _)) | (go_at_call 27; exact Calls.ext_of (end_any _ _ _ _ _ _ _)) | (go_at_call 25; exact Calls.ext_of (perm_true _ _ _ _ _ _ _)) | (go_at_call 11; exact Calls.ext_of (chk_any _ _ _ _ _ _ _))); (clear hK K)) | (split <;> (refine hK _ ?_; clear hK K)))))); all_goals (refine wpQuiet_nil ?_; intro wq hwq; obtain ⟨⟨osq, nq⟩, hwq2⟩ := hwq; subst hwq2; dsimp only))
  all_goals go_wp2
  all_goals go_returns
  all_goals exact ⟨rfl, by (exact Ext.of_below (by (repeat' (first | (with_reducible exact Below.refl _ _) | (with_reducible assumption) | (with_reducible refine Below.alloc ?_ ?_ _) | (with_reducible refine Below.wext ?_ ?_ _ _) | (with_reducible refine Below.drew ?_) | (with_reducible refine Below.setCell ?_ ?_ _) | (with_reducible exact Nat.le_refl _) | (simp; omega) | (simp; done)))))⟩

end Go.Proofs.Ytohodegmkepemaa
