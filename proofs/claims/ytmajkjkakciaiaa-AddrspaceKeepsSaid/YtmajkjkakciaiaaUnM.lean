/- Address spaces, the program's side: divide, change. -/
import Derived.Test.YtmajkjkakciaiaaQk
set_option linter.unusedSimpArgs false
set_option linter.unusedVariables false
namespace Go.Proofs.Ytmajkjkakciaiaa
open Go.RowKit

/-- The part that is not below the range. -/
def divR (x : RV) (g : Int) : RV := if (splitV x g).2.2 = 0 then (splitV x g).2.1 else x
def divH (x : RV) (g c : Int) : List (RV × Bool) := if (splitV (divR x g) (g + c)).2.2 = 0 then [((splitV (divR x g) (g + c)).1, true), ((splitV (divR x g) (g + c)).2.1, false)] else [(divR x g, true)]
/-- A region's parts below a range, in it, above it. -/
def divP (x : RV) (g c : Int) : List (RV × Bool) := if (splitV x g).2.2 = 0 then ((splitV x g).1, false) :: divH x g c else divH x g c

attribute [local irreducible] Wp WL WO fin finB rnd Exit.then Exit.inBlock G GD LT Rd Fn FnB FvB Iter
attribute [local go_sem] RV.row TD.row
set_option maxHeartbeats 1000000 in
theorem divide_F {C : Cx → Prop} (hCc : Cc C) (x : RV) (g c : Int) (hb : 0 ≤ g ∧ g ≤ 512 ∧ 0 ≤ c ∧ c ≤ 512) (yf : D) (n : Nat) (cb : Nat → Nat → Option (TypeId × List AV)) (hcl : ∀ i j, ClE inI (cb i j))
    (hy : ∀ j y b, (divP x g c)[j]? = some (y, b) → FvB Try.prog C (.d yf) [.d (.st y.row), .d (.s (.bool b))] (Is (cb (n + j))) (.d (.s (.bool true))) (Is (cb (n + j + 1)))) :
    FnB Try.prog C 65 [.d (.st x.row), .d (.s (.int .i64 g)), .d (.s (.int .i64 c)), .d yf] (Is (cb n)) (.d (.s (.bool true))) (Is (cb (n + (divP x g c).length))) := by
  have hs1 := split_F x g
  by_cases h1 : (splitV x g).2.2 = 0
  · have hb1 : ((splitV x g).2.2 == 0) = true := by simp [h1]
    have e1 : divR x g = (splitV x g).2.1 := by unfold divR; rw [if_pos h1]
    have hs2 := split_F (splitV x g).2.1 (g + c)
    by_cases h2 : (splitV (splitV x g).2.1 (g + c)).2.2 = 0
    · have hb2 : ((splitV (splitV x g).2.1 (g + c)).2.2 != 0) = false := by simp [h2]
      have e : divP x g c = [((splitV x g).1, false), ((splitV (splitV x g).2.1 (g + c)).1, true), ((splitV (splitV x g).2.1 (g + c)).2.1, false)] := by
        unfold divP divH; rw [if_pos h1, e1, if_pos h2]
      rw [e] at hy ⊢
      have y0 := hy 0 _ _ rfl
      have y1 := hy 1 _ _ rfl
      have y2 := hy 2 _ _ rfl
      refine FnB.of (ks := [100, 102, 104]) hCc Try.func65 Try.ntmps65 rfl (by kernel_rfl) (fun w o m E0 hCX => ?_) (hks := kns_Is _); (try dsimp only [Is])
      (repeat (first | refine G.cW (hs1) ?_ | refine G.cgW (hs1) ?_ | refine GD.cW (hs1) ?_ | refine GD.cgW (hs1) ?_ | refine G.cW (hs2) ?_ | refine G.cgW (hs2) ?_ | refine GD.cW (hs2) ?_ | refine GD.cgW (hs2) ?_ | (show G _ _ _ _ (WL _ _ _ _ (⟨some _, .call _, _, _, _, none⟩ :: _)); refine G.cvCW (y0) hCc hCX ?_) | (show G _ _ _ _ (WL _ _ _ _ (⟨some _, .call _, _, _, _, none⟩ :: _)); refine G.cvCW (y1) hCc hCX ?_) | (show G _ _ _ _ (WL _ _ _ _ (⟨some _, .call _, _, _, _, none⟩ :: _)); refine G.cvCW (y2) hCc hCX ?_) | ((repeat (revert hK; revert K)); refine wkT ?_; repeat intro K hK) | refine wkg ?_))
      refine G.finB1 rfl rfl (by rfl) (by first | ((repeat (first | exact trivial | refine ⟨.inl rfl, ?_⟩ | refine ⟨.inr rfl, ?_⟩)); done) | fail) (by first | exact Is.cl (hcl _) | exact Is.cl6 (hcl _) | ((repeat (first | exact trivial | refine ⟨ClE.some rfl, ?_⟩ | (with_reducible refine ClB.d ?_) | (with_reducible refine ⟨ClE.some (numsL_d _ _), ?_⟩) | refine ⟨ClE.none, ?_⟩)); done) | fail) (by rfl)
    · have hb2 : ((splitV (splitV x g).2.1 (g + c)).2.2 != 0) = true := by simp [h2]
      have e : divP x g c = [((splitV x g).1, false), ((splitV x g).2.1, true)] := by
        unfold divP divH; rw [if_pos h1, e1, if_neg h2]
      rw [e] at hy ⊢
      have y0 := hy 0 _ _ rfl
      have y1 := hy 1 _ _ rfl
      refine FnB.of (ks := [100, 102, 104]) hCc Try.func65 Try.ntmps65 rfl (by kernel_rfl) (fun w o m E0 hCX => ?_) (hks := kns_Is _); (try dsimp only [Is])
      (repeat (first | refine G.cW (hs1) ?_ | refine G.cgW (hs1) ?_ | refine GD.cW (hs1) ?_ | refine GD.cgW (hs1) ?_ | refine G.cW (hs2) ?_ | refine G.cgW (hs2) ?_ | refine GD.cW (hs2) ?_ | refine GD.cgW (hs2) ?_ | (show G _ _ _ _ (WL _ _ _ _ (⟨some _, .call _, _, _, _, none⟩ :: _)); refine G.cvCW (y0) hCc hCX ?_) | (show G _ _ _ _ (WL _ _ _ _ (⟨some _, .call _, _, _, _, none⟩ :: _)); refine G.cvCW (y1) hCc hCX ?_) | ((repeat (revert hK; revert K)); refine wkT ?_; repeat intro K hK) | refine wkg ?_))
      refine G.finB1 rfl rfl (by rfl) (by first | ((repeat (first | exact trivial | refine ⟨.inl rfl, ?_⟩ | refine ⟨.inr rfl, ?_⟩)); done) | fail) (by first | exact Is.cl (hcl _) | exact Is.cl6 (hcl _) | ((repeat (first | exact trivial | refine ⟨ClE.some rfl, ?_⟩ | (with_reducible refine ClB.d ?_) | (with_reducible refine ⟨ClE.some (numsL_d _ _), ?_⟩) | refine ⟨ClE.none, ?_⟩)); done) | fail) (by rfl)
  · have hb1 : ((splitV x g).2.2 == 0) = false := by simp [h1]
    have e1 : divR x g = x := by unfold divR; rw [if_neg h1]
    have hs2 := split_F x (g + c)
    by_cases h2 : (splitV x (g + c)).2.2 = 0
    · have hb2 : ((splitV x (g + c)).2.2 != 0) = false := by simp [h2]
      have e : divP x g c = [((splitV x (g + c)).1, true), ((splitV x (g + c)).2.1, false)] := by
        unfold divP divH; rw [if_neg h1, e1, if_pos h2]
      rw [e] at hy ⊢
      have y0 := hy 0 _ _ rfl
      have y1 := hy 1 _ _ rfl
      refine FnB.of (ks := [100, 102, 104]) hCc Try.func65 Try.ntmps65 rfl (by kernel_rfl) (fun w o m E0 hCX => ?_) (hks := kns_Is _); (try dsimp only [Is])
      (repeat (first | refine G.cW (hs1) ?_ | refine G.cgW (hs1) ?_ | refine GD.cW (hs1) ?_ | refine GD.cgW (hs1) ?_ | refine G.cW (hs2) ?_ | refine G.cgW (hs2) ?_ | refine GD.cW (hs2) ?_ | refine GD.cgW (hs2) ?_ | (show G _ _ _ _ (WL _ _ _ _ (⟨some _, .call _, _, _, _, none⟩ :: _)); refine G.cvCW (y0) hCc hCX ?_) | (show G _ _ _ _ (WL _ _ _ _ (⟨some _, .call _, _, _, _, none⟩ :: _)); refine G.cvCW (y1) hCc hCX ?_) | ((repeat (revert hK; revert K)); refine wkT ?_; repeat intro K hK) | refine wkg ?_))
      refine G.finB1 rfl rfl (by rfl) (by first | ((repeat (first | exact trivial | refine ⟨.inl rfl, ?_⟩ | refine ⟨.inr rfl, ?_⟩)); done) | fail) (by first | exact Is.cl (hcl _) | exact Is.cl6 (hcl _) | ((repeat (first | exact trivial | refine ⟨ClE.some rfl, ?_⟩ | (with_reducible refine ClB.d ?_) | (with_reducible refine ⟨ClE.some (numsL_d _ _), ?_⟩) | refine ⟨ClE.none, ?_⟩)); done) | fail) (by rfl)
    · have hb2 : ((splitV x (g + c)).2.2 != 0) = true := by simp [h2]
      have e : divP x g c = [(x, true)] := by
        unfold divP divH; rw [if_neg h1, e1, if_neg h2]
      rw [e] at hy ⊢
      have y0 := hy 0 _ _ rfl
      refine FnB.of (ks := [100, 102, 104]) hCc Try.func65 Try.ntmps65 rfl (by kernel_rfl) (fun w o m E0 hCX => ?_) (hks := kns_Is _); (try dsimp only [Is])
      (repeat (first | refine G.cW (hs1) ?_ | refine G.cgW (hs1) ?_ | refine GD.cW (hs1) ?_ | refine GD.cgW (hs1) ?_ | refine G.cW (hs2) ?_ | refine G.cgW (hs2) ?_ | refine GD.cW (hs2) ?_ | refine GD.cgW (hs2) ?_ | (show G _ _ _ _ (WL _ _ _ _ (⟨some _, .call _, _, _, _, none⟩ :: _)); refine G.cvCW (y0) hCc hCX ?_) | ((repeat (revert hK; revert K)); refine wkT ?_; repeat intro K hK) | refine wkg ?_))
      refine G.finB1 rfl rfl (by rfl) (by first | ((repeat (first | exact trivial | refine ⟨.inl rfl, ?_⟩ | refine ⟨.inr rfl, ?_⟩)); done) | fail) (by first | exact Is.cl (hcl _) | exact Is.cl6 (hcl _) | ((repeat (first | exact trivial | refine ⟨ClE.some rfl, ?_⟩ | (with_reducible refine ClB.d ?_) | (with_reducible refine ⟨ClE.some (numsL_d _ _), ?_⟩) | refine ⟨ClE.none, ?_⟩)); done) | fail) (by rfl)

end Go.Proofs.Ytmajkjkakciaiaa
