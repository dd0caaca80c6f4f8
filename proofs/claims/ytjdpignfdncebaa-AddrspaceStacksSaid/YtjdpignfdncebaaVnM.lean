/- Address spaces, the reference's side: pieces. -/
import Derived.Test.YtjdpignfdncebaaQl
set_option linter.unusedSimpArgs false
set_option linter.unusedVariables false
namespace Go.Proofs.Ytjdpignfdncebaa
open Go.RowKit

/-- A region's parts, and the number of the one in the range. -/
def pcsL (x : RV) (g c : Int) : List RV := (divP x g c).map (·.1)
def pcsJ (x : RV) (g : Int) : Nat := if x.s < g then 1 else 0
theorem pcs_at {x : RV} {g c : Int} (hx : chkV x = 0) (h1 : g < x.s + x.p) (h2 : x.s < g + c) (hc : 1 ≤ c) : ∃ y, (pcsL x g c)[pcsJ x g]? = some y ∧ (∀ tr, (pcsL x g c).set (pcsJ x g) (tr y) = (divP x g c).map (selT tr)) ∧ chkV y = 0 ∧ (y.f = x.f ∨ y.f = bits .andNot .i64 x.f 2) := by
  have bx := chkV_bd hx
  unfold pcsL pcsJ divP divH divR
  by_cases h3 : x.s < g
  · rw [split_in hx h3 h1]
    simp only [if_true, if_pos h3, List.map_cons]
    have q1 := spLo_ok hx h3 h1
    have q2 := spHi_ok hx h3 h1
    have e3 : (spHi x g).s = g := rfl
    have e4 : (spHi x g).p = x.p - (g - x.s) := rfl
    by_cases h4 : g + c < x.s + x.p
    · rw [split_in q2 (by omega) (by omega)]
      refine ⟨spLo (spHi x g) (g + c), rfl, fun tr => rfl, spLo_ok q2 (by omega) (by omega), .inr rfl⟩
    · rw [split_out q2 (.inr (by omega))]
      exact ⟨spHi x g, rfl, fun tr => rfl, q2, .inr rfl⟩
  · rw [split_out hx (.inl (by omega))]
    simp only [show ((2 : Int) = 0) = False by simp, if_false, if_neg h3]
    by_cases h4 : g + c < x.s + x.p
    · rw [split_in hx h2 h4]
      exact ⟨spLo x (g + c), rfl, fun tr => rfl, spLo_ok hx h2 h4, .inl rfl⟩
    · rw [split_out hx (.inr (by omega))]
      exact ⟨x, rfl, fun tr => rfl, hx, .inl rfl⟩

attribute [local irreducible] Wp WL WO fin finB rnd Exit.then Exit.inBlock G GD LT Rd Fn FnB FvB Iter
attribute [local go_sem] RV.row TD.row
set_option maxHeartbeats 1000000 in
theorem pieces_P {x : RV} {g c : Int} (hx : chkV x = 0) (h1 : g < x.s + x.p) (h2 : x.s < g + c) (hb : 0 ≤ g ∧ g ≤ 512 ∧ 1 ≤ c ∧ c ≤ 512) : FnB Try.prog CT 106 [.d (.st x.row), .d (.s (.int .i64 g)), .d (.s (.int .i64 c))] [(101, none)] (.tup [.o 101 (rws (pcsL x g c)).length, .d (.s (.int .i64 (pcsJ x g : Int)))]) [(101, some (23, (rws (pcsL x g c)).flatten.map .d))] := by
  have bx := chkV_bd hx
  have hs1 := rsplit_F x g
  by_cases h3 : x.s < g
  · have hb3 : decide (x.s < g) = true := by simpa using h3
    rw [split_in hx h3 h1] at hs1
    dsimp only at hs1
    have q2 := spHi_ok hx h3 h1
    have e3 : (spHi x g).s = g := rfl
    have e4 : (spHi x g).p = x.p - (g - x.s) := rfl
    have hs2 := rsplit_F (spHi x g) (g + c)
    rw [show pcsJ x g = 1 by unfold pcsJ; rw [if_pos h3]]
    by_cases h4 : g + c < x.s + x.p
    · rw [split_in q2 (by omega) (by omega)] at hs2
      dsimp only at hs2
      have e : pcsL x g c = [spLo x g, spLo (spHi x g) (g + c), spHi (spHi x g) (g + c)] := by
        unfold pcsL divP divH divR
        rw [split_in hx h3 h1]
        simp only [if_true, List.map_cons]
        rw [split_in q2 (by omega) (by omega)]
        rfl
      rw [e]
      generalize spHi x g = y at *
      generalize spLo x g = z0 at *
      generalize spLo y (g + c) = z1 at *
      generalize spHi y (g + c) = z2 at *
      have hb5 : decide (g + c < y.s + y.p) = true := by rw [decide_eq_true_eq]; omega
      refine FnB.of (ks := []) CT.c Try.func106 Try.ntmps106 rfl (by kernel_rfl) (fun w o m E0 hCX => ?_) (hks := kns_eq (l := [101]) rfl (by decide)); (try dsimp only [Is])
      (repeat (first | refine G.cW (hs1) ?_ | refine G.cgW (hs1) ?_ | refine GD.cW (hs1) ?_ | refine GD.cgW (hs1) ?_ | refine G.cW (hs2) ?_ | refine G.cgW (hs2) ?_ | refine GD.cW (hs2) ?_ | refine GD.cgW (hs2) ?_ | ((repeat (revert hK; revert K)); refine wk ?_; repeat intro K hK) | refine wkg ?_))
      refine G.ren (al' := [(6, .o 101 (rws [z0, z1, z2]).length), (7, .d (.s (.int .i64 1)))]) (bs' := [(101, some (23, (rws [z0, z1, z2]).flatten.map .d))]) [(101, 14)] ?_ (by repeat (first | exact trivial | refine ⟨⟨rfl, rfl⟩, ?_⟩)) (by repeat (first | exact trivial | refine ⟨⟨rfl, rfl, rfl⟩, ?_⟩ | refine ⟨⟨rfl, by rw [renL_d]; rfl, kbL_d _ _⟩, ?_⟩ | refine ⟨rfl, ?_⟩)) (by decide) (by rfl)
      refine G.finB2 rfl rfl rfl (by rfl) (by first | ((repeat (first | exact trivial | refine ⟨.inl rfl, ?_⟩ | refine ⟨.inr rfl, ?_⟩)); done) | fail) (by first | exact Is.cl (hcl _) | exact Is.cl6 (hcl _) | ((repeat (first | exact trivial | refine ⟨ClE.some rfl, ?_⟩ | (with_reducible refine ClB.d ?_) | (with_reducible refine ⟨ClE.some (numsL_d _ _), ?_⟩) | refine ⟨ClE.none, ?_⟩)); done) | fail) (by rfl)
    · rw [split_out q2 (.inr (by omega))] at hs2
      dsimp only at hs2
      have e : pcsL x g c = [spLo x g, spHi x g] := by
        unfold pcsL divP divH divR
        rw [split_in hx h3 h1]
        simp only [if_true, List.map_cons]
        rw [split_out q2 (.inr (by omega))]
        rfl
      rw [e]
      generalize spHi x g = y at *
      generalize spLo x g = z0 at *
      have hb5 : decide (g + c < y.s + y.p) = false := by rw [decide_eq_false_iff_not]; omega
      refine FnB.of (ks := []) CT.c Try.func106 Try.ntmps106 rfl (by kernel_rfl) (fun w o m E0 hCX => ?_) (hks := kns_eq (l := [101]) rfl (by decide)); (try dsimp only [Is])
      (repeat (first | refine G.cW (hs1) ?_ | refine G.cgW (hs1) ?_ | refine GD.cW (hs1) ?_ | refine GD.cgW (hs1) ?_ | refine G.cW (hs2) ?_ | refine G.cgW (hs2) ?_ | refine GD.cW (hs2) ?_ | refine GD.cgW (hs2) ?_ | ((repeat (revert hK; revert K)); refine wk ?_; repeat intro K hK) | refine wkg ?_))
      refine G.ren (al' := [(6, .o 101 (rws [z0, y]).length), (7, .d (.s (.int .i64 1)))]) (bs' := [(101, some (23, (rws [z0, y]).flatten.map .d))]) [(101, 10)] ?_ (by repeat (first | exact trivial | refine ⟨⟨rfl, rfl⟩, ?_⟩)) (by repeat (first | exact trivial | refine ⟨⟨rfl, rfl, rfl⟩, ?_⟩ | refine ⟨⟨rfl, by rw [renL_d]; rfl, kbL_d _ _⟩, ?_⟩ | refine ⟨rfl, ?_⟩)) (by decide) (by rfl)
      refine G.finB2 rfl rfl rfl (by rfl) (by first | ((repeat (first | exact trivial | refine ⟨.inl rfl, ?_⟩ | refine ⟨.inr rfl, ?_⟩)); done) | fail) (by first | exact Is.cl (hcl _) | exact Is.cl6 (hcl _) | ((repeat (first | exact trivial | refine ⟨ClE.some rfl, ?_⟩ | (with_reducible refine ClB.d ?_) | (with_reducible refine ⟨ClE.some (numsL_d _ _), ?_⟩) | refine ⟨ClE.none, ?_⟩)); done) | fail) (by rfl)
  · have hb3 : decide (x.s < g) = false := by simpa using h3
    have hs2 := rsplit_F x (g + c)
    rw [show pcsJ x g = 0 by unfold pcsJ; rw [if_neg h3]]
    by_cases h4 : g + c < x.s + x.p
    · rw [split_in hx h2 h4] at hs2
      dsimp only at hs2
      have e : pcsL x g c = [spLo x (g + c), spHi x (g + c)] := by
        unfold pcsL divP divH divR
        rw [split_out hx (.inl (by omega))]
        simp only [show ((2 : Int) = 0) = False by simp, if_false]
        rw [split_in hx h2 h4]
        rfl
      rw [e]
      generalize spLo x (g + c) = z1 at *
      generalize spHi x (g + c) = z2 at *
      have hb5 : decide (g + c < x.s + x.p) = true := by simpa using h4
      refine FnB.of (ks := []) CT.c Try.func106 Try.ntmps106 rfl (by kernel_rfl) (fun w o m E0 hCX => ?_) (hks := kns_eq (l := [101]) rfl (by decide)); (try dsimp only [Is])
      (repeat (first | refine G.cW (hs2) ?_ | refine G.cgW (hs2) ?_ | refine GD.cW (hs2) ?_ | refine GD.cgW (hs2) ?_ | ((repeat (revert hK; revert K)); refine wk ?_; repeat intro K hK) | refine wkg ?_))
      refine G.ren (al' := [(6, .o 101 (rws [z1, z2]).length), (7, .d (.s (.int .i64 0)))]) (bs' := [(101, some (23, (rws [z1, z2]).flatten.map .d))]) [(101, 7)] ?_ (by repeat (first | exact trivial | refine ⟨⟨rfl, rfl⟩, ?_⟩)) (by repeat (first | exact trivial | refine ⟨⟨rfl, rfl, rfl⟩, ?_⟩ | refine ⟨⟨rfl, by rw [renL_d]; rfl, kbL_d _ _⟩, ?_⟩ | refine ⟨rfl, ?_⟩)) (by decide) (by rfl)
      refine G.finB2 rfl rfl rfl (by rfl) (by first | ((repeat (first | exact trivial | refine ⟨.inl rfl, ?_⟩ | refine ⟨.inr rfl, ?_⟩)); done) | fail) (by first | exact Is.cl (hcl _) | exact Is.cl6 (hcl _) | ((repeat (first | exact trivial | refine ⟨ClE.some rfl, ?_⟩ | (with_reducible refine ClB.d ?_) | (with_reducible refine ⟨ClE.some (numsL_d _ _), ?_⟩) | refine ⟨ClE.none, ?_⟩)); done) | fail) (by rfl)
    · have hb5 : decide (g + c < x.s + x.p) = false := by simpa using h4
      have e : pcsL x g c = [x] := by
        unfold pcsL divP divH divR
        rw [split_out hx (.inl (by omega))]
        simp only [show ((2 : Int) = 0) = False by simp, if_false]
        rw [split_out hx (.inr (by omega))]
        rfl
      rw [e]
      refine FnB.of (ks := []) CT.c Try.func106 Try.ntmps106 rfl (by kernel_rfl) (fun w o m E0 hCX => ?_) (hks := kns_eq (l := [101]) rfl (by decide)); (try dsimp only [Is])
      (repeat (first | ((repeat (revert hK; revert K)); refine wk ?_; repeat intro K hK) | refine wkg ?_))
      refine G.ren (al' := [(6, .o 101 (rws [x]).length), (7, .d (.s (.int .i64 0)))]) (bs' := [(101, some (23, (rws [x]).flatten.map .d))]) [(101, 3)] ?_ (by repeat (first | exact trivial | refine ⟨⟨rfl, rfl⟩, ?_⟩)) (by repeat (first | exact trivial | refine ⟨⟨rfl, rfl, rfl⟩, ?_⟩ | refine ⟨⟨rfl, by rw [renL_d]; rfl, kbL_d _ _⟩, ?_⟩ | refine ⟨rfl, ?_⟩)) (by decide) (by rfl)
      refine G.finB2 rfl rfl rfl (by rfl) (by first | ((repeat (first | exact trivial | refine ⟨.inl rfl, ?_⟩ | refine ⟨.inr rfl, ?_⟩)); done) | fail) (by first | exact Is.cl (hcl _) | exact Is.cl6 (hcl _) | ((repeat (first | exact trivial | refine ⟨ClE.some rfl, ?_⟩ | (with_reducible refine ClB.d ?_) | (with_reducible refine ⟨ClE.some (numsL_d _ _), ?_⟩) | refine ⟨ClE.none, ?_⟩)); done) | fail) (by rfl)

end Go.Proofs.Ytjdpignfdncebaa
