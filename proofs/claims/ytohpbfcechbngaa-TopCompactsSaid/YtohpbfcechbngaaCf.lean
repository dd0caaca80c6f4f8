/- Buddy: New; the zone of cells. -/
import Derived.Test.YtohpbfcechbngaaCe
import Derived.Test.YtohpbfcechbngaaCb
set_option linter.unusedSimpArgs false
set_option linter.unusedVariables false
namespace Go.Proofs.Ytohpbfcechbngaa
open Go.RowKit

def neS (n : Nat) (i : Nat) : List (Nat × AV) × Bs := ([(13, .d (.s (.int .i64 (i : Nat)))), (2, .d (.s (.int .i64 0))), (3, .d (.s (.int .i64 n))), (12, .p 100 0), (10, .p 0 0), (11, .d (.s (.int .i64 0)))], (0, some (28, (zZ 0).map .d)) :: puB n (bldF n ((List.range n).take i)))
attribute [local irreducible] Wp WL WO fin finB rnd Exit.then Exit.inBlock G GD LT Rd Fn FnB FvB Iter
attribute [local go_sem] zD zZ iD
set_option maxHeartbeats 4000000 in
theorem new_F (n : Nat) (h1 : 1 ≤ n) (hn : n ≤ 64) : Fn Try.prog 13 [.s (.int .i64 0), .s (.int .i64 0), .s (.int .i64 0), .s (.int .i64 n), .s (.int .i64 0)] (· = .tup [.st (zD n (bldF n (List.range n))), .s (.int .i64 0)]) := by
  have hrg := (ranges_F n h1 hn (fun _ => [])).le (.cons (.st (zZ_le n)) (.refl _))
  unfold zZ at hrg
  have hs : (List.range n).Pairwise (· < ·) := List.pairwise_lt_range
  have hl : ∀ f ∈ List.range n, f < n := fun f hf => List.mem_range.1 hf
  refine Fn.of Try.func13 Try.ntmps13 rfl (by kernel_rfl) (fun w o => ?_)
  (repeat (first | refine G.cW (hrg) ?_ | refine G.cgW (hrg) ?_ | refine GD.cW (hrg) ?_ | refine GD.cgW (hrg) ?_ | ((repeat (revert hK; revert K)); refine wk ?_; repeat intro K hK) | refine wkg ?_))
  trace_state
  refine G.nilAt 1 5 101 3 ?_
  refine G.nilAt 1 6 103 3 ?_
  refine G.nilAt 1 7 105 3 ?_
  refine G.nilAt 1 8 107 3 ?_
  refine G.nilAt 1 9 109 3 ?_
  refine G.loop (neS n) (fun i => i ≤ n) (fun i => n - i) ?_ ?_
  · exact G.at 0 [(0, 0), (100, 1), (101, 101), (103, 103), (105, 105), (107, 107), (109, 109)] (Nat.zero_le _) (by repeat (first | exact trivial | refine ⟨⟨rfl, rfl⟩, ?_⟩)) (by repeat (first | exact trivial | refine ⟨⟨rfl, rfl, rfl⟩, ?_⟩ | refine ⟨⟨rfl, by rw [renL_d]; rfl, kbL_d _ _⟩, ?_⟩ | refine ⟨rfl, ?_⟩)) (by decide)
  · intro i hi
    obtain ⟨hs1, hl1⟩ := bld_ok n hn (List.range n) hs hl i
    rw [List.length_range] at hl1
    by_cases h : i < n
    · have hp := put_O n i hn (by omega) (bldF n ((List.range n).take i)) hs1 (fun j hj => by have := hl1 j hj; omega)
      have hs2 := bld_s n (List.range n) i (by rw [List.length_range]; exact h)
      rw [List.getElem_range] at hs2
      unfold puB at hp
      dsimp only [neS, puB, zZ]
      (repeat (first | (show G _ _ _ _ (WL _ _ _ _ (⟨some _, .call _, _, _, _, none⟩ :: _)); refine G.cvW (hp.v0) ?_) | ((repeat (revert hK; revert K)); refine wkT ?_; repeat intro K hK) | refine wkg ?_))
      rw [← hs2]
      exact G.at (i + 1) [(0, 0), (100, 100), (101, 101), (103, 103), (105, 105), (107, 107), (109, 109)] ⟨by omega, by omega⟩ (by repeat (first | exact trivial | refine ⟨⟨rfl, rfl⟩, ?_⟩)) (by repeat (first | exact trivial | refine ⟨⟨rfl, rfl, rfl⟩, ?_⟩ | refine ⟨⟨rfl, by rw [renL_d]; rfl, kbL_d _ _⟩, ?_⟩ | refine ⟨rfl, ?_⟩)) (by decide)
    · have e : i = n := by omega
      subst e
      dsimp only [neS, puB, zZ]
      have ht : (List.range i).take i = List.range i := by rw [List.take_of_length_le]; rw [List.length_range]; exact Nat.le_refl _
      rw [ht]
      refine G.frzAt (T := 3) 100 5 101 ?_ (by rfl) (il_row _) rfl
      refine G.frzAt (T := 3) 100 6 103 ?_ (by rfl) (il_row _) rfl
      refine G.frzAt (T := 3) 100 7 105 ?_ (by rfl) (il_row _) rfl
      refine G.frzAt (T := 3) 100 8 107 ?_ (by rfl) (il_row _) rfl
      refine G.frzAt (T := 3) 100 9 109 ?_ (by rfl) (il_row _) rfl
      (repeat (first | ((repeat (revert hK; revert K)); refine wk ?_; repeat intro K hK) | refine wkg ?_))
      refine G.fin2 (by first | exact rvOk.tmp | exact rvOk.cellS | exact rvOk.cell1 | fail) (by first | exact rvOk.tmp | exact rvOk.cellS | exact rvOk.cell1 | fail) rfl ?_
      rfl

end Go.Proofs.Ytohpbfcechbngaa
