/- Address spaces: awake. -/
import Derived.Test.YtmajkjkakciaiaaVaM
set_option linter.unusedSimpArgs false
set_option linter.unusedVariables false
namespace Go.Proofs.Ytmajkjkakciaiaa
open Go.RowKit

def wA : PT := (mapT .E (anR 4 4 3 0)).1
theorem wA_e : mapT .E (anR 4 4 3 0) = (wA, 0) := by kernel_rfl
def wB : PT := (mapT wA (anR 8 2 3 0)).1
theorem wB_e : mapT wA (anR 8 2 3 0) = (wB, 0) := by kernel_rfl
def wC : PT := (protT wB 5 2 1).1
theorem wC_e : protT wB 5 2 1 = (wC, 0) := by kernel_rfl
def wD : PT := (protT wC 5 2 3).1
theorem wD_e : protT wC 5 2 3 = (wD, 0) := by kernel_rfl
def wU : PT := (unmapT wB 0 5).1
theorem wU_e : unmapT wB 0 5 = (wU, 0) := by kernel_rfl
theorem wJ_e : protT wU 4 2 1 = (.E, 13) := by kernel_rfl
def wS : PT := (mapT wU (anR 20 2 3 2)).1
theorem wS_e : mapT wU (anR 20 2 3 2) = (wS, 0) := by kernel_rfl
def wW : PT := (growT wS 18).1
theorem wW_e : growT wS 18 = (wW, 0) := by kernel_rfl
theorem wN_e : growT wS 10 = (.E, 13) := by kernel_rfl

theorem aA : ASP wA := by have := mapT_asp ASP.E (r := anR 4 4 3 0) (by rw [wA_e]); rwa [wA_e] at this
theorem aB : ASP wB := by have := mapT_asp aA (r := anR 8 2 3 0) (by rw [wB_e]); rwa [wB_e] at this
theorem aC : ASP wC := by have := protT_asp aB (g := 5) (c := 2) (n := 1) (by rw [wC_e]); rwa [wC_e] at this
theorem aD : ASP wD := by have := protT_asp aC (g := 5) (c := 2) (n := 3) (by rw [wD_e]); rwa [wD_e] at this
theorem aU : ASP wU := by have := unmapT_asp aB (g := 0) (c := 5) (by rw [wU_e]); rwa [wU_e] at this
theorem aS : ASP wS := by have := mapT_asp aU (r := anR 20 2 3 2) (by rw [wS_e]); rwa [wS_e] at this
theorem aW : ASP wW := by have := growT_asp aS (g := 18) (by rw [wW_e]); rwa [wW_e] at this

attribute [local irreducible] Wp WL WO fin finB rnd Exit.then Exit.inBlock G GD LT Rd Fn FnB FvB Iter
attribute [local go_sem] RV.row TD.row
set_option maxHeartbeats 4000000 in
theorem awake_G (A B C D U S W : PT) (h1 : Fn Try.prog 11 [.st PT.E.td.row, .st (anR 4 4 3 0).row] (· = .tup [.st A.td.row, .s (.int .i64 0)])) (h2 : Fn Try.prog 11 [.st A.td.row, .st (anR 8 2 3 0).row] (· = .tup [.st B.td.row, .s (.int .i64 0)])) (h3 : Fn Try.prog 13 [.st B.td.row, .s (.int .i64 5), .s (.int .i64 2), .s (.int .i64 1)] (· = .tup [.st C.td.row, .s (.int .i64 0)])) (h4 : Fn Try.prog 13 [.st C.td.row, .s (.int .i64 5), .s (.int .i64 2), .s (.int .i64 3)] (· = .tup [.st D.td.row, .s (.int .i64 0)])) (h5 : Fn Try.prog 14 [.st B.td.row, .s (.int .i64 0), .s (.int .i64 5)] (· = .tup [.st U.td.row, .s (.int .i64 0)])) (h6 : Fn Try.prog 13 [.st U.td.row, .s (.int .i64 4), .s (.int .i64 2), .s (.int .i64 1)] (· = .tup [.st PT.E.td.row, .s (.int .i64 13)])) (h7 : Fn Try.prog 11 [.st U.td.row, .st (anR 20 2 3 2).row] (· = .tup [.st S.td.row, .s (.int .i64 0)])) (h8 : Fn Try.prog 15 [.st S.td.row, .s (.int .i64 18)] (· = .tup [.st W.td.row, .s (.int .i64 0)])) (h9 : Fn Try.prog 15 [.st S.td.row, .s (.int .i64 10)] (· = .tup [.st PT.E.td.row, .s (.int .i64 13)])) (i1 : Fn Try.prog 16 [.st B.td.row, .l [(anR 4 6 3 0).row]] (· = .s (.bool true))) (i2 : Fn Try.prog 16 [.st C.td.row, .l [(anR 4 1 3 0).row, (anR 5 2 1 0).row, (anR 7 3 3 0).row]] (· = .s (.bool true))) (i3 : Fn Try.prog 16 [.st D.td.row, .l [(anR 4 6 3 0).row]] (· = .s (.bool true))) (i4 : Fn Try.prog 16 [.st W.td.row, .l [(anR 5 5 3 0).row, (anR 18 4 3 2).row]] (· = .s (.bool true))) (p1 : Fn Try.prog 17 [.st U.td.row, .s (.int .i64 6)] (· = .s (.int .i64 10))) (c1 : Fn Try.prog 18 [.st S.td.row] (· = .s (.int .i64 2))) : Fn Try.prog 5 [] (· = .s (.bool true)) := by
  refine Fn.of Try.func5 Try.ntmps5 rfl (by kernel_rfl) (fun w o => ?_)
  (repeat (first | refine G.cW (anon_F _ _ _ _) ?_ | refine G.cgW (anon_F _ _ _ _) ?_ | refine GD.cW (anon_F _ _ _ _) ?_ | refine GD.cgW (anon_F _ _ _ _) ?_ | ((repeat (revert hK; revert K)); refine wk ?_; repeat intro K hK) | refine wkg ?_))
  refine G.le 20 (.st PT.E.td.row) le_E ?_
  (repeat (first | refine GD.ctW (anon_F _ _ _ _) ?_ | refine G.cW (anon_F _ _ _ _) ?_ | refine G.cgW (anon_F _ _ _ _) ?_ | refine GD.cW (anon_F _ _ _ _) ?_ | refine GD.cgW (anon_F _ _ _ _) ?_ | refine GD.ctW (h1) ?_ | refine G.cW (h1) ?_ | refine G.cgW (h1) ?_ | refine GD.cW (h1) ?_ | refine GD.cgW (h1) ?_ | refine GD.ctW (h2) ?_ | refine G.cW (h2) ?_ | refine G.cgW (h2) ?_ | refine GD.cW (h2) ?_ | refine GD.cgW (h2) ?_ | refine GD.ctW (h3) ?_ | refine G.cW (h3) ?_ | refine G.cgW (h3) ?_ | refine GD.cW (h3) ?_ | refine GD.cgW (h3) ?_ | refine GD.ctW (h4) ?_ | refine G.cW (h4) ?_ | refine G.cgW (h4) ?_ | refine GD.cW (h4) ?_ | refine GD.cgW (h4) ?_ | refine GD.ctW (h5) ?_ | refine G.cW (h5) ?_ | refine G.cgW (h5) ?_ | refine GD.cW (h5) ?_ | refine GD.cgW (h5) ?_ | refine GD.ctW (h6) ?_ | refine G.cW (h6) ?_ | refine G.cgW (h6) ?_ | refine GD.cW (h6) ?_ | refine GD.cgW (h6) ?_ | refine GD.ctW (h7) ?_ | refine G.cW (h7) ?_ | refine G.cgW (h7) ?_ | refine GD.cW (h7) ?_ | refine GD.cgW (h7) ?_ | refine GD.ctW (h8) ?_ | refine G.cW (h8) ?_ | refine G.cgW (h8) ?_ | refine GD.cW (h8) ?_ | refine GD.cgW (h8) ?_ | ((repeat (revert hK; revert K)); refine wkG ?_; repeat intro K hK) | refine wkg ?_))
  refine G.ren (al' := [(63, .d (.st S.td.row)), (16, .d (.s (.int .i64 0))), (14, .d (.s (.int .i64 0))), (12, .d (.s (.int .i64 13))), (10, .d (.s (.int .i64 0))), (8, .d (.s (.int .i64 0))), (6, .d (.s (.int .i64 0))), (4, .d (.s (.int .i64 0))), (2, .d (.s (.int .i64 0))), (3, .p 0 0), (5, .p 1 0), (7, .p 2 0), (9, .p 3 0), (13, .p 4 0), (15, .p 5 0)]) (bs' := [(0, some (26, B.td.row.map .d)), (1, some (26, C.td.row.map .d)), (2, some (26, D.td.row.map .d)), (3, some (26, U.td.row.map .d)), (4, some (26, S.td.row.map .d)), (5, some (26, W.td.row.map .d))]) [(0, 2), (1, 4), (2, 6), (3, 8), (4, 12), (5, 14)] ?_ (by repeat (first | exact trivial | refine ⟨⟨rfl, rfl⟩, ?_⟩)) (by repeat (first | exact trivial | refine ⟨⟨rfl, rfl, rfl⟩, ?_⟩ | refine ⟨⟨rfl, by rw [renL_d]; rfl, kbL_d _ _⟩, ?_⟩ | refine ⟨rfl, ?_⟩)) (by decide) (by rfl)
  (repeat (first | refine GD.ctW (anon_F _ _ _ _) ?_ | refine G.cW (anon_F _ _ _ _) ?_ | refine G.cgW (anon_F _ _ _ _) ?_ | refine GD.cW (anon_F _ _ _ _) ?_ | refine GD.cgW (anon_F _ _ _ _) ?_ | refine GD.ctW (h9) ?_ | refine G.cW (h9) ?_ | refine G.cgW (h9) ?_ | refine GD.cW (h9) ?_ | refine GD.cgW (h9) ?_ | refine GD.ctW (i1) ?_ | refine G.cW (i1) ?_ | refine G.cgW (i1) ?_ | refine GD.cW (i1) ?_ | refine GD.cgW (i1) ?_ | refine GD.ctW (i2) ?_ | refine G.cW (i2) ?_ | refine G.cgW (i2) ?_ | refine GD.cW (i2) ?_ | refine GD.cgW (i2) ?_ | refine GD.ctW (i3) ?_ | refine G.cW (i3) ?_ | refine G.cgW (i3) ?_ | refine GD.cW (i3) ?_ | refine GD.cgW (i3) ?_ | refine GD.ctW (i4) ?_ | refine G.cW (i4) ?_ | refine G.cgW (i4) ?_ | refine GD.cW (i4) ?_ | refine GD.cgW (i4) ?_ | refine GD.ctW (p1) ?_ | refine G.cW (p1) ?_ | refine G.cgW (p1) ?_ | refine GD.cW (p1) ?_ | refine GD.cgW (p1) ?_ | refine GD.ctW (c1) ?_ | refine G.cW (c1) ?_ | refine G.cgW (c1) ?_ | refine GD.cW (c1) ?_ | refine GD.cgW (c1) ?_ | ((repeat (revert hK; revert K)); refine wkG ?_; repeat intro K hK) | refine wkg ?_))
  refine G.fin1 (by first | exact rvOk.tmp | exact rvOk.cellS | exact rvOk.cell1 | fail) rfl ?_
  rfl
theorem awake_F : Fn Try.prog 5 [] (· = .s (.bool true)) := by
  have h1 := map_P ASP.E (anR 4 4 3 0) (by kernel_rfl)
  rw [wA_e] at h1
  have h2 := map_P aA (anR 8 2 3 0) (by kernel_rfl)
  rw [wB_e] at h2
  have h3 := protect_P aB 5 2 1
  rw [wC_e] at h3
  have h4 := protect_P aC 5 2 3
  rw [wD_e] at h4
  have h5 := unmap_P aB 0 5
  rw [wU_e] at h5
  have h6 := protect_P aU 4 2 1
  rw [wJ_e] at h6
  have h7 := map_P aU (anR 20 2 3 2) (by kernel_rfl)
  rw [wS_e] at h7
  have h8 := grow_P aS 18
  rw [wW_e] at h8
  have h9 := grow_P aS 10
  rw [wN_e] at h9
  have i1 := is_F aB.g
  rw [show wB.flat = [anR 4 6 3 0] by kernel_rfl] at i1
  have i2 := is_F aC.g
  rw [show wC.flat = [anR 4 1 3 0, anR 5 2 1 0, anR 7 3 3 0] by kernel_rfl] at i2
  have i3 := is_F aD.g
  rw [show wD.flat = [anR 4 6 3 0] by kernel_rfl] at i3
  have i4 := is_F aW.g
  rw [show wW.flat = [anR 5 5 3 0, anR 18 4 3 2] by kernel_rfl] at i4
  have p1 := place_P aU 6
  rw [show GapF wU 0 512 6 = 10 by kernel_rfl] at p1
  have c1 := count_P aS
  rw [show wS.flat.length = 2 by kernel_rfl] at c1
  exact awake_G wA wB wC wD wU wS wW h1 h2 h3 h4 h5 h6 h7 h8 h9 i1 i2 i3 i4 p1 c1
end Go.Proofs.Ytmajkjkakciaiaa
