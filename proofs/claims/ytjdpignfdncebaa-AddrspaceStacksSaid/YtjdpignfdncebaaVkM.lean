/- Address spaces, the laws' functions: seen, do. -/
import Derived.Test.YtjdpignfdncebaaQp
import Derived.Test.YtjdpignfdncebaaAvpM
set_option linter.unusedSimpArgs false
set_option linter.unusedVariables false
namespace Go.Proofs.Ytjdpignfdncebaa
open Go.RowKit

/-- What is seen of a page. -/
structure S5 where
  a : Int
  b : Int
  c : Int
  d : Int
  e : Int
def S5.row (s : S5) : List D := [.s (.int .i64 s.a), .s (.int .i64 s.b), .s (.int .i64 s.c), .s (.int .i64 s.d), .s (.int .i64 s.e)]
def seenR (x : RV) (g : Int) : S5 := ⟨1, x.r, bits .andNot .i64 x.f 2, x.i, if 0 ≤ x.i then x.x + g - x.s else 0⟩
def seenV (l : List RV) (g : Int) : S5 := if (findV l g).2 = true then seenR (findV l g).1 g else ⟨0, 0, 0, 0, 0⟩
theorem seenV_a (l : List RV) (g : Int) : (seenV l g).a = if (findV l g).2 = true then 1 else 0 := by unfold seenV; split <;> rfl

instance : TAr Try.prog 53 5 3 [(0, 1), (1, 1), (2, 1), (3, 1), (4, 1)] := ⟨by kernel_rfl, rfl⟩
attribute [local irreducible] Wp WL WO fin finB rnd Exit.then Exit.inBlock G GD LT Rd Fn FnB FvB Iter
attribute [local go_sem] RV.row TD.row S5.row
theorem seen_P {p : PT} (hp : ASP p) (g : Int) : Fn Try.prog 37 [.st p.td.row, .s (.int .i64 g)] (· = .st (seenV p.flat g).row) := by
  have hf := afind_P hp g
  cases hq : (findV p.flat g).2 with
  | false =>
    rw [hq] at hf
    refine Fn.of Try.func37 Try.ntmps37 rfl (by kernel_rfl) (fun w o => ?_)
    (repeat (first | refine G.cW (hf) ?_ | refine G.cgW (hf) ?_ | refine GD.cW (hf) ?_ | refine GD.cgW (hf) ?_ | (show G _ _ _ _ (WL _ _ _ _ (⟨some _, .build _ _, _, _, _, none⟩ :: _)); refine G.w1 ?_ (by first | exact LT.arB | fail)) | (show G _ _ _ _ (WL _ _ _ _ (⟨some _, .build _ _, _, _, _, some _⟩ :: _)); refine G.gC ?_ (by first | (refine gi ?_; intros; exact LT.arB) | fail) rfl rfl) | (show GD _ _ _ _ _ _ _ _ _ _ (⟨some _, .build _ _, _, _, _, none⟩ :: _); refine GD.w1 ?_ (by first | exact LT.arB | fail)) | (show GD _ _ _ _ _ _ _ _ _ _ (⟨some _, .build _ _, _, _, _, some _⟩ :: _); refine GD.gC ?_ (by first | (refine gi ?_; intros; exact LT.arB) | fail) rfl rfl) | (show G _ _ _ _ (WL _ _ _ _ (⟨some _, .indexAddr _ _ _, _, _, _, none⟩ :: _)); refine G.w1 ?_ (by first | exact LT.arI | fail)) | (show G _ _ _ _ (WL _ _ _ _ (⟨some _, .indexAddr _ _ _, _, _, _, some _⟩ :: _)); refine G.gC ?_ (by first | (refine gi ?_; intros; exact LT.arI) | fail) rfl rfl) | (show GD _ _ _ _ _ _ _ _ _ _ (⟨some _, .indexAddr _ _ _, _, _, _, none⟩ :: _); refine GD.w1 ?_ (by first | exact LT.arI | fail)) | (show GD _ _ _ _ _ _ _ _ _ _ (⟨some _, .indexAddr _ _ _, _, _, _, some _⟩ :: _); refine GD.gC ?_ (by first | (refine gi ?_; intros; exact LT.arI) | fail) rfl rfl) | (show G _ _ _ _ (WL _ _ _ _ (⟨some _, .index _ _ _, _, _, _, none⟩ :: _)); refine G.w1 ?_ (by first | exact LT.arE | fail)) | (show G _ _ _ _ (WL _ _ _ _ (⟨some _, .index _ _ _, _, _, _, some _⟩ :: _)); refine G.gC ?_ (by first | (refine gi ?_; intros; exact LT.arE) | fail) rfl rfl) | (show GD _ _ _ _ _ _ _ _ _ _ (⟨some _, .index _ _ _, _, _, _, none⟩ :: _); refine GD.w1 ?_ (by first | exact LT.arE | fail)) | (show GD _ _ _ _ _ _ _ _ _ _ (⟨some _, .index _ _ _, _, _, _, some _⟩ :: _); refine GD.gC ?_ (by first | (refine gi ?_; intros; exact LT.arE) | fail) rfl rfl) | ((repeat (revert hK; revert K)); refine wk ?_; repeat intro K hK) | refine wkg ?_))
    refine G.fin1 (by first | exact rvOk.tmp | exact rvOk.cellS | exact rvOk.cell1 | fail) rfl ?_
    unfold seenV
    rw [if_neg (by rw [hq]; decide)]
    rfl
  | true =>
    rw [hq] at hf
    have hs := (find_spec g p.flat hp.l).1 hq
    have hb := chkV_bd (hp.l.c _ hs.1)
    rw [show seenV p.flat g = seenR (findV p.flat g).1 g by unfold seenV; rw [if_pos hq]]
    generalize (findV p.flat g).1 = x at *
    by_cases hi : 0 ≤ x.i
    · have hbi : decide (0 ≤ x.i) = true := by simpa using hi
      refine Fn.of Try.func37 Try.ntmps37 rfl (by kernel_rfl) (fun w o => ?_)
      (repeat (first | refine G.cW (hf) ?_ | refine G.cgW (hf) ?_ | refine GD.cW (hf) ?_ | refine GD.cgW (hf) ?_ | (show G _ _ _ _ (WL _ _ _ _ (⟨some _, .build _ _, _, _, _, none⟩ :: _)); refine G.w1 ?_ (by first | exact LT.arB | fail)) | (show G _ _ _ _ (WL _ _ _ _ (⟨some _, .build _ _, _, _, _, some _⟩ :: _)); refine G.gC ?_ (by first | (refine gi ?_; intros; exact LT.arB) | fail) rfl rfl) | (show GD _ _ _ _ _ _ _ _ _ _ (⟨some _, .build _ _, _, _, _, none⟩ :: _); refine GD.w1 ?_ (by first | exact LT.arB | fail)) | (show GD _ _ _ _ _ _ _ _ _ _ (⟨some _, .build _ _, _, _, _, some _⟩ :: _); refine GD.gC ?_ (by first | (refine gi ?_; intros; exact LT.arB) | fail) rfl rfl) | (show G _ _ _ _ (WL _ _ _ _ (⟨some _, .indexAddr _ _ _, _, _, _, none⟩ :: _)); refine G.w1 ?_ (by first | exact LT.arI | fail)) | (show G _ _ _ _ (WL _ _ _ _ (⟨some _, .indexAddr _ _ _, _, _, _, some _⟩ :: _)); refine G.gC ?_ (by first | (refine gi ?_; intros; exact LT.arI) | fail) rfl rfl) | (show GD _ _ _ _ _ _ _ _ _ _ (⟨some _, .indexAddr _ _ _, _, _, _, none⟩ :: _); refine GD.w1 ?_ (by first | exact LT.arI | fail)) | (show GD _ _ _ _ _ _ _ _ _ _ (⟨some _, .indexAddr _ _ _, _, _, _, some _⟩ :: _); refine GD.gC ?_ (by first | (refine gi ?_; intros; exact LT.arI) | fail) rfl rfl) | (show G _ _ _ _ (WL _ _ _ _ (⟨some _, .index _ _ _, _, _, _, none⟩ :: _)); refine G.w1 ?_ (by first | exact LT.arE | fail)) | (show G _ _ _ _ (WL _ _ _ _ (⟨some _, .index _ _ _, _, _, _, some _⟩ :: _)); refine G.gC ?_ (by first | (refine gi ?_; intros; exact LT.arE) | fail) rfl rfl) | (show GD _ _ _ _ _ _ _ _ _ _ (⟨some _, .index _ _ _, _, _, _, none⟩ :: _); refine GD.w1 ?_ (by first | exact LT.arE | fail)) | (show GD _ _ _ _ _ _ _ _ _ _ (⟨some _, .index _ _ _, _, _, _, some _⟩ :: _); refine GD.gC ?_ (by first | (refine gi ?_; intros; exact LT.arE) | fail) rfl rfl) | ((repeat (revert hK; revert K)); refine wk ?_; repeat intro K hK) | refine wkg ?_))
      refine G.fin1 (by first | exact rvOk.tmp | exact rvOk.cellS | exact rvOk.cell1 | fail) rfl ?_
      unfold seenR
      rw [if_pos hi]
      rfl
    · have hbi : decide (0 ≤ x.i) = false := by simpa using hi
      refine Fn.of Try.func37 Try.ntmps37 rfl (by kernel_rfl) (fun w o => ?_)
      (repeat (first | refine G.cW (hf) ?_ | refine G.cgW (hf) ?_ | refine GD.cW (hf) ?_ | refine GD.cgW (hf) ?_ | (show G _ _ _ _ (WL _ _ _ _ (⟨some _, .build _ _, _, _, _, none⟩ :: _)); refine G.w1 ?_ (by first | exact LT.arB | fail)) | (show G _ _ _ _ (WL _ _ _ _ (⟨some _, .build _ _, _, _, _, some _⟩ :: _)); refine G.gC ?_ (by first | (refine gi ?_; intros; exact LT.arB) | fail) rfl rfl) | (show GD _ _ _ _ _ _ _ _ _ _ (⟨some _, .build _ _, _, _, _, none⟩ :: _); refine GD.w1 ?_ (by first | exact LT.arB | fail)) | (show GD _ _ _ _ _ _ _ _ _ _ (⟨some _, .build _ _, _, _, _, some _⟩ :: _); refine GD.gC ?_ (by first | (refine gi ?_; intros; exact LT.arB) | fail) rfl rfl) | (show G _ _ _ _ (WL _ _ _ _ (⟨some _, .indexAddr _ _ _, _, _, _, none⟩ :: _)); refine G.w1 ?_ (by first | exact LT.arI | fail)) | (show G _ _ _ _ (WL _ _ _ _ (⟨some _, .indexAddr _ _ _, _, _, _, some _⟩ :: _)); refine G.gC ?_ (by first | (refine gi ?_; intros; exact LT.arI) | fail) rfl rfl) | (show GD _ _ _ _ _ _ _ _ _ _ (⟨some _, .indexAddr _ _ _, _, _, _, none⟩ :: _); refine GD.w1 ?_ (by first | exact LT.arI | fail)) | (show GD _ _ _ _ _ _ _ _ _ _ (⟨some _, .indexAddr _ _ _, _, _, _, some _⟩ :: _); refine GD.gC ?_ (by first | (refine gi ?_; intros; exact LT.arI) | fail) rfl rfl) | (show G _ _ _ _ (WL _ _ _ _ (⟨some _, .index _ _ _, _, _, _, none⟩ :: _)); refine G.w1 ?_ (by first | exact LT.arE | fail)) | (show G _ _ _ _ (WL _ _ _ _ (⟨some _, .index _ _ _, _, _, _, some _⟩ :: _)); refine G.gC ?_ (by first | (refine gi ?_; intros; exact LT.arE) | fail) rfl rfl) | (show GD _ _ _ _ _ _ _ _ _ _ (⟨some _, .index _ _ _, _, _, _, none⟩ :: _); refine GD.w1 ?_ (by first | exact LT.arE | fail)) | (show GD _ _ _ _ _ _ _ _ _ _ (⟨some _, .index _ _ _, _, _, _, some _⟩ :: _); refine GD.gC ?_ (by first | (refine gi ?_; intros; exact LT.arE) | fail) rfl rfl) | ((repeat (revert hK; revert K)); refine wk ?_; repeat intro K hK) | refine wkg ?_))
      refine G.fin1 (by first | exact rvOk.tmp | exact rvOk.cellS | exact rvOk.cell1 | fail) rfl ?_
      unfold seenR
      rw [if_neg hi]
      rfl

end Go.Proofs.Ytjdpignfdncebaa
