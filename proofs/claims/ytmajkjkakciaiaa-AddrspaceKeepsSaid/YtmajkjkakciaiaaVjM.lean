/- Trees of regions, the reference's side: Same of a tree and itself. -/
import Derived.Test.YtmajkjkakciaiaaViM
set_option linter.unusedSimpArgs false
set_option linter.unusedVariables false
namespace Go.Proofs.Ytmajkjkakciaiaa
open Go.RowKit

theorem eqR_self (x : RV) : eqR x x = true := (eqR_iff x x).2 rfl
attribute [local simp] eqR_self
attribute [local irreducible] Wp WL WO fin finB rnd Exit.then Exit.inBlock G GD LT Rd Fn FnB FvB Iter
attribute [local go_sem] RV.row TD.row
def tsI (t : TD) (i : Nat) : List (Nat × AV) × Bs := ([(5, .d (.s (.int .i64 (i : Int)))), (2, .p 0 0), (3, .p 1 0)], [(0, some (26, t.row.map .d)), (1, some (26, t.row.map .d))])
theorem tsame_F (t : TD) (ks : List TD) (hkk : t.k = ks.map TD.row) (hk : t.k.length ≤ 1000) (h : ∀ (i : Nat) (k : TD), ks[i]? = some k → Fn Try.prog 9 [.st k.row, .st k.row] (· = .s (.bool true))) : Fn Try.prog 9 [.st t.row, .st t.row] (· = .s (.bool true)) := by
  refine Fn.of Try.func9 Try.ntmps9 rfl (by kernel_rfl) (fun w o => ?_)
  (repeat (first | (show G _ _ _ _ (WL _ _ _ _ (⟨some _, .binOp .eql _ _ _ _, _, _, _, none⟩ :: _)); refine G.w1 ?_ (by first | exact LT.eqW (t.x) (t.x) | fail)) | (show G _ _ _ _ (WL _ _ _ _ (⟨some _, .binOp .eql _ _ _ _, _, _, _, some _⟩ :: _)); refine G.gC ?_ (by first | (refine gi ?_; intros; exact LT.eqW (t.x) (t.x)) | fail) rfl rfl) | (show GD _ _ _ _ _ _ _ _ _ _ (⟨some _, .binOp .eql _ _ _ _, _, _, _, none⟩ :: _); refine GD.w1 ?_ (by first | exact LT.eqW (t.x) (t.x) | fail)) | (show GD _ _ _ _ _ _ _ _ _ _ (⟨some _, .binOp .eql _ _ _ _, _, _, _, some _⟩ :: _); refine GD.gC ?_ (by first | (refine gi ?_; intros; exact LT.eqW (t.x) (t.x)) | fail) rfl rfl) | (show G _ _ _ _ (WL _ _ _ _ (⟨some _, .binOp .neq _ _ _ _, _, _, _, none⟩ :: _)); refine G.w1 ?_ (by first | exact LT.neW (t.x) (t.x) | fail)) | (show G _ _ _ _ (WL _ _ _ _ (⟨some _, .binOp .neq _ _ _ _, _, _, _, some _⟩ :: _)); refine G.gC ?_ (by first | (refine gi ?_; intros; exact LT.neW (t.x) (t.x)) | fail) rfl rfl) | (show GD _ _ _ _ _ _ _ _ _ _ (⟨some _, .binOp .neq _ _ _ _, _, _, _, none⟩ :: _); refine GD.w1 ?_ (by first | exact LT.neW (t.x) (t.x) | fail)) | (show GD _ _ _ _ _ _ _ _ _ _ (⟨some _, .binOp .neq _ _ _ _, _, _, _, some _⟩ :: _); refine GD.gC ?_ (by first | (refine gi ?_; intros; exact LT.neW (t.x) (t.x)) | fail) rfl rfl) | ((repeat (revert hK; revert K)); refine wk ?_; repeat intro K hK) | refine wkg ?_))
  refine G.loop (tsI t) (fun i => i ≤ t.k.length) (fun i => t.k.length - i) ?_ ?_
  · exact G.at 0 [(0, 0), (1, 1)] (Nat.zero_le _) (by repeat (first | exact trivial | refine ⟨⟨rfl, rfl⟩, ?_⟩)) (by repeat (first | exact trivial | refine ⟨⟨rfl, rfl, rfl⟩, ?_⟩ | refine ⟨⟨rfl, by rw [renL_d]; rfl, kbL_d _ _⟩, ?_⟩ | refine ⟨rfl, ?_⟩)) (by decide)
  · intro i hi
    dsimp only [tsI]
    by_cases hlt : i < t.k.length
    · have hlt2 : i < ks.length := by rw [hkk, List.length_map] at hlt; exact hlt
      have hg2 : ks[i]? = some ks[i] := List.getElem?_eq_getElem hlt2
      have hg : t.k[i]? = some ks[i].row := by rw [hkk, List.getElem?_map, hg2]; rfl
      have hs := h i _ hg2
      generalize ks[i] = k0 at hg hs
      (repeat (first | refine G.cW (hs) ?_ | refine G.cgW (hs) ?_ | refine GD.cW (hs) ?_ | refine GD.cgW (hs) ?_ | (show G _ _ _ _ (WL _ _ _ _ (⟨some _, .indexAddr _ _ _, _, _, _, none⟩ :: _)); refine G.w1 ?_ (by first | exact LT.rd (Rd.ixv i (hg)) rfl | fail)) | (show G _ _ _ _ (WL _ _ _ _ (⟨some _, .indexAddr _ _ _, _, _, _, some _⟩ :: _)); refine G.gC ?_ (by first | (refine gi ?_; intros; exact LT.rd (Rd.ixv i (hg)) rfl) | fail) rfl rfl) | (show GD _ _ _ _ _ _ _ _ _ _ (⟨some _, .indexAddr _ _ _, _, _, _, none⟩ :: _); refine GD.w1 ?_ (by first | exact LT.rd (Rd.ixv i (hg)) rfl | fail)) | (show GD _ _ _ _ _ _ _ _ _ _ (⟨some _, .indexAddr _ _ _, _, _, _, some _⟩ :: _); refine GD.gC ?_ (by first | (refine gi ?_; intros; exact LT.rd (Rd.ixv i (hg)) rfl) | fail) rfl rfl) | ((repeat (revert hK; revert K)); refine wk ?_; repeat intro K hK) | refine wkg ?_))
      refine G.at (i + 1) [(0, 0), (1, 1)] ⟨by omega, by omega⟩ (by repeat (first | exact trivial | refine ⟨⟨rfl, rfl⟩, ?_⟩)) (by repeat (first | exact trivial | refine ⟨⟨rfl, rfl, rfl⟩, ?_⟩ | refine ⟨⟨rfl, by rw [renL_d]; rfl, kbL_d _ _⟩, ?_⟩ | refine ⟨rfl, ?_⟩)) (by decide)
    · (repeat (first | ((repeat (revert hK; revert K)); refine wk ?_; repeat intro K hK) | refine wkg ?_))
      refine G.fin1 (by first | exact rvOk.tmp | exact rvOk.cellS | exact rvOk.cell1 | fail) rfl ?_
      rfl
theorem psame_P : ∀ p : PT, Fn Try.prog 9 [.st p.td.row, .st p.td.row] (· = .s (.bool true))
  | .E => tsame_F _ [] rfl (by decide) (fun i k hk => by simp at hk)
  | .N l x r => by
    have hl := psame_P l
    have hr := psame_P r
    refine tsame_F _ [l.td, r.td] rfl (by simp [PT.td, PT.kids]) (fun i k hk => ?_)
    match i, hk with
    | 0, hk => cases hk; exact hl
    | 1, hk => cases hk; exact hr

end Go.Proofs.Ytmajkjkakciaiaa
