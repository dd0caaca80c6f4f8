/- Inodes: inodeOf, awake14; two numbers compared. -/
import Derived.Test.YtohkigillmlinaaDve
import Derived.Test.YtohkigillmlinaaDvf
set_option linter.unusedSimpArgs false
set_option linter.unusedVariables false
namespace Go.Proofs.Ytohkigillmlinaa
open Go.RowKit

theorem newD_ok (dep : Int) (bs : List (List Int)) (h1 : 1 ≤ dep ∧ dep ≤ 16) (h2 : 1 ≤ bs.length ∧ bs.length ≤ 256) (h3 : ∀ (i : Nat) (h : i < bs.length), bs[i].length = 32) : (newD dep bs).ok :=
  ⟨h1, ⟨Int.le_refl _, by show (0 : Int) ≤ _; omega⟩, h2, h3, fun i h => by simp [newD] at h, Nat.zero_le _, by show ((0 : Nat) : Int) ≤ dep; omega, fun i h => by simp [newD] at h⟩
theorem encL_len (n m : Int) : (encL n m).length = 32 := rfl
def inS (z : Int) : Int := z % 17
def inM (z k : Int) : Int := k % 2 ^ (z % 17).toNat
theorem in_ok (z k : Int) : nmOK (inS z) (inM z k) := by
  unfold inS inM nmOK
  have : (0 : Int) < 2 ^ (z % 17).toNat := Int.pow_pos (by decide)
  exact ⟨by omega, Int.emod_nonneg _ (by omega), Int.emod_lt_of_pos _ this⟩
attribute [local irreducible] Wp WL WO fin finB rnd Exit.then Exit.inBlock G GD LT Rd Fn FnB FvB Iter
attribute [local go_sem] DV.row QV.row CV.row
theorem inodeOf_F (z k : Int) (hz : 0 ≤ z ∧ z ≤ 255) (hk : 0 ≤ k ∧ k ≤ 65535) : Fn Try.prog 6 [.s (.int .u8 z), .s (.int .u16 k)] (· = .tup [byD (encL (inS z) (inM z k)), .s (.int .i64 (inS z)), .s (.int .i64 (inM z k))]) := by
  have hok := in_ok z k
  have he := enc_F _ _ hok
  have hs : 0 ≤ z % 17 ∧ z % 17 ≤ 16 := by omega
  have w1 : IntKind.i64.wrap (z % 17) = z % 17 := Yq _ (by omega)
  have w2 : IntKind.i64.wrap k = k := Yq _ (by omega)
  have w3 : IntKind.u64.wrap (z % 17) = z % 17 := by
    show (z % 17) % 18446744073709551616 = z % 17
    omega
  have w4 := pow_wrap (z % 17) hs
  have h0 : 0 ≤ z % 17 := hs.1
  have hp : (0 : Int) < 2 ^ (z % 17).toNat := Int.pow_pos (by decide)
  unfold inS inM at he ⊢
  generalize hpp : (2 : Int) ^ (z % 17).toNat = p at *
  refine Fn.of Try.func6 Try.ntmps6 rfl (by kernel_rfl) (fun w o => ?_)
  (repeat (first | refine G.cW (he) ?_ | refine G.cgW (he) ?_ | refine GD.cW (he) ?_ | refine GD.cgW (he) ?_ | (show G _ _ _ _ (WL _ _ _ _ (⟨some _, .convert _ _ _, _, _, _, none⟩ :: _)); refine G.w1 ?_ (by first | exact LT.cnv (z % 17) | fail)) | (show G _ _ _ _ (WL _ _ _ _ (⟨some _, .convert _ _ _, _, _, _, some _⟩ :: _)); refine G.gC ?_ (by first | (refine gi ?_; intros; exact LT.cnv (z % 17)) | fail) rfl rfl) | (show GD _ _ _ _ _ _ _ _ _ _ (⟨some _, .convert _ _ _, _, _, _, none⟩ :: _); refine GD.w1 ?_ (by first | exact LT.cnv (z % 17) | fail)) | (show GD _ _ _ _ _ _ _ _ _ _ (⟨some _, .convert _ _ _, _, _, _, some _⟩ :: _); refine GD.gC ?_ (by first | (refine gi ?_; intros; exact LT.cnv (z % 17)) | fail) rfl rfl) | (show G _ _ _ _ (WL _ _ _ _ (⟨some _, .convert _ _ _, _, _, _, none⟩ :: _)); refine G.w1 ?_ (by first | exact LT.cnv k | fail)) | (show G _ _ _ _ (WL _ _ _ _ (⟨some _, .convert _ _ _, _, _, _, some _⟩ :: _)); refine G.gC ?_ (by first | (refine gi ?_; intros; exact LT.cnv k) | fail) rfl rfl) | (show GD _ _ _ _ _ _ _ _ _ _ (⟨some _, .convert _ _ _, _, _, _, none⟩ :: _); refine GD.w1 ?_ (by first | exact LT.cnv k | fail)) | (show GD _ _ _ _ _ _ _ _ _ _ (⟨some _, .convert _ _ _, _, _, _, some _⟩ :: _); refine GD.gC ?_ (by first | (refine gi ?_; intros; exact LT.cnv k) | fail) rfl rfl) | (show G _ _ _ _ (WL _ _ _ _ (⟨some _, .binOp .shl _ _ _ _, _, _, _, none⟩ :: _)); refine G.w1 ?_ (by first | exact LT.shl p | fail)) | (show G _ _ _ _ (WL _ _ _ _ (⟨some _, .binOp .shl _ _ _ _, _, _, _, some _⟩ :: _)); refine G.gC ?_ (by first | (refine gi ?_; intros; exact LT.shl p) | fail) rfl rfl) | (show GD _ _ _ _ _ _ _ _ _ _ (⟨some _, .binOp .shl _ _ _ _, _, _, _, none⟩ :: _); refine GD.w1 ?_ (by first | exact LT.shl p | fail)) | (show GD _ _ _ _ _ _ _ _ _ _ (⟨some _, .binOp .shl _ _ _ _, _, _, _, some _⟩ :: _); refine GD.gC ?_ (by first | (refine gi ?_; intros; exact LT.shl p) | fail) rfl rfl) | ((repeat (revert hK; revert K)); refine wk ?_; repeat intro K hK) | refine wkg ?_))
  refine G.fin3 (by first | exact rvOk.tmp | exact rvOk.cellS | exact rvOk.cell1 | fail) (by first | exact rvOk.tmp | exact rvOk.cellS | exact rvOk.cell1 | fail) (by first | exact rvOk.tmp | exact rvOk.cellS | exact rvOk.cell1 | fail) rfl ?_
  rfl
theorem awake14_F : Fn Try.prog 5 [] (· = .s (.bool true)) := by
  have h1 := inodeOf_F 3 5 (by decide) (by decide)
  rw [show inS 3 = 3 from rfl, show inM 3 5 = 5 from rfl] at h1
  have hok : nmOK 3 5 := ⟨by decide, by decide, by decide⟩
  have hd : (newD 2 [encL 3 5]).ok := newD_ok _ _ (by decide) (by decide) (fun i hi => by
    have : i = 0 := by simpa using hi
    subst this
    rfl)
  have h2 := new_F 2 [encL 3 5] hd
  have h3 := dur_F _ hd 0 (by decide)
  have h4 := dec_F 3 5 hok
  have hlen : ((byR (encL 3 5)).length : Int) = 32 := rfl
  rw [show bsR [encL 3 5] = [[byD (encL 3 5)]] from rfl] at h2
  rw [show (newD 2 [encL 3 5]).bs[0] = encL 3 5 from rfl] at h3
  rw [byD_R] at h1 h2 h3 h4
  generalize (newD 2 [encL 3 5]) = d at *
  generalize byR (encL 3 5) = r at *
  refine Fn.of Try.func5 Try.ntmps5 rfl (by kernel_rfl) (fun w o => ?_)
  (repeat (first | refine GD.ctW (h1) ?_ | refine G.cW (h1) ?_ | refine G.cgW (h1) ?_ | refine GD.cW (h1) ?_ | refine GD.cgW (h1) ?_ | refine GD.ctW (h2) ?_ | refine G.cW (h2) ?_ | refine G.cgW (h2) ?_ | refine GD.cW (h2) ?_ | refine GD.cgW (h2) ?_ | refine GD.ctW (h3) ?_ | refine G.cW (h3) ?_ | refine G.cgW (h3) ?_ | refine GD.cW (h3) ?_ | refine GD.cgW (h3) ?_ | refine GD.ctW (h4) ?_ | refine G.cW (h4) ?_ | refine G.cgW (h4) ?_ | refine GD.cW (h4) ?_ | refine GD.cgW (h4) ?_ | ((repeat (revert hK; revert K)); refine wkG ?_; repeat intro K hK) | refine wkg ?_))
  refine G.fin1 (by first | exact rvOk.tmp | exact rvOk.cellS | exact rvOk.cell1 | fail) rfl ?_
  rfl

end Go.Proofs.Ytohkigillmlinaa
