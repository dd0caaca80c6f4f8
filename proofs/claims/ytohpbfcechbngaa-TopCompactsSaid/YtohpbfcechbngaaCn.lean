/- Buddy: Count. -/
import Derived.Test.YtohpbfcechbngaaCk
set_option linter.unusedSimpArgs false
set_option linter.unusedVariables false
namespace Go.Proofs.Ytohpbfcechbngaa
open Go.RowKit

def sumF (L : Nat → List Int) : Nat → Nat
  | 0 => 0
  | k + 1 => sumF L k + (L k).length * 2 ^ k
theorem shl_n (m k : Nat) (hm : m ≤ 64) (hk : k ≤ 4) : IntKind.i64.wrap ((m : Int) * 2 ^ min ((k : Nat) : Int).toNat IntKind.i64.bits) = ((m * 2 ^ k : Nat) : Int) := by
  have hp : 2 ^ k ≤ 16 := Nat.pow_le_pow_right (by decide) hk
  have h2 : m * 2 ^ k ≤ 64 * 16 := Nat.mul_le_mul hm hp
  rw [Int.toNat_natCast, Nat.min_eq_left (by show k ≤ 64; omega), IntKind.wrap_i64]
  have : (m : Int) * 2 ^ k = ((m * 2 ^ k : Nat) : Int) := by push_cast; rfl
  rw [this]
  omega
def unS (L : Nat → List Int) (k : Nat) : List (Nat × AV) × Bs := ([(23, .d (.s (.int .i64 (k : Nat)))), (22, .d (.s (.int .i64 4))), (21, .d (.l [[.l (il (L 0))], [.l (il (L 1))], [.l (il (L 2))], [.l (il (L 3))]])), (5, .d (.s (.int .i64 ((sumF L k : Nat) : Int))))], [])
theorem sum_le (L : Nat → List Int) (hl : ∀ k, k ≤ 4 → (L k).length ≤ 64) : ∀ k, k ≤ 4 → sumF L k ≤ k * 1024
  | 0, _ => Nat.le_refl _
  | k + 1, h => by
    have := sum_le L hl k (by omega)
    have hp : 2 ^ k ≤ 16 := Nat.pow_le_pow_right (by decide) (show k ≤ 4 by omega)
    have h2 : (L k).length * 2 ^ k ≤ 64 * 16 := Nat.mul_le_mul (hl k (by omega)) hp
    unfold sumF
    omega
attribute [local irreducible] Wp WL WO fin finB rnd Exit.then Exit.inBlock G GD LT Rd Fn FnB FvB Iter
attribute [local go_sem] iD zD
theorem unusable_F (n : Nat) (h1 : 1 ≤ n) (hn : n ≤ 64) (L : Nat → List Int) (hz : ZOk n L) : Fn Try.prog 26 [.st (zD n L), .s (.int .i64 4)] (· = .s (.int .i64 ((sumF L 4 : Nat) : Int))) := by
  have hch := check_F n h1 hn L hz
  refine Fn.of Try.func26 Try.ntmps26 rfl (by kernel_rfl) (fun w o => ?_)
  (repeat (first | ((repeat (revert hK; revert K)); refine wkS ?_; repeat intro K hK) | refine wkg ?_))
  refine G.frzP (ds := zD n L) 2 ?_
  (refine G.k (by assumption) ?_; clear hK K)
  (repeat (first | refine G.cW (hch) ?_ | refine G.cgW (hch) ?_ | refine GD.cW (hch) ?_ | refine GD.cgW (hch) ?_ | (show G _ _ _ _ (WL _ _ _ _ (⟨some _, .slice _ _ _ _ _, _, _, _, none⟩ :: _)); refine G.w1 ?_ (by first | exact LT.rd (Rd.slAr (off := 5) (row := zD n L) (rows' := [[.l (il (L 0))], [.l (il (L 1))], [.l (il (L 2))], [.l (il (L 3))]]) 4 rfl (by decide) (by simp [zD])) rfl | fail)) | (show G _ _ _ _ (WL _ _ _ _ (⟨some _, .slice _ _ _ _ _, _, _, _, some _⟩ :: _)); refine G.gC ?_ (by first | (refine gi ?_; intros; exact LT.rd (Rd.slAr (off := 5) (row := zD n L) (rows' := [[.l (il (L 0))], [.l (il (L 1))], [.l (il (L 2))], [.l (il (L 3))]]) 4 rfl (by decide) (by simp [zD])) rfl) | fail) rfl rfl) | (show GD _ _ _ _ _ _ _ _ _ _ (⟨some _, .slice _ _ _ _ _, _, _, _, none⟩ :: _); refine GD.w1 ?_ (by first | exact LT.rd (Rd.slAr (off := 5) (row := zD n L) (rows' := [[.l (il (L 0))], [.l (il (L 1))], [.l (il (L 2))], [.l (il (L 3))]]) 4 rfl (by decide) (by simp [zD])) rfl | fail)) | (show GD _ _ _ _ _ _ _ _ _ _ (⟨some _, .slice _ _ _ _ _, _, _, _, some _⟩ :: _); refine GD.gC ?_ (by first | (refine gi ?_; intros; exact LT.rd (Rd.slAr (off := 5) (row := zD n L) (rows' := [[.l (il (L 0))], [.l (il (L 1))], [.l (il (L 2))], [.l (il (L 3))]]) 4 rfl (by decide) (by simp [zD])) rfl) | fail) rfl rfl) | ((repeat (revert hK; revert K)); refine wk ?_; repeat intro K hK) | refine wkg ?_))
  refine G.loop (unS L) (fun k => k ≤ 4) (fun k => 4 - k) ?_ ?_
  · exact G.at 0 [] (by decide) (by repeat (first | exact trivial | refine ⟨⟨rfl, rfl⟩, ?_⟩)) (by repeat (first | exact trivial | refine ⟨⟨rfl, rfl, rfl⟩, ?_⟩ | refine ⟨⟨rfl, by rw [renL_d]; rfl, kbL_d _ _⟩, ?_⟩ | refine ⟨rfl, ?_⟩)) (by decide)
  · intro k hk
    have hsl := sum_le L hz.l k hk
    by_cases h : k < 4
    · have hr : [[D.l (il (L 0))], [.l (il (L 1))], [.l (il (L 2))], [.l (il (L 3))]][k]? = some [.l (il (L k))] := by
        have h4 : k = 0 ∨ k = 1 ∨ k = 2 ∨ k = 3 := by omega
        rcases h4 with rfl | rfl | rfl | rfl <;> rfl
      have hlen : ((il (L k)).length : Int) = (L k).length := by rw [il_len]
      have hll := hz.l k hk
      have hsh := shl_n (L k).length k hll hk
      rw [← hlen] at hsh
      have hk0 : (0 : Int) ≤ (k : Int) := Int.natCast_nonneg _
      have hp : 2 ^ k ≤ 16 := Nat.pow_le_pow_right (by decide) hk
      have h2 : (L k).length * 2 ^ k ≤ 64 * 16 := Nat.mul_le_mul hll hp
      generalize hq : (L k).length * 2 ^ k = q at hsh h2
      dsimp only [unS]
      (repeat (first | (show G _ _ _ _ (WL _ _ _ _ (⟨some _, .binOp .shl _ _ _ _, _, _, _, none⟩ :: _)); refine G.w1 ?_ (by first | exact LT.shl ((q : Nat) : Int) | fail)) | (show G _ _ _ _ (WL _ _ _ _ (⟨some _, .binOp .shl _ _ _ _, _, _, _, some _⟩ :: _)); refine G.gC ?_ (by first | (refine gi ?_; intros; exact LT.shl ((q : Nat) : Int)) | fail) rfl rfl) | (show GD _ _ _ _ _ _ _ _ _ _ (⟨some _, .binOp .shl _ _ _ _, _, _, _, none⟩ :: _); refine GD.w1 ?_ (by first | exact LT.shl ((q : Nat) : Int) | fail)) | (show GD _ _ _ _ _ _ _ _ _ _ (⟨some _, .binOp .shl _ _ _ _, _, _, _, some _⟩ :: _); refine GD.gC ?_ (by first | (refine gi ?_; intros; exact LT.shl ((q : Nat) : Int)) | fail) rfl rfl) | (show G _ _ _ _ (WL _ _ _ _ (⟨some _, .indexAddr _ _ _, _, _, _, none⟩ :: _)); refine G.w1 ?_ (by first | exact LT.rd (Rd.ixv k (hr)) rfl | fail)) | (show G _ _ _ _ (WL _ _ _ _ (⟨some _, .indexAddr _ _ _, _, _, _, some _⟩ :: _)); refine G.gC ?_ (by first | (refine gi ?_; intros; exact LT.rd (Rd.ixv k (hr)) rfl) | fail) rfl rfl) | (show GD _ _ _ _ _ _ _ _ _ _ (⟨some _, .indexAddr _ _ _, _, _, _, none⟩ :: _); refine GD.w1 ?_ (by first | exact LT.rd (Rd.ixv k (hr)) rfl | fail)) | (show GD _ _ _ _ _ _ _ _ _ _ (⟨some _, .indexAddr _ _ _, _, _, _, some _⟩ :: _); refine GD.gC ?_ (by first | (refine gi ?_; intros; exact LT.rd (Rd.ixv k (hr)) rfl) | fail) rfl rfl) | ((repeat (revert hK; revert K)); refine wk ?_; repeat intro K hK) | refine wkg ?_))
      refine G.le 5 (.s (.int .i64 ((sumF L (k + 1) : Nat) : Int))) (by rw [sumF, hq]; push_cast; exact D.le.refl _) ?_
      exact G.at (k + 1) [] ⟨by omega, by omega⟩ (by repeat (first | exact trivial | refine ⟨⟨rfl, rfl⟩, ?_⟩)) (by repeat (first | exact trivial | refine ⟨⟨rfl, rfl, rfl⟩, ?_⟩ | refine ⟨⟨rfl, by rw [renL_d]; rfl, kbL_d _ _⟩, ?_⟩ | refine ⟨rfl, ?_⟩)) (by decide)
    · have e : k = 4 := by omega
      subst e
      dsimp only [unS]
      (repeat (first | ((repeat (revert hK; revert K)); refine wk ?_; repeat intro K hK) | refine wkg ?_))
      refine G.fin1 (by first | exact rvOk.tmp | exact rvOk.cellS | exact rvOk.cell1 | fail) rfl ?_
      rfl
theorem last_F (n : Nat) (h1 : 1 ≤ n) (hn : n ≤ 64) (L : Nat → List Int) (hz : ZOk n L) : Fn Try.prog 27 [.st (zD n L)] (· = .s (.int .i64 (((L 4).length * 16 : Nat) : Int))) := by
  have hch := check_F n h1 hn L hz
  have hll := hz.l 4 (by decide)
  have hsh := shl_n (L 4).length 4 hll (by decide)
  have hlen : ((il (L 4)).length : Int) = (L 4).length := by rw [il_len]
  rw [← hlen] at hsh
  refine Fn.of Try.func27 Try.ntmps27 rfl (by kernel_rfl) (fun w o => ?_)
  (repeat (first | refine G.cW (hch) ?_ | refine G.cgW (hch) ?_ | refine GD.cW (hch) ?_ | refine GD.cgW (hch) ?_ | (show G _ _ _ _ (WL _ _ _ _ (⟨some _, .binOp .shl _ _ _ _, _, _, _, none⟩ :: _)); refine G.w1 ?_ (by first | exact LT.shl (((L 4).length * 2 ^ 4 : Nat) : Int) (hz := hsh) | fail)) | (show G _ _ _ _ (WL _ _ _ _ (⟨some _, .binOp .shl _ _ _ _, _, _, _, some _⟩ :: _)); refine G.gC ?_ (by first | (refine gi ?_; intros; exact LT.shl (((L 4).length * 2 ^ 4 : Nat) : Int) (hz := hsh)) | fail) rfl rfl) | (show GD _ _ _ _ _ _ _ _ _ _ (⟨some _, .binOp .shl _ _ _ _, _, _, _, none⟩ :: _); refine GD.w1 ?_ (by first | exact LT.shl (((L 4).length * 2 ^ 4 : Nat) : Int) (hz := hsh) | fail)) | (show GD _ _ _ _ _ _ _ _ _ _ (⟨some _, .binOp .shl _ _ _ _, _, _, _, some _⟩ :: _); refine GD.gC ?_ (by first | (refine gi ?_; intros; exact LT.shl (((L 4).length * 2 ^ 4 : Nat) : Int) (hz := hsh)) | fail) rfl rfl) | (show G _ _ _ _ (WL _ _ _ _ (⟨some _, .build _ _, _, _, _, none⟩ :: _)); refine G.w1 ?_ (by first | exact LT.arB | fail)) | (show G _ _ _ _ (WL _ _ _ _ (⟨some _, .build _ _, _, _, _, some _⟩ :: _)); refine G.gC ?_ (by first | (refine gi ?_; intros; exact LT.arB) | fail) rfl rfl) | (show GD _ _ _ _ _ _ _ _ _ _ (⟨some _, .build _ _, _, _, _, none⟩ :: _); refine GD.w1 ?_ (by first | exact LT.arB | fail)) | (show GD _ _ _ _ _ _ _ _ _ _ (⟨some _, .build _ _, _, _, _, some _⟩ :: _); refine GD.gC ?_ (by first | (refine gi ?_; intros; exact LT.arB) | fail) rfl rfl) | (show G _ _ _ _ (WL _ _ _ _ (⟨some _, .indexAddr _ _ _, _, _, _, none⟩ :: _)); refine G.w1 ?_ (by first | exact LT.arI | fail)) | (show G _ _ _ _ (WL _ _ _ _ (⟨some _, .indexAddr _ _ _, _, _, _, some _⟩ :: _)); refine G.gC ?_ (by first | (refine gi ?_; intros; exact LT.arI) | fail) rfl rfl) | (show GD _ _ _ _ _ _ _ _ _ _ (⟨some _, .indexAddr _ _ _, _, _, _, none⟩ :: _); refine GD.w1 ?_ (by first | exact LT.arI | fail)) | (show GD _ _ _ _ _ _ _ _ _ _ (⟨some _, .indexAddr _ _ _, _, _, _, some _⟩ :: _); refine GD.gC ?_ (by first | (refine gi ?_; intros; exact LT.arI) | fail) rfl rfl) | (show G _ _ _ _ (WL _ _ _ _ (⟨some _, .index _ _ _, _, _, _, none⟩ :: _)); refine G.w1 ?_ (by first | exact LT.arE | fail)) | (show G _ _ _ _ (WL _ _ _ _ (⟨some _, .index _ _ _, _, _, _, some _⟩ :: _)); refine G.gC ?_ (by first | (refine gi ?_; intros; exact LT.arE) | fail) rfl rfl) | (show GD _ _ _ _ _ _ _ _ _ _ (⟨some _, .index _ _ _, _, _, _, none⟩ :: _); refine GD.w1 ?_ (by first | exact LT.arE | fail)) | (show GD _ _ _ _ _ _ _ _ _ _ (⟨some _, .index _ _ _, _, _, _, some _⟩ :: _); refine GD.gC ?_ (by first | (refine gi ?_; intros; exact LT.arE) | fail) rfl rfl) | ((repeat (revert hK; revert K)); refine wk ?_; repeat intro K hK) | refine wkg ?_))
  refine G.fin1 (by first | exact rvOk.tmp | exact rvOk.cellS | exact rvOk.cell1 | fail) rfl ?_
  rfl
theorem sum_wgt (L : Nat → List Int) : sumF L 4 + (L 4).length * 16 = wgt L := by
  simp only [sumF, wgt]
  omega
theorem count_F (n : Nat) (h1 : 1 ≤ n) (hn : n ≤ 64) (L : Nat → List Int) (hz : ZOk n L) : Fn Try.prog 12 [.st (zD n L)] (· = .s (.int .i64 ((wgt L : Nat) : Int))) := by
  have h2 := unusable_F n h1 hn L hz
  have h3 := last_F n h1 hn L hz
  have h4 := sum_wgt L
  have h5 := sum_le L hz.l 4 (by decide)
  have h6 : (L 4).length * 16 ≤ 1024 := by have := hz.l 4 (by decide); omega
  generalize sumF L 4 = a at h2 h4 h5
  generalize (L 4).length * 16 = b at h3 h4 h6
  refine Fn.of Try.func12 Try.ntmps12 rfl (by kernel_rfl) (fun w o => ?_)
  (repeat (first | refine G.cW (h2) ?_ | refine G.cgW (h2) ?_ | refine GD.cW (h2) ?_ | refine GD.cgW (h2) ?_ | refine G.cW (h3) ?_ | refine G.cgW (h3) ?_ | refine GD.cW (h3) ?_ | refine GD.cgW (h3) ?_ | ((repeat (revert hK; revert K)); refine wk ?_; repeat intro K hK) | refine wkg ?_))
  refine G.fin1 (by first | exact rvOk.tmp | exact rvOk.cellS | exact rvOk.cell1 | fail) rfl ?_
  rw [← h4]
  push_cast
  rfl

end Go.Proofs.Ytohpbfcechbngaa
