/- Buddy: ranges, inside, put. -/
import Derived.Test.YtohpbfcechbngaaCa
import Derived.Test.YtohpbfcechbngaaNf
import Derived.Test.YtohpbfcechbngaaNh
import Derived.Test.YtohpbfcechbngaaAvu
set_option linter.unusedSimpArgs false
set_option linter.unusedVariables false
namespace Go.Proofs.Ytohpbfcechbngaa
open Go.RowKit

instance : TAr Try.prog 26 5 24 [(0, 1), (1, 1), (2, 1), (3, 1), (4, 1)] := ⟨by kernel_rfl, rfl⟩
def iV (x : Int) : AV := .d (.s (.int .i64 x))
def zN (n : Nat) : List AV := [.d (.s (.int .i64 0)), .d (.s (.int .i64 0)), .d (.s (.int .i64 0)), .d (.s (.int .i64 n)), .d (.s (.int .i64 0))]
/-- A zone from 0 on with n frames, as data. -/
def zD (n : Nat) (L : Nat → List Int) : List D := [.s (.int .i64 0), .s (.int .i64 0), .s (.int .i64 0), .s (.int .i64 n), .s (.int .i64 0), .l (il (L 0)), .l (il (L 1)), .l (il (L 2)), .l (il (L 3)), .l (il (L 4))]
/-- The five rows. -/
def rws5 (L : Nat → List Int) : Bs := [(102, some (3, (il (L 0)).flatten.map .d)), (104, some (3, (il (L 1)).flatten.map .d)), (106, some (3, (il (L 2)).flatten.map .d)), (108, some (3, (il (L 3)).flatten.map .d)), (110, some (3, (il (L 4)).flatten.map .d))]
def zO (n : Nat) (L : Nat → List Int) : List AV := [.d (.s (.int .i64 0)), .d (.s (.int .i64 0)), .d (.s (.int .i64 0)), .d (.s (.int .i64 n)), .d (.s (.int .i64 0)), .o 102 (il (L 0)).length, .o 104 (il (L 1)).length, .o 106 (il (L 2)).length, .o 108 (il (L 3)).length, .o 110 (il (L 4)).length]
attribute [local irreducible] Wp WL WO fin finB rnd Exit.then Exit.inBlock G GD LT Rd Fn FnB FvB Iter
attribute [local go_sem] zD
theorem ranges_F (n : Nat) (h1 : 1 ≤ n) (hn : n ≤ 64) (L : Nat → List Int) : Fn Try.prog 28 [.st (zD n L)] (· = .s (.bool true)) := by
  refine Fn.of Try.func28 Try.ntmps28 rfl (by kernel_rfl) (fun w o => ?_)
  (repeat (first | ((repeat (revert hK; revert K)); refine wk ?_; repeat intro K hK) | refine wkg ?_))
  refine G.fin1 (by first | exact rvOk.tmp | exact rvOk.cellS | exact rvOk.cell1 | fail) rfl ?_
  simp
  omega
theorem ins_val (n f k : Nat) (hk : k ≤ 5) : (decide ((0 : Int) ≤ (f : Int)) && (((f % 2 ^ k : Nat) : Int) == 0) && decide (((2 ^ k : Nat) : Int) ≤ (n : Int)) && decide ((f : Int) ≤ (n : Int) - ((2 ^ k : Nat) : Int))) = insV n f k := by
  unfold insV
  rw [Bool.eq_iff_iff]
  simp only [Bool.and_eq_true, decide_eq_true_eq, beq_iff_eq, Nat.beq_eq, Nat.ble_eq]
  omega
theorem inside_F (n f k : Nat) (hn : n ≤ 64) (hf : f ≤ 300) (hk : k ≤ 5) (L : Nat → List Int) : Fn Try.prog 30 [.st (zD n L), .s (.int .i64 f), .s (.int .i64 k)] (· = .s (.bool (insV n f k))) := by
  have hp : 2 ^ k ≤ 32 := Nat.pow_le_pow_right (by decide) hk
  have hp0 : 0 < 2 ^ k := Nat.pow_pos (by decide)
  have hsh : IntKind.i64.wrap (1 * 2 ^ min ((k : Nat) : Int).toNat IntKind.i64.bits) = ((2 ^ k : Nat) : Int) := by
    rw [Int.toNat_natCast, Nat.min_eq_left (by show k ≤ 64; omega), IntKind.wrap_i64, Int.one_mul]
    push_cast at hp ⊢
    have : ((2 ^ k : Nat) : Int) ≤ 32 := by exact_mod_cast hp
    have : (0 : Int) < ((2 ^ k : Nat) : Int) := by exact_mod_cast hp0
    push_cast at *
    omega
  have hrm : ((f : Nat) : Int).tmod ((2 ^ k : Nat) : Int) = ((f % 2 ^ k : Nat) : Int) := by
    rw [Int.tmod_eq_emod_of_nonneg (Int.natCast_nonneg _)]; rfl
  have hv := ins_val n f k hk
  have hk0 : (0 : Int) ≤ (k : Int) := Int.natCast_nonneg _
  generalize hq : 2 ^ k = q at hsh hrm hp hp0 hv
  have hq0 : ((q : Nat) : Int) ≠ 0 := by omega
  refine Fn.of Try.func30 Try.ntmps30 rfl (by kernel_rfl) (fun w o => ?_)
  (repeat (first | (show G _ _ _ _ (WL _ _ _ _ (⟨some _, .binOp .shl _ _ _ _, _, _, _, none⟩ :: _)); refine G.w1 ?_ (by first | exact LT.shl ((q : Nat) : Int) | fail)) | (show G _ _ _ _ (WL _ _ _ _ (⟨some _, .binOp .shl _ _ _ _, _, _, _, some _⟩ :: _)); refine G.gC ?_ (by first | (refine gi ?_; intros; exact LT.shl ((q : Nat) : Int)) | fail) rfl rfl) | (show GD _ _ _ _ _ _ _ _ _ _ (⟨some _, .binOp .shl _ _ _ _, _, _, _, none⟩ :: _); refine GD.w1 ?_ (by first | exact LT.shl ((q : Nat) : Int) | fail)) | (show GD _ _ _ _ _ _ _ _ _ _ (⟨some _, .binOp .shl _ _ _ _, _, _, _, some _⟩ :: _); refine GD.gC ?_ (by first | (refine gi ?_; intros; exact LT.shl ((q : Nat) : Int)) | fail) rfl rfl) | (show G _ _ _ _ (WL _ _ _ _ (⟨some _, .binOp .rem _ _ _ _, _, _, _, none⟩ :: _)); refine G.w1 ?_ (by first | exact LT.remz ((f % q : Nat) : Int) | fail)) | (show G _ _ _ _ (WL _ _ _ _ (⟨some _, .binOp .rem _ _ _ _, _, _, _, some _⟩ :: _)); refine G.gC ?_ (by first | (refine gi ?_; intros; exact LT.remz ((f % q : Nat) : Int)) | fail) rfl rfl) | (show GD _ _ _ _ _ _ _ _ _ _ (⟨some _, .binOp .rem _ _ _ _, _, _, _, none⟩ :: _); refine GD.w1 ?_ (by first | exact LT.remz ((f % q : Nat) : Int) | fail)) | (show GD _ _ _ _ _ _ _ _ _ _ (⟨some _, .binOp .rem _ _ _ _, _, _, _, some _⟩ :: _); refine GD.gC ?_ (by first | (refine gi ?_; intros; exact LT.remz ((f % q : Nat) : Int)) | fail) rfl rfl) | ((repeat (revert hK; revert K)); refine wk ?_; repeat intro K hK) | refine wkg ?_))
  refine G.fin1 (by first | exact rvOk.tmp | exact rvOk.cellS | exact rvOk.cell1 | fail) rfl ?_
  rw [← hv]
  simp
theorem inside_O (n f k : Nat) (hn : n ≤ 64) (hf : f ≤ 300) (hk : k ≤ 5) (L : Nat → List Int) (fi ki : Int) (hfi : fi = (f : Int)) (hki : ki = (k : Int)) : FnB Try.prog CT 30 [.st (zO n L), .d (.s (.int .i64 fi)), .d (.s (.int .i64 ki))] (rws5 L) (.d (.s (.bool (insV n f k)))) (rws5 L) := by
  subst hfi hki
  have hp : 2 ^ k ≤ 32 := Nat.pow_le_pow_right (by decide) hk
  have hp0 : 0 < 2 ^ k := Nat.pow_pos (by decide)
  have hsh : IntKind.i64.wrap (1 * 2 ^ min ((k : Nat) : Int).toNat IntKind.i64.bits) = ((2 ^ k : Nat) : Int) := by
    rw [Int.toNat_natCast, Nat.min_eq_left (by show k ≤ 64; omega), IntKind.wrap_i64, Int.one_mul]
    have : ((2 ^ k : Nat) : Int) ≤ 32 := by exact_mod_cast hp
    have : (0 : Int) < ((2 ^ k : Nat) : Int) := by exact_mod_cast hp0
    push_cast at *
    omega
  have hrm : ((f : Nat) : Int).tmod ((2 ^ k : Nat) : Int) = ((f % 2 ^ k : Nat) : Int) := by
    rw [Int.tmod_eq_emod_of_nonneg (Int.natCast_nonneg _)]; rfl
  have hv := ins_val n f k hk
  have hk0 : (0 : Int) ≤ (k : Int) := Int.natCast_nonneg _
  generalize hq : 2 ^ k = q at hsh hrm hp hp0 hv
  have hq0 : ((q : Nat) : Int) ≠ 0 := by omega
  unfold rws5 zO
  refine FnB.of (ks := [102, 104, 106, 108, 110]) CT.c Try.func30 Try.ntmps30 rfl (by kernel_rfl) (fun w o m E0 hCX => ?_) (hks := kns_eq (l := [102, 104, 106, 108, 110]) rfl (by decide)); (try dsimp only [Is])
  (repeat (first | (show G _ _ _ _ (WL _ _ _ _ (⟨some _, .binOp .shl _ _ _ _, _, _, _, none⟩ :: _)); refine G.w1 ?_ (by first | exact LT.shl ((q : Nat) : Int) | fail)) | (show G _ _ _ _ (WL _ _ _ _ (⟨some _, .binOp .shl _ _ _ _, _, _, _, some _⟩ :: _)); refine G.gC ?_ (by first | (refine gi ?_; intros; exact LT.shl ((q : Nat) : Int)) | fail) rfl rfl) | (show GD _ _ _ _ _ _ _ _ _ _ (⟨some _, .binOp .shl _ _ _ _, _, _, _, none⟩ :: _); refine GD.w1 ?_ (by first | exact LT.shl ((q : Nat) : Int) | fail)) | (show GD _ _ _ _ _ _ _ _ _ _ (⟨some _, .binOp .shl _ _ _ _, _, _, _, some _⟩ :: _); refine GD.gC ?_ (by first | (refine gi ?_; intros; exact LT.shl ((q : Nat) : Int)) | fail) rfl rfl) | (show G _ _ _ _ (WL _ _ _ _ (⟨some _, .binOp .rem _ _ _ _, _, _, _, none⟩ :: _)); refine G.w1 ?_ (by first | exact LT.remz ((f % q : Nat) : Int) | fail)) | (show G _ _ _ _ (WL _ _ _ _ (⟨some _, .binOp .rem _ _ _ _, _, _, _, some _⟩ :: _)); refine G.gC ?_ (by first | (refine gi ?_; intros; exact LT.remz ((f % q : Nat) : Int)) | fail) rfl rfl) | (show GD _ _ _ _ _ _ _ _ _ _ (⟨some _, .binOp .rem _ _ _ _, _, _, _, none⟩ :: _); refine GD.w1 ?_ (by first | exact LT.remz ((f % q : Nat) : Int) | fail)) | (show GD _ _ _ _ _ _ _ _ _ _ (⟨some _, .binOp .rem _ _ _ _, _, _, _, some _⟩ :: _); refine GD.gC ?_ (by first | (refine gi ?_; intros; exact LT.remz ((f % q : Nat) : Int)) | fail) rfl rfl) | (show G _ _ _ _ (WL _ _ _ _ (⟨some _, _, _, _, _, none⟩ :: _)); refine G.w2 ?_ (by first | exact LT.bxA | fail)) | (show GD _ _ _ _ _ _ _ _ _ _ (⟨some _, _, _, _, _, none⟩ :: _); refine GD.w2 ?_ (by first | exact LT.bxA | fail)) | ((repeat (revert hK; revert K)); refine wk ?_; repeat intro K hK) | refine wkg ?_))
  have hw : (decide ((0 : Int) ≤ (f : Int)) && ((f : Int) % (q : Int) == 0) && decide ((q : Int) ≤ (n : Int)) && decide ((f : Int) ≤ 0 + (n : Int) - (q : Int))) = insV n f k := by rw [← hv, Int.zero_add, Int.natCast_emod]
  refine G.le 6 (.s (.bool (insV n f k))) (by rw [← hw]; exact D.le.refl _) ?_
  refine G.finB1 rfl rfl (by rfl) (by first | ((repeat (first | exact trivial | refine ⟨.inl rfl, ?_⟩ | refine ⟨.inr rfl, ?_⟩)); done) | fail) (by first | exact Is.cl (hcl _) | exact Is.cl6 (hcl _) | ((repeat (first | exact trivial | refine ⟨ClE.some rfl, ?_⟩ | (with_reducible refine ClB.d ?_) | (with_reducible refine ⟨ClE.some (numsL_d _ _), ?_⟩) | refine ⟨ClE.none, ?_⟩)); done) | fail) (by rfl)

end Go.Proofs.Ytohpbfcechbngaa
