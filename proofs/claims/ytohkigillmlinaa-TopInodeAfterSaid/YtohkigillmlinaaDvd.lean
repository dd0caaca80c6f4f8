/- Device: slices.Delete of the last request, find, slices.Insert into nothing, Complete. -/
import Derived.Test.YtohkigillmlinaaDvc
import Derived.Test.YtohkigillmlinaaAvr
set_option linter.unusedSimpArgs false
set_option linter.unusedVariables false
namespace Go.Proofs.Ytohkigillmlinaa
open Go.RowKit

def zRq : List D := [.s (.int .i64 0), .s (.int .i64 0), .s (.int .i64 0), .s (.slice none 0 0)]
attribute [local irreducible] Wp WL WO fin finB rnd Exit.then Exit.inBlock G GD LT Rd Fn FnB FvB Iter
attribute [local go_sem] DV.row QV.row CV.row
theorem del_O (l : List QV) (x : QV) (hl : l.length ≤ 100) : FnB Try.prog CT 20 [.o 105 (qR (l ++ [x])).length, .d (.s (.int .i64 l.length)), .d (.s (.int .i64 ((l.length : Int) + 1)))] [(105, some (43, (qR (l ++ [x])).flatten.map .d))] (.o 105 (qR l).length) [(105, some (43, (qR l).flatten.map .d))] := by
  have h1 : (qR (l ++ [x])).length = l.length + 1 := by rw [qR_len]; simp
  have h2 : ((l.length : Int) == (l.length : Int) + 1) = false := by rw [beq_eq_false_iff_ne]; omega
  have h3 := qR_row (l ++ [x])
  have h5 : ((qR (l ++ [x])).set l.length zRq).take l.length = qR l := by
    rw [List.take_set, List.set_eq_of_length_le (by rw [List.length_take]; omega), qR_app, List.take_append_of_le_length (by rw [qR_len]; exact Nat.le_refl _), ← qR_len, List.take_length]
  have h6 : ∀ r ∈ (qR (l ++ [x])).set l.length zRq, r.length = 4 := fun r hr => by
    rcases List.mem_or_eq_of_mem_set hr with h | rfl
    · exact h3 r h
    · rfl
  rw [qR_len l, h1]
  refine FnB.of (ks := []) CT.c Try.func20 Try.ntmps20 rfl (by kernel_rfl) (fun w o m E0 hCX => ?_) (hks := kns_eq (l := [105]) rfl (by decide)); (try dsimp only [Is])
  (repeat (first | (show G _ _ _ _ (WL _ _ _ _ (⟨some _, .slice _ _ _ _ _, _, _, _, none⟩ :: _)); refine G.w1 ?_ (by first | exact LT.rd (Rd.sl3 l.length (l.length + 1) (l.length + 1)) rfl | fail)) | (show G _ _ _ _ (WL _ _ _ _ (⟨some _, .slice _ _ _ _ _, _, _, _, some _⟩ :: _)); refine G.gC ?_ (by first | (refine gi ?_; intros; exact LT.rd (Rd.sl3 l.length (l.length + 1) (l.length + 1)) rfl) | fail) rfl rfl) | (show GD _ _ _ _ _ _ _ _ _ _ (⟨some _, .slice _ _ _ _ _, _, _, _, none⟩ :: _); refine GD.w1 ?_ (by first | exact LT.rd (Rd.sl3 l.length (l.length + 1) (l.length + 1)) rfl | fail)) | (show GD _ _ _ _ _ _ _ _ _ _ (⟨some _, .slice _ _ _ _ _, _, _, _, some _⟩ :: _); refine GD.gC ?_ (by first | (refine gi ?_; intros; exact LT.rd (Rd.sl3 l.length (l.length + 1) (l.length + 1)) rfl) | fail) rfl rfl) | (show G _ _ _ _ (WL _ _ _ _ (⟨some _, .slice _ _ _ _ _, _, _, _, none⟩ :: _)); refine G.w1 ?_ (by first | exact LT.rd (Rd.slO 0 l.length) rfl | fail)) | (show G _ _ _ _ (WL _ _ _ _ (⟨some _, .slice _ _ _ _ _, _, _, _, some _⟩ :: _)); refine G.gC ?_ (by first | (refine gi ?_; intros; exact LT.rd (Rd.slO 0 l.length) rfl) | fail) rfl rfl) | (show GD _ _ _ _ _ _ _ _ _ _ (⟨some _, .slice _ _ _ _ _, _, _, _, none⟩ :: _); refine GD.w1 ?_ (by first | exact LT.rd (Rd.slO 0 l.length) rfl | fail)) | (show GD _ _ _ _ _ _ _ _ _ _ (⟨some _, .slice _ _ _ _ _, _, _, _, some _⟩ :: _); refine GD.gC ?_ (by first | (refine gi ?_; intros; exact LT.rd (Rd.slO 0 l.length) rfl) | fail) rfl rfl) | (show G _ _ _ _ (WL _ _ _ _ (⟨some _, .slice _ _ _ _ _, _, _, _, none⟩ :: _)); refine G.w1 ?_ (by first | exact LT.rd (Rd.slE (l.length + 1)) rfl | fail)) | (show G _ _ _ _ (WL _ _ _ _ (⟨some _, .slice _ _ _ _ _, _, _, _, some _⟩ :: _)); refine G.gC ?_ (by first | (refine gi ?_; intros; exact LT.rd (Rd.slE (l.length + 1)) rfl) | fail) rfl rfl) | (show GD _ _ _ _ _ _ _ _ _ _ (⟨some _, .slice _ _ _ _ _, _, _, _, none⟩ :: _); refine GD.w1 ?_ (by first | exact LT.rd (Rd.slE (l.length + 1)) rfl | fail)) | (show GD _ _ _ _ _ _ _ _ _ _ (⟨some _, .slice _ _ _ _ _, _, _, _, some _⟩ :: _); refine GD.gC ?_ (by first | (refine gi ?_; intros; exact LT.rd (Rd.slE (l.length + 1)) rfl) | fail) rfl rfl) | (show G _ _ _ _ (WL _ _ _ _ (⟨some _, .call _, _, _, _, none⟩ :: _)); refine G.w1 ?_ (by first | exact LT.apV0 | fail)) | (show G _ _ _ _ (WL _ _ _ _ (⟨some _, .call _, _, _, _, some _⟩ :: _)); refine G.gC ?_ (by first | (refine gi ?_; intros; exact LT.apV0) | fail) rfl rfl) | (show GD _ _ _ _ _ _ _ _ _ _ (⟨some _, .call _, _, _, _, none⟩ :: _); refine GD.w1 ?_ (by first | exact LT.apV0 | fail)) | (show GD _ _ _ _ _ _ _ _ _ _ (⟨some _, .call _, _, _, _, some _⟩ :: _); refine GD.gC ?_ (by first | (refine gi ?_; intros; exact LT.apV0) | fail) rfl rfl) | (show G _ _ _ _ (WL _ _ _ _ (⟨some _, .call _, _, _, _, none⟩ :: _)); refine G.w1 ?_ (by first | exact LT.rd Rd.lenV rfl | fail)) | (show G _ _ _ _ (WL _ _ _ _ (⟨some _, .call _, _, _, _, some _⟩ :: _)); refine G.gC ?_ (by first | (refine gi ?_; intros; exact LT.rd Rd.lenV rfl) | fail) rfl rfl) | (show GD _ _ _ _ _ _ _ _ _ _ (⟨some _, .call _, _, _, _, none⟩ :: _); refine GD.w1 ?_ (by first | exact LT.rd Rd.lenV rfl | fail)) | (show GD _ _ _ _ _ _ _ _ _ _ (⟨some _, .call _, _, _, _, some _⟩ :: _); refine GD.gC ?_ (by first | (refine gi ?_; intros; exact LT.rd Rd.lenV rfl) | fail) rfl rfl) | (show G _ _ _ _ (WL _ _ _ _ (⟨some _, .slice _ _ _ _ _, _, _, _, none⟩ :: _)); refine G.w1 ?_ (by first | exact LT.rd (Rd.slV l.length 1 (by rw [h1]; exact Nat.le_refl _) h3) rfl | fail)) | (show G _ _ _ _ (WL _ _ _ _ (⟨some _, .slice _ _ _ _ _, _, _, _, some _⟩ :: _)); refine G.gC ?_ (by first | (refine gi ?_; intros; exact LT.rd (Rd.slV l.length 1 (by rw [h1]; exact Nat.le_refl _) h3) rfl) | fail) rfl rfl) | (show GD _ _ _ _ _ _ _ _ _ _ (⟨some _, .slice _ _ _ _ _, _, _, _, none⟩ :: _); refine GD.w1 ?_ (by first | exact LT.rd (Rd.slV l.length 1 (by rw [h1]; exact Nat.le_refl _) h3) rfl | fail)) | (show GD _ _ _ _ _ _ _ _ _ _ (⟨some _, .slice _ _ _ _ _, _, _, _, some _⟩ :: _); refine GD.gC ?_ (by first | (refine gi ?_; intros; exact LT.rd (Rd.slV l.length 1 (by rw [h1]; exact Nat.le_refl _) h3) rfl) | fail) rfl rfl) | (show G _ _ _ _ (WL _ _ _ _ (⟨none, _, _, _, _, none⟩ :: _)); refine G.w0 ?_ (by first | exact LT.clr l.length (by rw [h1]; omega) h3 rfl | fail)) | (show GD _ _ _ _ _ _ _ _ _ _ (⟨none, _, _, _, _, none⟩ :: _); refine GD.w0 ?_ (by first | exact LT.clr l.length (by rw [h1]; omega) h3 rfl | fail)) | ((repeat (revert hK; revert K)); refine wk ?_; repeat intro K hK) | refine wkg ?_))
  refine G.vwO (T := 43) (rows := (qR (l ++ [x])).set l.length zRq) 6 3 l.length ?_ h6 (by decide) (by rw [List.length_set, h1]; omega)
  rw [h5]
  refine G.ren (al' := [(6, .o 105 l.length)]) (bs' := [(105, some (43, (qR l).flatten.map .d))]) [(105, 3)] ?_ (by repeat (first | exact trivial | refine ⟨⟨rfl, rfl⟩, ?_⟩)) (by repeat (first | exact trivial | refine ⟨⟨rfl, rfl, rfl⟩, ?_⟩ | refine ⟨⟨rfl, by rw [renL_d]; rfl, kbL_d _ _⟩, ?_⟩ | refine ⟨rfl, ?_⟩)) (by decide) (by rfl)
  refine G.finB1 rfl rfl (by rfl) (by first | ((repeat (first | exact trivial | refine ⟨.inl rfl, ?_⟩ | refine ⟨.inr rfl, ?_⟩)); done) | fail) (by first | exact Is.cl (hcl _) | exact Is.cl6 (hcl _) | ((repeat (first | exact trivial | refine ⟨ClE.some rfl, ?_⟩ | (with_reducible refine ClB.d ?_) | (with_reducible refine ⟨ClE.some (numsL_d _ _), ?_⟩) | refine ⟨ClE.none, ?_⟩)); done) | fail) (by rfl)
/-- Where a block would lie in a cache of at most one. -/
def fndV (l : List CV) (b : Int) : Int × Bool := match l with
  | [] => (0, false)
  | c :: _ => if c.b < b then (1, false) else (0, c.b == b)
theorem diff_F (c : CV) (b : Int) (hc : 0 ≤ c.b ∧ c.b ≤ 1000) (hb : 0 ≤ b ∧ b ≤ 1000) : Fn Try.prog 31 [.st c.row, .s (.int .i64 b)] (· = .s (.int .i64 (c.b - b))) := by
  refine Fn.of Try.func31 Try.ntmps31 rfl (by kernel_rfl) (fun w o => ?_)
  (repeat (first | ((repeat (revert hK; revert K)); refine wk ?_; repeat intro K hK) | refine wkg ?_))
  refine G.fin1 (by first | exact rvOk.tmp | exact rvOk.cellS | exact rvOk.cell1 | fail) rfl ?_
  rfl
def bsO (l : List CV) (b : Int) (x : Int × Int) : List (Nat × AV) × Bs := ([(10, .d (.s (.int .i64 x.2))), (9, .d (.s (.int .i64 x.1))), (8, .d (.s (.int .i64 (chR l).length))), (7, .d (.s (.bool false))), (6, .d (.s (.int .i64 0))), (0, .o 100 (chR l).length), (1, .d (.s (.int .i64 b))), (2, .d (.fn 31 []))], [(100, some (64, (chR l).flatten.map .d))])
theorem bs_O (l : List CV) (b : Int) (hl : l.length ≤ 1) (hc : ∀ c ∈ l, 0 ≤ c.b ∧ c.b ≤ 1000) (hb : 0 ≤ b ∧ b ≤ 1000) : FnB Try.prog CT 30 [.o 100 (chR l).length, .d (.s (.int .i64 b)), .fn 31 []] [(100, some (64, (chR l).flatten.map .d))] (.tup [.d (.s (.int .i64 (fndV l b).1)), .d (.s (.bool (fndV l b).2))]) [(100, some (64, (chR l).flatten.map .d))] := by
  match l, hl, hc with
  | [], _, _ =>
    rw [show fndV [] b = (0, false) from rfl]
    refine FnB.of (ks := [100]) CT.c Try.func30 Try.ntmps30 rfl (by kernel_rfl) (fun w o m E0 hCX => ?_) (hks := kns_eq (l := [100]) rfl (by decide)); (try dsimp only [Is])
    refine G.fnD 2 ?_
    (repeat (first | ((repeat (revert hK; revert K)); refine wk ?_; repeat intro K hK) | refine wkg ?_))
    refine G.loop (bsO [] b) (fun x => x = (0, 0)) (fun _ => 0) ?_ ?_
    · exact G.at (0, 0) [(100, 100)] rfl (by repeat (first | exact trivial | refine ⟨⟨rfl, rfl⟩, ?_⟩)) (by repeat (first | exact trivial | refine ⟨⟨rfl, rfl, rfl⟩, ?_⟩ | refine ⟨⟨rfl, by rw [renL_d]; rfl, kbL_d _ _⟩, ?_⟩ | refine ⟨rfl, ?_⟩)) (by decide)
    · intro x hx
      subst hx
      dsimp only [bsO]
      (repeat (first | ((repeat (revert hK; revert K)); refine wk ?_; repeat intro K hK) | refine wkg ?_))
      refine G.ren (al' := [(6, .d (.s (.int .i64 0))), (7, .d (.s (.bool false)))]) (bs' := [(100, some (64, (chR []).flatten.map .d))]) [(100, 100)] ?_ (by repeat (first | exact trivial | refine ⟨⟨rfl, rfl⟩, ?_⟩)) (by repeat (first | exact trivial | refine ⟨⟨rfl, rfl, rfl⟩, ?_⟩ | refine ⟨⟨rfl, by rw [renL_d]; rfl, kbL_d _ _⟩, ?_⟩ | refine ⟨rfl, ?_⟩)) (by decide) (by rfl)
      refine G.finB2 rfl rfl rfl (by rfl) (by first | ((repeat (first | exact trivial | refine ⟨.inl rfl, ?_⟩ | refine ⟨.inr rfl, ?_⟩)); done) | fail) (by first | exact Is.cl (hcl _) | exact Is.cl6 (hcl _) | ((repeat (first | exact trivial | refine ⟨ClE.some rfl, ?_⟩ | (with_reducible refine ClB.d ?_) | (with_reducible refine ⟨ClE.some (numsL_d _ _), ?_⟩) | refine ⟨ClE.none, ?_⟩)); done) | fail) (by rfl)
  | [c], _, hc =>
    have hcb := hc c (List.mem_cons_self ..)
    have hr : (chR [c])[0]? = some c.row := rfl
    have hrw := chR_row [c]
    have hj : 0 < (chR [c]).length := Nat.zero_lt_one
    have hdf := diff_F c b hcb hb
    have hlen : ((chR [c]).length : Int) = 1 := rfl
    by_cases h : c.b < b
    · have hlt : decide (c.b - b < 0) = true := by simp; omega
      have e : fndV [c] b = (1, false) := by dsimp only [fndV]; rw [if_pos h]
      rw [e]
      refine FnB.of (ks := [100]) CT.c Try.func30 Try.ntmps30 rfl (by kernel_rfl) (fun w o m E0 hCX => ?_) (hks := kns_eq (l := [100]) rfl (by decide)); (try dsimp only [Is])
      refine G.fnD 2 ?_
      (repeat (first | ((repeat (revert hK; revert K)); refine wk ?_; repeat intro K hK) | refine wkg ?_))
      refine G.loop (bsO [c] b) (fun x => x = (0, 1) ∨ x = (1, 1)) (fun x => (x.2 - x.1).toNat) ?_ ?_
      · exact G.at (0, 1) [(100, 100)] (.inl rfl) (by repeat (first | exact trivial | refine ⟨⟨rfl, rfl⟩, ?_⟩)) (by repeat (first | exact trivial | refine ⟨⟨rfl, rfl, rfl⟩, ?_⟩ | refine ⟨⟨rfl, by rw [renL_d]; rfl, kbL_d _ _⟩, ?_⟩ | refine ⟨rfl, ?_⟩)) (by decide)
      · rintro x (rfl | rfl)
        · dsimp only [bsO]
          (repeat (first | (show G _ _ _ _ (WL _ _ _ _ (⟨some _, .convert _ _ _, _, _, _, none⟩ :: _)); refine G.w1 ?_ (by first | exact LT.cnv 1 | fail)) | (show G _ _ _ _ (WL _ _ _ _ (⟨some _, .convert _ _ _, _, _, _, some _⟩ :: _)); refine G.gC ?_ (by first | (refine gi ?_; intros; exact LT.cnv 1) | fail) rfl rfl) | (show GD _ _ _ _ _ _ _ _ _ _ (⟨some _, .convert _ _ _, _, _, _, none⟩ :: _); refine GD.w1 ?_ (by first | exact LT.cnv 1 | fail)) | (show GD _ _ _ _ _ _ _ _ _ _ (⟨some _, .convert _ _ _, _, _, _, some _⟩ :: _); refine GD.gC ?_ (by first | (refine gi ?_; intros; exact LT.cnv 1) | fail) rfl rfl) | (show G _ _ _ _ (WL _ _ _ _ (⟨some _, .convert _ _ _, _, _, _, none⟩ :: _)); refine G.w1 ?_ (by first | exact LT.cnv 0 | fail)) | (show G _ _ _ _ (WL _ _ _ _ (⟨some _, .convert _ _ _, _, _, _, some _⟩ :: _)); refine G.gC ?_ (by first | (refine gi ?_; intros; exact LT.cnv 0) | fail) rfl rfl) | (show GD _ _ _ _ _ _ _ _ _ _ (⟨some _, .convert _ _ _, _, _, _, none⟩ :: _); refine GD.w1 ?_ (by first | exact LT.cnv 0 | fail)) | (show GD _ _ _ _ _ _ _ _ _ _ (⟨some _, .convert _ _ _, _, _, _, some _⟩ :: _); refine GD.gC ?_ (by first | (refine gi ?_; intros; exact LT.cnv 0) | fail) rfl rfl) | (show G _ _ _ _ (WL _ _ _ _ (⟨some _, .binOp .shr _ _ _ _, _, _, _, none⟩ :: _)); refine G.w1 ?_ (by first | exact LT.shr 0 | fail)) | (show G _ _ _ _ (WL _ _ _ _ (⟨some _, .binOp .shr _ _ _ _, _, _, _, some _⟩ :: _)); refine G.gC ?_ (by first | (refine gi ?_; intros; exact LT.shr 0) | fail) rfl rfl) | (show GD _ _ _ _ _ _ _ _ _ _ (⟨some _, .binOp .shr _ _ _ _, _, _, _, none⟩ :: _); refine GD.w1 ?_ (by first | exact LT.shr 0 | fail)) | (show GD _ _ _ _ _ _ _ _ _ _ (⟨some _, .binOp .shr _ _ _ _, _, _, _, some _⟩ :: _); refine GD.gC ?_ (by first | (refine gi ?_; intros; exact LT.shr 0) | fail) rfl rfl) | (show G _ _ _ _ (WL _ _ _ _ (⟨some _, .indexAddr _ _ _, _, _, _, none⟩ :: _)); refine G.w1 ?_ (by first | exact LT.rd (Rd.ixov 0 (hj)) rfl | fail)) | (show G _ _ _ _ (WL _ _ _ _ (⟨some _, .indexAddr _ _ _, _, _, _, some _⟩ :: _)); refine G.gC ?_ (by first | (refine gi ?_; intros; exact LT.rd (Rd.ixov 0 (hj)) rfl) | fail) rfl rfl) | (show GD _ _ _ _ _ _ _ _ _ _ (⟨some _, .indexAddr _ _ _, _, _, _, none⟩ :: _); refine GD.w1 ?_ (by first | exact LT.rd (Rd.ixov 0 (hj)) rfl | fail)) | (show GD _ _ _ _ _ _ _ _ _ _ (⟨some _, .indexAddr _ _ _, _, _, _, some _⟩ :: _); refine GD.gC ?_ (by first | (refine gi ?_; intros; exact LT.rd (Rd.ixov 0 (hj)) rfl) | fail) rfl rfl) | (show G _ _ _ _ (WL _ _ _ _ (⟨some _, .load _ _, _, _, _, none⟩ :: _)); refine G.w1 ?_ (by first | exact LT.rd (Rd.ldR 0 (hr) (hrw)) rfl | fail)) | (show G _ _ _ _ (WL _ _ _ _ (⟨some _, .load _ _, _, _, _, some _⟩ :: _)); refine G.gC ?_ (by first | (refine gi ?_; intros; exact LT.rd (Rd.ldR 0 (hr) (hrw)) rfl) | fail) rfl rfl) | (show GD _ _ _ _ _ _ _ _ _ _ (⟨some _, .load _ _, _, _, _, none⟩ :: _); refine GD.w1 ?_ (by first | exact LT.rd (Rd.ldR 0 (hr) (hrw)) rfl | fail)) | (show GD _ _ _ _ _ _ _ _ _ _ (⟨some _, .load _ _, _, _, _, some _⟩ :: _); refine GD.gC ?_ (by first | (refine gi ?_; intros; exact LT.rd (Rd.ldR 0 (hr) (hrw)) rfl) | fail) rfl rfl) | (show G _ _ _ _ (WL _ _ _ _ (⟨some _, .call _, _, _, _, none⟩ :: _)); refine G.w1 ?_ (by first | exact LT.cdW (hdf) | fail)) | (show G _ _ _ _ (WL _ _ _ _ (⟨some _, .call _, _, _, _, some _⟩ :: _)); refine G.gC ?_ (by first | (refine gi ?_; intros; exact LT.cdW (hdf)) | fail) rfl rfl) | (show GD _ _ _ _ _ _ _ _ _ _ (⟨some _, .call _, _, _, _, none⟩ :: _); refine GD.w1 ?_ (by first | exact LT.cdW (hdf) | fail)) | (show GD _ _ _ _ _ _ _ _ _ _ (⟨some _, .call _, _, _, _, some _⟩ :: _); refine GD.gC ?_ (by first | (refine gi ?_; intros; exact LT.cdW (hdf)) | fail) rfl rfl) | ((repeat (revert hK; revert K)); refine wk ?_; repeat intro K hK) | refine wkg ?_))
          exact G.at (1, 1) [(100, 100)] ⟨.inr rfl, by decide⟩ (by repeat (first | exact trivial | refine ⟨⟨rfl, rfl⟩, ?_⟩)) (by repeat (first | exact trivial | refine ⟨⟨rfl, rfl, rfl⟩, ?_⟩ | refine ⟨⟨rfl, by rw [renL_d]; rfl, kbL_d _ _⟩, ?_⟩ | refine ⟨rfl, ?_⟩)) (by decide)
        · dsimp only [bsO]
          (repeat (first | ((repeat (revert hK; revert K)); refine wk ?_; repeat intro K hK) | refine wkg ?_))
          refine G.ren (al' := [(6, .d (.s (.int .i64 1))), (7, .d (.s (.bool false)))]) (bs' := [(100, some (64, (chR [c]).flatten.map .d))]) [(100, 100)] ?_ (by repeat (first | exact trivial | refine ⟨⟨rfl, rfl⟩, ?_⟩)) (by repeat (first | exact trivial | refine ⟨⟨rfl, rfl, rfl⟩, ?_⟩ | refine ⟨⟨rfl, by rw [renL_d]; rfl, kbL_d _ _⟩, ?_⟩ | refine ⟨rfl, ?_⟩)) (by decide) (by rfl)
          refine G.finB2 rfl rfl rfl (by rfl) (by first | ((repeat (first | exact trivial | refine ⟨.inl rfl, ?_⟩ | refine ⟨.inr rfl, ?_⟩)); done) | fail) (by first | exact Is.cl (hcl _) | exact Is.cl6 (hcl _) | ((repeat (first | exact trivial | refine ⟨ClE.some rfl, ?_⟩ | (with_reducible refine ClB.d ?_) | (with_reducible refine ⟨ClE.some (numsL_d _ _), ?_⟩) | refine ⟨ClE.none, ?_⟩)); done) | fail) (by rfl)
    · have hlt : decide (c.b - b < 0) = false := by simp; omega
      have e : fndV [c] b = (0, c.b - b == 0) := by
        have : (c.b - b == 0) = (c.b == b) := by rw [Bool.eq_iff_iff]; simp; omega
        rw [this]
        dsimp only [fndV]; rw [if_neg h]
      rw [e]
      refine FnB.of (ks := [100]) CT.c Try.func30 Try.ntmps30 rfl (by kernel_rfl) (fun w o m E0 hCX => ?_) (hks := kns_eq (l := [100]) rfl (by decide)); (try dsimp only [Is])
      refine G.fnD 2 ?_
      (repeat (first | ((repeat (revert hK; revert K)); refine wk ?_; repeat intro K hK) | refine wkg ?_))
      refine G.loop (bsO [c] b) (fun x => x = (0, 1) ∨ x = (0, 0)) (fun x => (x.2 - x.1).toNat) ?_ ?_
      · exact G.at (0, 1) [(100, 100)] (.inl rfl) (by repeat (first | exact trivial | refine ⟨⟨rfl, rfl⟩, ?_⟩)) (by repeat (first | exact trivial | refine ⟨⟨rfl, rfl, rfl⟩, ?_⟩ | refine ⟨⟨rfl, by rw [renL_d]; rfl, kbL_d _ _⟩, ?_⟩ | refine ⟨rfl, ?_⟩)) (by decide)
      · rintro x (rfl | rfl)
        · dsimp only [bsO]
          (repeat (first | (show G _ _ _ _ (WL _ _ _ _ (⟨some _, .convert _ _ _, _, _, _, none⟩ :: _)); refine G.w1 ?_ (by first | exact LT.cnv 1 | fail)) | (show G _ _ _ _ (WL _ _ _ _ (⟨some _, .convert _ _ _, _, _, _, some _⟩ :: _)); refine G.gC ?_ (by first | (refine gi ?_; intros; exact LT.cnv 1) | fail) rfl rfl) | (show GD _ _ _ _ _ _ _ _ _ _ (⟨some _, .convert _ _ _, _, _, _, none⟩ :: _); refine GD.w1 ?_ (by first | exact LT.cnv 1 | fail)) | (show GD _ _ _ _ _ _ _ _ _ _ (⟨some _, .convert _ _ _, _, _, _, some _⟩ :: _); refine GD.gC ?_ (by first | (refine gi ?_; intros; exact LT.cnv 1) | fail) rfl rfl) | (show G _ _ _ _ (WL _ _ _ _ (⟨some _, .convert _ _ _, _, _, _, none⟩ :: _)); refine G.w1 ?_ (by first | exact LT.cnv 0 | fail)) | (show G _ _ _ _ (WL _ _ _ _ (⟨some _, .convert _ _ _, _, _, _, some _⟩ :: _)); refine G.gC ?_ (by first | (refine gi ?_; intros; exact LT.cnv 0) | fail) rfl rfl) | (show GD _ _ _ _ _ _ _ _ _ _ (⟨some _, .convert _ _ _, _, _, _, none⟩ :: _); refine GD.w1 ?_ (by first | exact LT.cnv 0 | fail)) | (show GD _ _ _ _ _ _ _ _ _ _ (⟨some _, .convert _ _ _, _, _, _, some _⟩ :: _); refine GD.gC ?_ (by first | (refine gi ?_; intros; exact LT.cnv 0) | fail) rfl rfl) | (show G _ _ _ _ (WL _ _ _ _ (⟨some _, .binOp .shr _ _ _ _, _, _, _, none⟩ :: _)); refine G.w1 ?_ (by first | exact LT.shr 0 | fail)) | (show G _ _ _ _ (WL _ _ _ _ (⟨some _, .binOp .shr _ _ _ _, _, _, _, some _⟩ :: _)); refine G.gC ?_ (by first | (refine gi ?_; intros; exact LT.shr 0) | fail) rfl rfl) | (show GD _ _ _ _ _ _ _ _ _ _ (⟨some _, .binOp .shr _ _ _ _, _, _, _, none⟩ :: _); refine GD.w1 ?_ (by first | exact LT.shr 0 | fail)) | (show GD _ _ _ _ _ _ _ _ _ _ (⟨some _, .binOp .shr _ _ _ _, _, _, _, some _⟩ :: _); refine GD.gC ?_ (by first | (refine gi ?_; intros; exact LT.shr 0) | fail) rfl rfl) | (show G _ _ _ _ (WL _ _ _ _ (⟨some _, .indexAddr _ _ _, _, _, _, none⟩ :: _)); refine G.w1 ?_ (by first | exact LT.rd (Rd.ixov 0 (hj)) rfl | fail)) | (show G _ _ _ _ (WL _ _ _ _ (⟨some _, .indexAddr _ _ _, _, _, _, some _⟩ :: _)); refine G.gC ?_ (by first | (refine gi ?_; intros; exact LT.rd (Rd.ixov 0 (hj)) rfl) | fail) rfl rfl) | (show GD _ _ _ _ _ _ _ _ _ _ (⟨some _, .indexAddr _ _ _, _, _, _, none⟩ :: _); refine GD.w1 ?_ (by first | exact LT.rd (Rd.ixov 0 (hj)) rfl | fail)) | (show GD _ _ _ _ _ _ _ _ _ _ (⟨some _, .indexAddr _ _ _, _, _, _, some _⟩ :: _); refine GD.gC ?_ (by first | (refine gi ?_; intros; exact LT.rd (Rd.ixov 0 (hj)) rfl) | fail) rfl rfl) | (show G _ _ _ _ (WL _ _ _ _ (⟨some _, .load _ _, _, _, _, none⟩ :: _)); refine G.w1 ?_ (by first | exact LT.rd (Rd.ldR 0 (hr) (hrw)) rfl | fail)) | (show G _ _ _ _ (WL _ _ _ _ (⟨some _, .load _ _, _, _, _, some _⟩ :: _)); refine G.gC ?_ (by first | (refine gi ?_; intros; exact LT.rd (Rd.ldR 0 (hr) (hrw)) rfl) | fail) rfl rfl) | (show GD _ _ _ _ _ _ _ _ _ _ (⟨some _, .load _ _, _, _, _, none⟩ :: _); refine GD.w1 ?_ (by first | exact LT.rd (Rd.ldR 0 (hr) (hrw)) rfl | fail)) | (show GD _ _ _ _ _ _ _ _ _ _ (⟨some _, .load _ _, _, _, _, some _⟩ :: _); refine GD.gC ?_ (by first | (refine gi ?_; intros; exact LT.rd (Rd.ldR 0 (hr) (hrw)) rfl) | fail) rfl rfl) | (show G _ _ _ _ (WL _ _ _ _ (⟨some _, .call _, _, _, _, none⟩ :: _)); refine G.w1 ?_ (by first | exact LT.cdW (hdf) | fail)) | (show G _ _ _ _ (WL _ _ _ _ (⟨some _, .call _, _, _, _, some _⟩ :: _)); refine G.gC ?_ (by first | (refine gi ?_; intros; exact LT.cdW (hdf)) | fail) rfl rfl) | (show GD _ _ _ _ _ _ _ _ _ _ (⟨some _, .call _, _, _, _, none⟩ :: _); refine GD.w1 ?_ (by first | exact LT.cdW (hdf) | fail)) | (show GD _ _ _ _ _ _ _ _ _ _ (⟨some _, .call _, _, _, _, some _⟩ :: _); refine GD.gC ?_ (by first | (refine gi ?_; intros; exact LT.cdW (hdf)) | fail) rfl rfl) | ((repeat (revert hK; revert K)); refine wk ?_; repeat intro K hK) | refine wkg ?_))
          exact G.at (0, 0) [(100, 100)] ⟨.inr rfl, by decide⟩ (by repeat (first | exact trivial | refine ⟨⟨rfl, rfl⟩, ?_⟩)) (by repeat (first | exact trivial | refine ⟨⟨rfl, rfl, rfl⟩, ?_⟩ | refine ⟨⟨rfl, by rw [renL_d]; rfl, kbL_d _ _⟩, ?_⟩ | refine ⟨rfl, ?_⟩)) (by decide)
        · dsimp only [bsO]
          (repeat (first | (show G _ _ _ _ (WL _ _ _ _ (⟨some _, .indexAddr _ _ _, _, _, _, none⟩ :: _)); refine G.w1 ?_ (by first | exact LT.rd (Rd.ixov 0 (hj)) rfl | fail)) | (show G _ _ _ _ (WL _ _ _ _ (⟨some _, .indexAddr _ _ _, _, _, _, some _⟩ :: _)); refine G.gC ?_ (by first | (refine gi ?_; intros; exact LT.rd (Rd.ixov 0 (hj)) rfl) | fail) rfl rfl) | (show GD _ _ _ _ _ _ _ _ _ _ (⟨some _, .indexAddr _ _ _, _, _, _, none⟩ :: _); refine GD.w1 ?_ (by first | exact LT.rd (Rd.ixov 0 (hj)) rfl | fail)) | (show GD _ _ _ _ _ _ _ _ _ _ (⟨some _, .indexAddr _ _ _, _, _, _, some _⟩ :: _); refine GD.gC ?_ (by first | (refine gi ?_; intros; exact LT.rd (Rd.ixov 0 (hj)) rfl) | fail) rfl rfl) | (show G _ _ _ _ (WL _ _ _ _ (⟨some _, .load _ _, _, _, _, none⟩ :: _)); refine G.w1 ?_ (by first | exact LT.rd (Rd.ldR 0 (hr) (hrw)) rfl | fail)) | (show G _ _ _ _ (WL _ _ _ _ (⟨some _, .load _ _, _, _, _, some _⟩ :: _)); refine G.gC ?_ (by first | (refine gi ?_; intros; exact LT.rd (Rd.ldR 0 (hr) (hrw)) rfl) | fail) rfl rfl) | (show GD _ _ _ _ _ _ _ _ _ _ (⟨some _, .load _ _, _, _, _, none⟩ :: _); refine GD.w1 ?_ (by first | exact LT.rd (Rd.ldR 0 (hr) (hrw)) rfl | fail)) | (show GD _ _ _ _ _ _ _ _ _ _ (⟨some _, .load _ _, _, _, _, some _⟩ :: _); refine GD.gC ?_ (by first | (refine gi ?_; intros; exact LT.rd (Rd.ldR 0 (hr) (hrw)) rfl) | fail) rfl rfl) | (show G _ _ _ _ (WL _ _ _ _ (⟨some _, .call _, _, _, _, none⟩ :: _)); refine G.w1 ?_ (by first | exact LT.cdW (hdf) | fail)) | (show G _ _ _ _ (WL _ _ _ _ (⟨some _, .call _, _, _, _, some _⟩ :: _)); refine G.gC ?_ (by first | (refine gi ?_; intros; exact LT.cdW (hdf)) | fail) rfl rfl) | (show GD _ _ _ _ _ _ _ _ _ _ (⟨some _, .call _, _, _, _, none⟩ :: _); refine GD.w1 ?_ (by first | exact LT.cdW (hdf) | fail)) | (show GD _ _ _ _ _ _ _ _ _ _ (⟨some _, .call _, _, _, _, some _⟩ :: _); refine GD.gC ?_ (by first | (refine gi ?_; intros; exact LT.cdW (hdf)) | fail) rfl rfl) | ((repeat (revert hK; revert K)); refine wk ?_; repeat intro K hK) | refine wkg ?_))
          refine G.ren (al' := [(6, .d (.s (.int .i64 0))), (7, .d (.s (.bool (c.b - b == 0))))]) (bs' := [(100, some (64, (chR [c]).flatten.map .d))]) [(100, 100)] ?_ (by repeat (first | exact trivial | refine ⟨⟨rfl, rfl⟩, ?_⟩)) (by repeat (first | exact trivial | refine ⟨⟨rfl, rfl, rfl⟩, ?_⟩ | refine ⟨⟨rfl, by rw [renL_d]; rfl, kbL_d _ _⟩, ?_⟩ | refine ⟨rfl, ?_⟩)) (by decide) (by rfl)
          refine G.finB2 rfl rfl rfl (by rfl) (by first | ((repeat (first | exact trivial | refine ⟨.inl rfl, ?_⟩ | refine ⟨.inr rfl, ?_⟩)); done) | fail) (by first | exact Is.cl (hcl _) | exact Is.cl6 (hcl _) | ((repeat (first | exact trivial | refine ⟨ClE.some rfl, ?_⟩ | (with_reducible refine ClB.d ?_) | (with_reducible refine ⟨ClE.some (numsL_d _ _), ?_⟩) | refine ⟨ClE.none, ?_⟩)); done) | fail) (by rfl)
  | _ :: _ :: _, h, _ => simp at h
/-- The three rows of a device under way. -/
def dvB (a : List (List Int)) (b : List CV) (c : List QV) : Bs := [(102, some (25, (bsR a).flatten.map .d)), (100, some (64, (chR b).flatten.map .d)), (104, some (43, (qR c).flatten.map .d))]
theorem find_O (dep nxt : Int) (bs : List (List Int)) (l : List CV) (q : List QV) (b : Int) (hl : l.length ≤ 1) (hc : ∀ c ∈ l, 0 ≤ c.b ∧ c.b ≤ 1000) (hb : 0 ≤ b ∧ b ≤ 1000) : FnB Try.prog CT 22 [.st [.d (.s (.int .i64 dep)), .d (.s (.int .i64 nxt)), .o 102 (bsR bs).length, .o 100 (chR l).length, .o 104 (qR q).length], .d (.s (.int .i64 b))] (dvB bs l q) (.tup [.d (.s (.int .i64 (fndV l b).1)), .d (.s (.bool (fndV l b).2))]) (dvB bs l q) := by
  have hbs := FnB.v0 (bs_O l b hl hc hb)
  unfold dvB
  refine FnB.of (ks := [102, 100, 104]) CT.c Try.func22 Try.ntmps22 rfl (by kernel_rfl) (fun w o m E0 hCX => ?_) (hks := kns_eq (l := [102, 100, 104]) rfl (by decide)); (try dsimp only [Is])
  (repeat (first | (show G _ _ _ _ (WL _ _ _ _ (⟨some _, _, _, _, _, none⟩ :: _)); refine G.w2 ?_ (by first | exact LT.bxA | fail)) | (show GD _ _ _ _ _ _ _ _ _ _ (⟨some _, _, _, _, _, none⟩ :: _); refine GD.w2 ?_ (by first | exact LT.bxA | fail)) | (show G _ _ _ _ (WL _ _ _ _ (⟨some _, .call _, _, _, _, none⟩ :: _)); refine G.cvW (hbs) ?_) | ((repeat (revert hK; revert K)); refine wkT ?_; repeat intro K hK) | refine wkg ?_))
  refine G.ren (al' := [(4, .d (.s (.int .i64 (fndV l b).1))), (5, .d (.s (.bool (fndV l b).2)))]) (bs' := dvB bs l q) [(102, 102), (100, 100), (104, 104)] ?_ (by repeat (first | exact trivial | refine ⟨⟨rfl, rfl⟩, ?_⟩)) (by repeat (first | exact trivial | refine ⟨⟨rfl, rfl, rfl⟩, ?_⟩ | refine ⟨⟨rfl, by rw [renL_d]; rfl, kbL_d _ _⟩, ?_⟩ | refine ⟨rfl, ?_⟩)) (by decide) (by rfl)
  unfold dvB
  refine G.finB2 rfl rfl rfl (by rfl) (by first | ((repeat (first | exact trivial | refine ⟨.inl rfl, ?_⟩ | refine ⟨.inr rfl, ?_⟩)); done) | fail) (by first | exact Is.cl (hcl _) | exact Is.cl6 (hcl _) | ((repeat (first | exact trivial | refine ⟨ClE.some rfl, ?_⟩ | (with_reducible refine ClB.d ?_) | (with_reducible refine ⟨ClE.some (numsL_d _ _), ?_⟩) | refine ⟨ClE.none, ?_⟩)); done) | fail) (by rfl)
theorem ins0_K (c : CV) : FnB Try.prog CT 23 [.o 103 0, .d (.s (.int .i64 0)), .d (.l [c.row])] [(103, some (64, (chR []).flatten.map .d))] (.o 103 1) [(103, some (64, (chR [c]).flatten.map .d))] := by
  refine FnB.of (ks := []) CT.c Try.func23 Try.ntmps23 rfl (by kernel_rfl) (fun w o m E0 hCX => ?_) (hks := kns_eq (l := [103]) rfl (by decide)); (try dsimp only [Is])
  (repeat (first | (show G _ _ _ _ (WL _ _ _ _ (⟨some _, .slice _ _ _ _ _, _, _, _, none⟩ :: _)); refine G.w1 ?_ (by first | exact LT.rd (Rd.slA 0 0) rfl | fail)) | (show G _ _ _ _ (WL _ _ _ _ (⟨some _, .slice _ _ _ _ _, _, _, _, some _⟩ :: _)); refine G.gC ?_ (by first | (refine gi ?_; intros; exact LT.rd (Rd.slA 0 0) rfl) | fail) rfl rfl) | (show GD _ _ _ _ _ _ _ _ _ _ (⟨some _, .slice _ _ _ _ _, _, _, _, none⟩ :: _); refine GD.w1 ?_ (by first | exact LT.rd (Rd.slA 0 0) rfl | fail)) | (show GD _ _ _ _ _ _ _ _ _ _ (⟨some _, .slice _ _ _ _ _, _, _, _, some _⟩ :: _); refine GD.gC ?_ (by first | (refine gi ?_; intros; exact LT.rd (Rd.slA 0 0) rfl) | fail) rfl rfl) | ((repeat (revert hK; revert K)); refine wk ?_; repeat intro K hK) | refine wkg ?_))
  refine G.ren (al' := [(6, .o 103 1)]) (bs' := [(103, some (64, (chR [c]).flatten.map .d))]) [(103, 1)] ?_ (by repeat (first | exact trivial | refine ⟨⟨rfl, rfl⟩, ?_⟩)) (by repeat (first | exact trivial | refine ⟨⟨rfl, rfl, rfl⟩, ?_⟩ | refine ⟨⟨rfl, by rw [renL_d]; rfl, kbL_d _ _⟩, ?_⟩ | refine ⟨rfl, ?_⟩)) (by decide) (by rfl)
  refine G.finB1 rfl rfl (by rfl) (by first | ((repeat (first | exact trivial | refine ⟨.inl rfl, ?_⟩ | refine ⟨.inr rfl, ?_⟩)); done) | fail) (by first | exact Is.cl (hcl _) | exact Is.cl6 (hcl _) | ((repeat (first | exact trivial | refine ⟨ClE.some rfl, ?_⟩ | (with_reducible refine ClB.d ?_) | (with_reducible refine ⟨ClE.some (numsL_d _ _), ?_⟩) | refine ⟨ClE.none, ?_⟩)); done) | fail) (by rfl)
theorem ins0_O (ch : List CV) (h0 : ch = []) (c : CV) : FnB Try.prog CT 23 [.o 103 (chR ch).length, .d (.s (.int .i64 0)), .d (.l [c.row])] [(103, some (64, (chR ch).flatten.map .d))] (.o 103 1) [(103, some (64, (chR [c]).flatten.map .d))] := by
  subst h0
  exact ins0_K c
/-- A device whose last request is gone; ok carries it out. -/
def cmpC (l : List CV) (x : QV) : List CV := [⟨x.b, x.p⟩]
def flsB (bs : List (List Int)) (l : List CV) : List (List Int) := l.foldl (fun bs c => bs.set c.b.toNat c.p) bs
def cmpV (d : DV) (l : List QV) (x : QV) (ok : Bool) : DV := if ok then (if x.k = 2 then { d with q := l, ch := cmpC d.ch x } else { d with q := l, bs := flsB d.bs d.ch, ch := [] }) else { d with q := l }
theorem flsB_len (bs : List (List Int)) (l : List CV) : (flsB bs l).length = bs.length := by
  unfold flsB
  induction l generalizing bs with
  | nil => rfl
  | cons c l ih => rw [List.foldl_cons, ih, List.length_set]
theorem flsB_s (bs : List (List Int)) (l : List CV) (i : Nat) (h : i < l.length) : flsB bs (l.take (i + 1)) = (flsB bs (l.take i)).set l[i].b.toNat l[i].p := by
  unfold flsB
  rw [List.take_succ_eq_append_getElem h, List.foldl_append]
  rfl
theorem DV.ok.ch_pos {d : DV} (h : d.ok) (i : Nat) (hi : i < d.ch.length) : 0 ≤ d.ch[i].b := by
  have key : ∀ i, i ≤ d.ch.length → -1 ≤ lastC d.ch i := by
    intro i
    induction i with
    | zero => intro _; exact Int.le_refl _
    | succ n ih =>
      intro hn
      have h1 := ih (by omega)
      have h2 := (h.ch n (by omega)).1
      rw [lastC_s _ _ (by omega)]
      omega
  have h1 := key i (by omega)
  have h2 := (h.ch i hi).1
  omega
theorem bsR_set (l : List (List Int)) (j : Nat) (p : List Int) : bsR (l.set j p) = (bsR l).set j [byD p] := by
  unfold bsR; rw [List.map_set]
def fsI (d : DV) (l : List QV) (x : QV) (i : Nat) : List (Nat × AV) × Bs := ([(95, .d (.s (.int .i64 (i : Int)))), (94, .d (.s (.int .i64 (chR d.ch).length))), (93, .o 100 (chR d.ch).length), (10, .p 6 0), (11, .p 8 0), (6, .p 1 0), (7, .p 2 0)], [(6, some (33, [.d (.s (.int .i64 d.dep)), .d (.s (.int .i64 d.nxt)), .o 102 (bsR (flsB d.bs (d.ch.take i))).length, .o 100 (chR d.ch).length, .o 105 (qR l).length])), (8, some (43, x.row.map .d)), (1, some (33, zDev.map .d)), (2, some (43, zRq.map .d)), (102, some (25, (bsR (flsB d.bs (d.ch.take i))).flatten.map .d)), (100, some (64, (chR d.ch).flatten.map .d)), (105, some (43, (qR l).flatten.map .d))])
set_option maxHeartbeats 2000000 in
theorem cmp_F (d : DV) (h : d.ok) (l : List QV) (x : QV) (hq : d.q = l ++ [x]) (ok : Bool) (hch : d.ch.length ≤ 1) (hx : x.k = 2 → ∀ c ∈ d.ch, c.b = x.b) (hbn : d.bs.length ≤ 100) : Fn Try.prog 9 [.st d.row, .s (.int .i64 l.length), .s (.bool ok)] (· = .tup [.st (cmpV d l x ok).row, .st x.row, .s (.int .i64 0)]) := by
  have hc := dcheck_F _ h
  have hcl := FnB.v0 (clone_O _ h.sm)
  have hdep := h.dep
  have hnq := h.nq
  have hlen : d.q.length = l.length + 1 := by rw [hq]; simp
  have hdel := FnB.v0 (del_O l x (by omega))
  rw [← hq] at hdel
  have hl3 : ((qR d.q).length : Int) = l.length + 1 := by rw [qR_len, hlen]; rfl
  have hj : l.length < (qR d.q).length := by rw [qR_len, hlen]; omega
  have hr : (qR d.q)[l.length]? = some x.row := by rw [qR_get _ _ (by omega)]; simp [hq]
  have hrw := qR_row d.q
  have h1 : decide ((l.length : Int) < 0) = false := by simp
  have h2 : decide (((qR d.q).length : Int) ≤ (l.length : Int)) = false := by rw [hl3, decide_eq_false_iff_not]; omega
  have hxo : x.ok d.bs.length := by
    have := (h.q l.length (by omega)).1
    simpa [hq] using this
  refine Fn.of Try.func9 Try.ntmps9 rfl (by kernel_rfl) (fun w o => ?_)
  (repeat (first | refine GD.ctW (hc) ?_ | refine G.cW (hc) ?_ | refine G.cgW (hc) ?_ | refine GD.cW (hc) ?_ | refine GD.cgW (hc) ?_ | (show G _ _ _ _ (WL _ _ _ _ (⟨some _, .indexAddr _ _ _, _, _, _, none⟩ :: _)); refine G.w1 ?_ (by first | exact LT.rd (Rd.ixov l.length (hj)) rfl | fail)) | (show G _ _ _ _ (WL _ _ _ _ (⟨some _, .indexAddr _ _ _, _, _, _, some _⟩ :: _)); refine G.gC ?_ (by first | (refine gi ?_; intros; exact LT.rd (Rd.ixov l.length (hj)) rfl) | fail) rfl rfl) | (show GD _ _ _ _ _ _ _ _ _ _ (⟨some _, .indexAddr _ _ _, _, _, _, none⟩ :: _); refine GD.w1 ?_ (by first | exact LT.rd (Rd.ixov l.length (hj)) rfl | fail)) | (show GD _ _ _ _ _ _ _ _ _ _ (⟨some _, .indexAddr _ _ _, _, _, _, some _⟩ :: _); refine GD.gC ?_ (by first | (refine gi ?_; intros; exact LT.rd (Rd.ixov l.length (hj)) rfl) | fail) rfl rfl) | (show G _ _ _ _ (WL _ _ _ _ (⟨some _, .load _ _, _, _, _, none⟩ :: _)); refine G.w1 ?_ (by first | exact LT.rd (Rd.ldR l.length (hr) (hrw)) rfl | fail)) | (show G _ _ _ _ (WL _ _ _ _ (⟨some _, .load _ _, _, _, _, some _⟩ :: _)); refine G.gC ?_ (by first | (refine gi ?_; intros; exact LT.rd (Rd.ldR l.length (hr) (hrw)) rfl) | fail) rfl rfl) | (show GD _ _ _ _ _ _ _ _ _ _ (⟨some _, .load _ _, _, _, _, none⟩ :: _); refine GD.w1 ?_ (by first | exact LT.rd (Rd.ldR l.length (hr) (hrw)) rfl | fail)) | (show GD _ _ _ _ _ _ _ _ _ _ (⟨some _, .load _ _, _, _, _, some _⟩ :: _); refine GD.gC ?_ (by first | (refine gi ?_; intros; exact LT.rd (Rd.ldR l.length (hr) (hrw)) rfl) | fail) rfl rfl) | (show G _ _ _ _ (WL _ _ _ _ (⟨some _, .call _, _, _, _, none⟩ :: _)); refine G.cvW (hcl) ?_) | ((repeat (revert hK; revert K)); refine wkG ?_; repeat intro K hK) | refine wkg ?_))
  refine G.anyAt 6 4 ?_
  refine G.ren (al' := [(46, .d (.s (.int .i64 ((l.length : Int) + 1)))), (44, .d (.s (.int .i64 l.length))), (43, .o 105 (qR d.q).length), (10, .p 6 0), (11, .p 8 0), (6, .p 1 0), (7, .p 2 0), (2, .d (.s (.bool ok)))]) (bs' := [(6, some (33, [.d (.s (.int .i64 d.dep)), .d (.s (.int .i64 d.nxt)), .o 102 (bsR d.bs).length, .o 100 (chR d.ch).length, .any])), (8, some (43, x.row.map .d)), (1, some (33, zDev.map .d)), (2, some (43, zRq.map .d)), (102, some (25, (bsR d.bs).flatten.map .d)), (100, some (64, (chR d.ch).flatten.map .d)), (105, some (43, (qR d.q).flatten.map .d))]) [(6, 6), (8, 8), (1, 1), (2, 2), (102, 101), (100, 103), (105, 105)] ?_ (by repeat (first | exact trivial | refine ⟨⟨rfl, rfl⟩, ?_⟩)) (by repeat (first | exact trivial | refine ⟨⟨rfl, rfl, rfl⟩, ?_⟩ | refine ⟨⟨rfl, by rw [renL_d]; rfl, kbL_d _ _⟩, ?_⟩ | refine ⟨rfl, ?_⟩)) (by decide) (by rfl)
  cases ok
  · rw [show cmpV d l x false = { d with q := l } from rfl]
    (repeat (first | (show G _ _ _ _ (WL _ _ _ _ (⟨some _, .call _, _, _, _, none⟩ :: _)); refine G.cvW (hdel) ?_) | ((repeat (revert hK; revert K)); refine wkG ?_; repeat intro K hK) | refine wkg ?_))
    refine G.frzAt (T := 25) 1 2 102 ?_ (by rfl) (bsR_row _) rfl
    refine G.frzAt (T := 64) 1 3 100 ?_ (by rfl) (chR_row _) rfl
    refine G.frzAt (T := 43) 1 4 105 ?_ (by rfl) (qR_row _) rfl
    refine G.fin3 (by first | exact rvOk.tmp | exact rvOk.cellS | exact rvOk.cell1 | fail) (by first | exact rvOk.tmp | exact rvOk.cellS | exact rvOk.cell1 | fail) (by first | exact rvOk.tmp | exact rvOk.cellS | exact rvOk.cell1 | fail) rfl ?_
    rfl
  · by_cases hk : x.k = 2
    · have hb1 : (x.k == 1) = false := by rw [hk]; rfl
      have hb2 : (x.k == 2) = true := by rw [hk]; rfl
      have hp : 0 ≤ x.b ∧ x.b < d.bs.length ∧ x.p.length = 32 := by
        rcases hxo with h | h
        · exact h.2
        · omega
      have hbc := bclone_F x.p (by omega)
      have hfi := FnB.v0 (find_O d.dep d.nxt d.bs d.ch l x.b hch (fun c hc => by rw [hx hk c hc]; omega) (by omega))
      (repeat (first | refine GD.ctW (hbc) ?_ | refine G.cW (hbc) ?_ | refine G.cgW (hbc) ?_ | refine GD.cW (hbc) ?_ | refine GD.cgW (hbc) ?_ | (show G _ _ _ _ (WL _ _ _ _ (⟨some _, .call _, _, _, _, none⟩ :: _)); refine G.cvW (hdel) ?_) | ((repeat (revert hK; revert K)); refine wkG ?_; repeat intro K hK) | refine wkg ?_))
      refine G.ren (al' := [(73, .d (.s (.int .i64 x.b))), (71, .st [.d (.s (.int .i64 d.dep)), .d (.s (.int .i64 d.nxt)), .o 102 (bsR d.bs).length, .o 100 (chR d.ch).length, .o 104 (qR l).length]), (10, .p 6 0), (11, .p 8 0), (12, .p 9 0), (6, .p 1 0), (7, .p 2 0)]) (bs' := [(6, some (33, [.d (.s (.int .i64 d.dep)), .d (.s (.int .i64 d.nxt)), .o 102 (bsR d.bs).length, .o 100 (chR d.ch).length, .o 104 (qR l).length])), (8, some (43, x.row.map .d)), (1, some (33, zDev.map .d)), (2, some (43, zRq.map .d)), (102, some (25, (bsR d.bs).flatten.map .d)), (100, some (64, (chR d.ch).flatten.map .d)), (104, some (43, (qR l).flatten.map .d)), (9, some (64, (⟨x.b, x.p⟩ : CV).row.map .d))]) [(6, 6), (8, 8), (1, 1), (2, 2), (102, 102), (100, 100), (104, 105), (9, 9)] ?_ (by repeat (first | exact trivial | refine ⟨⟨rfl, rfl⟩, ?_⟩)) (by repeat (first | exact trivial | refine ⟨⟨rfl, rfl, rfl⟩, ?_⟩ | refine ⟨⟨rfl, by rw [renL_d]; rfl, kbL_d _ _⟩, ?_⟩ | refine ⟨rfl, ?_⟩)) (by decide) (by rfl)
      by_cases h0 : d.ch = []
      · have e : fndV d.ch x.b = (0, false) := by rw [h0]; rfl
        rw [e] at hfi
        have hins := FnB.v0 (ins0_O d.ch h0 ⟨x.b, x.p⟩)
        unfold dvB at hfi
        (repeat (first | (show G _ _ _ _ (WL _ _ _ _ (⟨some _, .call _, _, _, _, none⟩ :: _)); refine G.cvW (hfi) ?_) | ((repeat (revert hK; revert K)); refine wkG ?_; repeat intro K hK) | refine wkg ?_))
        refine G.anyAt 6 3 ?_
        refine G.ren (al' := [(84, .o 103 (chR d.ch).length), (85, .d (.s (.int .i64 0))), (87, .d (.l [(⟨x.b, x.p⟩ : CV).row])), (10, .p 6 0), (11, .p 8 0), (6, .p 1 0), (7, .p 2 0)]) (bs' := [(6, some (33, [.d (.s (.int .i64 d.dep)), .d (.s (.int .i64 d.nxt)), .o 102 (bsR d.bs).length, .any, .o 104 (qR l).length])), (8, some (43, x.row.map .d)), (1, some (33, zDev.map .d)), (2, some (43, zRq.map .d)), (102, some (25, (bsR d.bs).flatten.map .d)), (103, some (64, (chR d.ch).flatten.map .d)), (104, some (43, (qR l).flatten.map .d))]) [(6, 6), (8, 8), (1, 1), (2, 2), (102, 102), (103, 100), (104, 104)] ?_ (by repeat (first | exact trivial | refine ⟨⟨rfl, rfl⟩, ?_⟩)) (by repeat (first | exact trivial | refine ⟨⟨rfl, rfl, rfl⟩, ?_⟩ | refine ⟨⟨rfl, by rw [renL_d]; rfl, kbL_d _ _⟩, ?_⟩ | refine ⟨rfl, ?_⟩)) (by decide) (by rfl)
        (repeat (first | (show G _ _ _ _ (WL _ _ _ _ (⟨some _, .call _, _, _, _, none⟩ :: _)); refine G.cvW (hins) ?_) | ((repeat (revert hK; revert K)); refine wkG ?_; repeat intro K hK) | refine wkg ?_))
        refine G.frzAt (T := 25) 1 2 102 ?_ (by rfl) (bsR_row _) rfl
        refine G.frzAt (T := 64) (rows := chR [⟨x.b, x.p⟩]) 1 3 103 ?_ (by rfl) (chR_row _) rfl
        refine G.frzAt (T := 43) 1 4 104 ?_ (by rfl) (qR_row _) rfl
        refine G.fin3 (by first | exact rvOk.tmp | exact rvOk.cellS | exact rvOk.cell1 | fail) (by first | exact rvOk.tmp | exact rvOk.cellS | exact rvOk.cell1 | fail) (by first | exact rvOk.tmp | exact rvOk.cellS | exact rvOk.cell1 | fail) rfl ?_
        unfold cmpV cmpC
        simp only [hk, if_true]
        rfl
      · obtain ⟨c, hc1⟩ : ∃ c, d.ch = [c] := by
          match hd : d.ch, h0, hch with
          | [], h0, _ => exact absurd rfl h0
          | [c], _, _ => exact ⟨c, rfl⟩
          | _ :: _ :: _, _, h => simp at h
        have hcb : c.b = x.b := hx hk c (by rw [hc1]; exact List.mem_cons_self ..)
        have e : fndV d.ch x.b = (0, true) := by rw [hc1]; dsimp only [fndV]; rw [hcb, if_neg (by omega)]; simp
        rw [e] at hfi
        have hj0 : 0 < (chR d.ch).length := by rw [hc1]; exact Nat.zero_lt_one
        have hcr := chR_row d.ch
        unfold dvB at hfi
        (repeat (first | (show G _ _ _ _ (WL _ _ _ _ (⟨some _, .indexAddr _ _ _, _, _, _, none⟩ :: _)); refine G.w1 ?_ (by first | exact LT.rd (Rd.ixov 0 (hj0)) rfl | fail)) | (show G _ _ _ _ (WL _ _ _ _ (⟨some _, .indexAddr _ _ _, _, _, _, some _⟩ :: _)); refine G.gC ?_ (by first | (refine gi ?_; intros; exact LT.rd (Rd.ixov 0 (hj0)) rfl) | fail) rfl rfl) | (show GD _ _ _ _ _ _ _ _ _ _ (⟨some _, .indexAddr _ _ _, _, _, _, none⟩ :: _); refine GD.w1 ?_ (by first | exact LT.rd (Rd.ixov 0 (hj0)) rfl | fail)) | (show GD _ _ _ _ _ _ _ _ _ _ (⟨some _, .indexAddr _ _ _, _, _, _, some _⟩ :: _); refine GD.gC ?_ (by first | (refine gi ?_; intros; exact LT.rd (Rd.ixov 0 (hj0)) rfl) | fail) rfl rfl) | (show G _ _ _ _ (WL _ _ _ _ (⟨none, .store _ _ _, _, _, _, none⟩ :: _)); refine G.w0 ?_ (by first | exact LT.stRv 0 (hcr) (hj0) | fail)) | (show GD _ _ _ _ _ _ _ _ _ _ (⟨none, .store _ _ _, _, _, _, none⟩ :: _); refine GD.w0 ?_ (by first | exact LT.stRv 0 (hcr) (hj0) | fail)) | (show G _ _ _ _ (WL _ _ _ _ (⟨some _, .call _, _, _, _, none⟩ :: _)); refine G.cvW (hfi) ?_) | ((repeat (revert hK; revert K)); refine wkG ?_; repeat intro K hK) | refine wkg ?_))
        refine G.frzAt (T := 25) 1 2 102 ?_ (by rfl) (bsR_row _) rfl
        refine G.frzAt (T := 64) (rows := (chR d.ch).set 0 (⟨x.b, x.p⟩ : CV).row) (k := (chR d.ch).length) 1 3 100 ?_ (by rfl) (by rw [hc1]; exact chR_row [⟨x.b, x.p⟩]) (by simp)
        refine G.frzAt (T := 43) 1 4 104 ?_ (by rfl) (qR_row _) rfl
        refine G.fin3 (by first | exact rvOk.tmp | exact rvOk.cellS | exact rvOk.cell1 | fail) (by first | exact rvOk.tmp | exact rvOk.cellS | exact rvOk.cell1 | fail) (by first | exact rvOk.tmp | exact rvOk.cellS | exact rvOk.cell1 | fail) rfl ?_
        unfold cmpV cmpC
        simp only [hk, if_true, hc1]
        rfl
    · have hb1 : (x.k == 1) = false := by rcases hxo with h | h <;> (rw [h.1]; rfl)
      have hk3 : x.k = 3 := by
        rcases hxo with h | h
        · exact absurd h.1 hk
        · exact h.1
      have hb2 : (x.k == 2) = false := by rw [hk3]; rfl
      have hb3 : (x.k == 3) = true := by rw [hk3]; rfl
      (repeat (first | (show G _ _ _ _ (WL _ _ _ _ (⟨some _, .call _, _, _, _, none⟩ :: _)); refine G.cvW (hdel) ?_) | ((repeat (revert hK; revert K)); refine wkG ?_; repeat intro K hK) | refine wkg ?_))
      have hlc : ((chR d.ch).length : Int) = d.ch.length := by rw [chR_len]
      refine G.loop (fsI d l x) (fun i => i ≤ d.ch.length) (fun i => d.ch.length - i) ?_ ?_
      · exact G.at 0 [(6, 6), (8, 8), (1, 1), (2, 2), (102, 102), (100, 100), (105, 105)] (Nat.zero_le _) (by repeat (first | exact trivial | refine ⟨⟨rfl, rfl⟩, ?_⟩)) (by repeat (first | exact trivial | refine ⟨⟨rfl, rfl, rfl⟩, ?_⟩ | refine ⟨⟨rfl, by rw [renL_d]; rfl, kbL_d _ _⟩, ?_⟩ | refine ⟨rfl, ?_⟩)) (by decide)
      · intro i hi
        dsimp only [fsI]
        by_cases hil : i < d.ch.length
        · have hjc : i < (chR d.ch).length := by rw [chR_len]; exact hil
          have hcr := chR_row d.ch
          have hci := chR_get d.ch i hil
          have hcc := h.ch i hil
          have hpos := h.ch_pos i hil
          have hbl : (flsB d.bs (d.ch.take i)).length = d.bs.length := flsB_len _ _
          have hjb : d.ch[i].b.toNat < (bsR (flsB d.bs (d.ch.take i))).length := by rw [bsR_len, hbl]; omega
          have hbr := bsR_row (flsB d.bs (d.ch.take i))
          have hbg := bsR_get (flsB d.bs (d.ch.take i)) d.ch[i].b.toNat (by rw [hbl]; omega)
          have hjb2 : d.ch[i].b = (d.ch[i].b.toNat : Int) := by omega
          (repeat (first | (show G _ _ _ _ (WL _ _ _ _ (⟨some _, .indexAddr _ _ _, _, _, _, none⟩ :: _)); refine G.w1 ?_ (by first | exact LT.rd (Rd.ixov i (hjc)) rfl | fail)) | (show G _ _ _ _ (WL _ _ _ _ (⟨some _, .indexAddr _ _ _, _, _, _, some _⟩ :: _)); refine G.gC ?_ (by first | (refine gi ?_; intros; exact LT.rd (Rd.ixov i (hjc)) rfl) | fail) rfl rfl) | (show GD _ _ _ _ _ _ _ _ _ _ (⟨some _, .indexAddr _ _ _, _, _, _, none⟩ :: _); refine GD.w1 ?_ (by first | exact LT.rd (Rd.ixov i (hjc)) rfl | fail)) | (show GD _ _ _ _ _ _ _ _ _ _ (⟨some _, .indexAddr _ _ _, _, _, _, some _⟩ :: _); refine GD.gC ?_ (by first | (refine gi ?_; intros; exact LT.rd (Rd.ixov i (hjc)) rfl) | fail) rfl rfl) | (show G _ _ _ _ (WL _ _ _ _ (⟨some _, .indexAddr _ _ _, _, _, _, none⟩ :: _)); refine G.w1 ?_ (by first | exact LT.rd (Rd.ixov d.ch[i].b.toNat (hjb)) rfl | fail)) | (show G _ _ _ _ (WL _ _ _ _ (⟨some _, .indexAddr _ _ _, _, _, _, some _⟩ :: _)); refine G.gC ?_ (by first | (refine gi ?_; intros; exact LT.rd (Rd.ixov d.ch[i].b.toNat (hjb)) rfl) | fail) rfl rfl) | (show GD _ _ _ _ _ _ _ _ _ _ (⟨some _, .indexAddr _ _ _, _, _, _, none⟩ :: _); refine GD.w1 ?_ (by first | exact LT.rd (Rd.ixov d.ch[i].b.toNat (hjb)) rfl | fail)) | (show GD _ _ _ _ _ _ _ _ _ _ (⟨some _, .indexAddr _ _ _, _, _, _, some _⟩ :: _); refine GD.gC ?_ (by first | (refine gi ?_; intros; exact LT.rd (Rd.ixov d.ch[i].b.toNat (hjb)) rfl) | fail) rfl rfl) | (show G _ _ _ _ (WL _ _ _ _ (⟨some _, .load _ _, _, _, _, none⟩ :: _)); refine G.w1 ?_ (by first | exact LT.rd (Rd.ldR i (hci) (hcr)) rfl | fail)) | (show G _ _ _ _ (WL _ _ _ _ (⟨some _, .load _ _, _, _, _, some _⟩ :: _)); refine G.gC ?_ (by first | (refine gi ?_; intros; exact LT.rd (Rd.ldR i (hci) (hcr)) rfl) | fail) rfl rfl) | (show GD _ _ _ _ _ _ _ _ _ _ (⟨some _, .load _ _, _, _, _, none⟩ :: _); refine GD.w1 ?_ (by first | exact LT.rd (Rd.ldR i (hci) (hcr)) rfl | fail)) | (show GD _ _ _ _ _ _ _ _ _ _ (⟨some _, .load _ _, _, _, _, some _⟩ :: _); refine GD.gC ?_ (by first | (refine gi ?_; intros; exact LT.rd (Rd.ldR i (hci) (hcr)) rfl) | fail) rfl rfl) | (show G _ _ _ _ (WL _ _ _ _ (⟨none, .store _ _ _, _, _, _, none⟩ :: _)); refine G.w0 ?_ (by first | exact LT.stF d.ch[i].b.toNat 0 (hbg) (hbr) | fail)) | (show GD _ _ _ _ _ _ _ _ _ _ (⟨none, .store _ _ _, _, _, _, none⟩ :: _); refine GD.w0 ?_ (by first | exact LT.stF d.ch[i].b.toNat 0 (hbg) (hbr) | fail)) | ((repeat (revert hK; revert K)); refine wkG ?_; repeat intro K hK) | refine wkg ?_))
          refine G.at (i + 1) [(6, 6), (8, 8), (1, 1), (2, 2), (102, 102), (100, 100), (105, 105)] ⟨by omega, by omega⟩ ?_ ?_ (by decide)
          · exact (by repeat (first | exact trivial | refine ⟨⟨rfl, rfl⟩, ?_⟩))
          · dsimp only [fsI]
            rw [flsB_s _ _ _ hil, bsR_set, List.length_set]
            exact (by repeat (first | exact trivial | refine ⟨⟨rfl, rfl, rfl⟩, ?_⟩ | refine ⟨⟨rfl, by rw [renL_d]; rfl, kbL_d _ _⟩, ?_⟩ | refine ⟨rfl, ?_⟩))
        · have e : i = d.ch.length := by omega
          subst e
          rw [List.take_length]
          (repeat (first | ((repeat (revert hK; revert K)); refine wkG ?_; repeat intro K hK) | refine wkg ?_))
          refine G.leAt 1 3 (.l []) D.le.nil ?_
          refine G.frzAt (T := 25) 1 2 102 ?_ (by rfl) (bsR_row _) rfl
          refine G.frzAt (T := 43) 1 4 105 ?_ (by rfl) (qR_row _) rfl
          refine G.fin3 (by first | exact rvOk.tmp | exact rvOk.cellS | exact rvOk.cell1 | fail) (by first | exact rvOk.tmp | exact rvOk.cellS | exact rvOk.cell1 | fail) (by first | exact rvOk.tmp | exact rvOk.cellS | exact rvOk.cell1 | fail) rfl ?_
          unfold cmpV
          simp only [hk, if_true, if_false]
          rfl

end Go.Proofs.Ytohkigillmlinaa
