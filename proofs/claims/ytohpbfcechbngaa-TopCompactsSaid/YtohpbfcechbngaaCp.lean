/- The law: its small example, the law itself. -/
import Derived.Test.YtohpbfcechbngaaCo
set_option linter.unusedSimpArgs false
set_option linter.unusedVariables false
namespace Go.Proofs.Ytohpbfcechbngaa
open Go.RowKit

def exC : List Int := cellsF [1, 0, 1, 0, 0, 1]
attribute [local irreducible] Wp WL WO fin finB rnd Exit.then Exit.inBlock G GD LT Rd Fn FnB FvB Iter
attribute [local go_sem] iD zD zZ
set_option maxHeartbeats 4000000 in
set_option maxRecDepth 100000 in
theorem bcompacts_F : Fn Try.prog 4 [] (· = .s (.bool true)) := by
  have hc0 : cOk exC := cellsF_ok _ (by decide)
  have hb := bcells_F [1, 0, 1, 0, 0, 1] (by decide) (by decide)
  have hz := bzone_F exC (by decide) (by decide)
  have hcl := clear_F exC (by decide) hc0 0 4 4 rfl (by decide) (by decide) (by decide)
  obtain ⟨g, hg1, hg2, hg3, hg4, hg5⟩ := moved (l := exC) (k := 2) (q := 0) (by decide) (by decide) hc0 (by decide) (by decide) (by decide)
  have hgv : g = [0, 0, 0, 0, 1, 1, 1] := by
    have : appF exC (clrM exC (0 * 2 ^ 2) (0 * 2 ^ 2 + 2 ^ 2)) = some [0, 0, 0, 0, 1, 1, 1] := by decide
    rw [this] at hg1
    exact (Option.some.inj hg1).symm
  have hap := apply_F exC g (by decide) (by decide) hc0 (clrM exC 0 4) hg1 (by decide)
  have hz2 := bzone_F g (by rw [hg2]; decide) (by rw [hg2]; decide)
  have hno : allocOk exC 2 = false := by decide
  have ha1 := alc_F exC (by decide) (by decide) 2 (by decide)
  rw [alcR_no hno] at ha1
  have ha2 := alc_F g (by rw [hg2]; decide) (by rw [hg2]; decide) 2 (by decide)
  rw [alcR_ok hg5] at ha2
  have hhd : hdN g 2 = 0 := by rw [hgv]; decide
  rw [hhd] at ha2
  have hlen : (mvR (clrM exC 0 4)).length = 2 := by decide
  refine Fn.of Try.func4 Try.ntmps4 rfl (by kernel_rfl) (fun w o => ?_)
  (repeat (first | refine G.cW (hb) ?_ | refine G.cgW (hb) ?_ | refine GD.cW (hb) ?_ | refine GD.cgW (hb) ?_ | refine G.cW (hz) ?_ | refine G.cgW (hz) ?_ | refine GD.cW (hz) ?_ | refine GD.cgW (hz) ?_ | refine G.cW (hcl) ?_ | refine G.cgW (hcl) ?_ | refine GD.cW (hcl) ?_ | refine GD.cgW (hcl) ?_ | refine G.cW (hap) ?_ | refine G.cgW (hap) ?_ | refine GD.cW (hap) ?_ | refine GD.cgW (hap) ?_ | refine G.cW (hz2) ?_ | refine G.cgW (hz2) ?_ | refine GD.cW (hz2) ?_ | refine GD.cgW (hz2) ?_ | refine G.cW (ha1) ?_ | refine G.cgW (ha1) ?_ | refine GD.cW (ha1) ?_ | refine GD.cgW (ha1) ?_ | refine G.cW (ha2) ?_ | refine G.cgW (ha2) ?_ | refine GD.cW (ha2) ?_ | refine GD.cgW (ha2) ?_ | ((repeat (revert hK; revert K)); refine wk ?_; repeat intro K hK) | refine wkg ?_))
  refine G.fin1 (by first | exact rvOk.tmp | exact rvOk.cellS | exact rvOk.cell1 | fail) rfl ?_
  rw [hlen]
  rfl
set_option maxHeartbeats 4000000 in
theorem law_compacts (l : List Int) (h0 : ∀ x ∈ l, 0 ≤ x ∧ x < 256) (x : Int) (hx : 0 ≤ x ∧ x < 256) : Fn Try.prog 3 [.l (u8R l), .s (.int .u8 x)] (· = .s (.bool true)) := by
  have hlen : ((u8R l).length : Int) = l.length := by rw [u8R_len]
  by_cases h63 : 63 < l.length
  · have hb : decide ((63 : Int) < ((u8R l).length : Int)) = true := by rw [hlen]; simp; omega
    refine Fn.of Try.func3 Try.ntmps3 rfl (by kernel_rfl) (fun w o => ?_)
    (repeat (first | refine G.cW (bcompacts_F) ?_ | refine G.cgW (bcompacts_F) ?_ | refine GD.cW (bcompacts_F) ?_ | refine GD.cgW (bcompacts_F) ?_ | ((repeat (revert hK; revert K)); refine wk ?_; repeat intro K hK) | refine wkg ?_))
    refine G.fin1 (by first | exact rvOk.tmp | exact rvOk.cellS | exact rvOk.cell1 | fail) rfl ?_
    rfl
  · have hb : decide ((63 : Int) < ((u8R l).length : Int)) = false := by rw [hlen]; simp; omega
    have hbc := bcells_F l (by omega) h0
    have hok := cellsF_ok l (fun x hx => (h0 x hx).1)
    have hcl1 : (cellsF l).length = l.length + 1 := by simp [cellsF]
    generalize cellsF l = c at hbc hok hcl1
    have hc1 : 1 ≤ c.length := by omega
    have hc64 : c.length ≤ 64 := by omega
    obtain ⟨k, hk⟩ : ∃ k : Nat, x % 5 = (k : Int) := ⟨(x % 5).toNat, by omega⟩
    have hk4 : k ≤ 4 := by omega
    have hrem : x.tmod 5 = (k : Int) := by rw [Int.tmod_eq_emod_of_nonneg hx.1]; exact hk
    have hw : IntKind.i64.wrap x = x := by rw [IntKind.wrap_i64]; omega
    have hz : Fn Try.prog 6 [.l (il c)] (· = .tup [.st (zD c.length (lstF c)), .s (.bool true)]) := bzone_F c hc1 hc64
    have hal := alc_F c hc1 hc64 k hk4
    have hft := fits_F c hc64 hok k hk4
    have hfo := fits_ok c hc64 k hk4
    have hps := possible_F c hc64 hok k hk4
    have hk0 : (0 : Int) ≤ (k : Int) := Int.natCast_nonneg _
    have hsh := shl_pow k hk4
    by_cases hp : possF c k < 0
    · have hno := poss_neg c hc64 k hk4 hp
      rw [alcR_no hno] at hal
      rw [hno] at hfo
      have hpb : decide (possF c k < 0) = true := by simpa using hp
      generalize possF c k = p at hps hpb
      generalize blkF (fun c => c == 0) c k = b at hft hfo
      have hcd : (!(((16 : Int) == 0) == decide ((0 : Int) ≤ b))) = false := by rw [hfo]; rfl
      refine Fn.of Try.func3 Try.ntmps3 rfl (by kernel_rfl) (fun w o => ?_)
      (repeat (first | refine G.cW (hbc) ?_ | refine G.cgW (hbc) ?_ | refine GD.cW (hbc) ?_ | refine GD.cgW (hbc) ?_ | refine G.cW (hz) ?_ | refine G.cgW (hz) ?_ | refine GD.cW (hz) ?_ | refine GD.cgW (hz) ?_ | refine G.cW (hal) ?_ | refine G.cgW (hal) ?_ | refine GD.cW (hal) ?_ | refine GD.cgW (hal) ?_ | refine G.cW (hft) ?_ | refine G.cgW (hft) ?_ | refine GD.cW (hft) ?_ | refine GD.cgW (hft) ?_ | refine G.cW (hps) ?_ | refine G.cgW (hps) ?_ | refine GD.cW (hps) ?_ | refine GD.cgW (hps) ?_ | refine G.cW (bcompacts_F) ?_ | refine G.cgW (bcompacts_F) ?_ | refine GD.cW (bcompacts_F) ?_ | refine GD.cgW (bcompacts_F) ?_ | (show G _ _ _ _ (WL _ _ _ _ (⟨some _, .convert _ _ _, _, _, _, none⟩ :: _)); refine G.w1 ?_ (by first | exact LT.cnv x | fail)) | (show G _ _ _ _ (WL _ _ _ _ (⟨some _, .convert _ _ _, _, _, _, some _⟩ :: _)); refine G.gC ?_ (by first | (refine gi ?_; intros; exact LT.cnv x) | fail) rfl rfl) | (show GD _ _ _ _ _ _ _ _ _ _ (⟨some _, .convert _ _ _, _, _, _, none⟩ :: _); refine GD.w1 ?_ (by first | exact LT.cnv x | fail)) | (show GD _ _ _ _ _ _ _ _ _ _ (⟨some _, .convert _ _ _, _, _, _, some _⟩ :: _); refine GD.gC ?_ (by first | (refine gi ?_; intros; exact LT.cnv x) | fail) rfl rfl) | (show G _ _ _ _ (WL _ _ _ _ (⟨some _, .binOp .rem _ _ _ _, _, _, _, none⟩ :: _)); refine G.w1 ?_ (by first | exact LT.remz ((k : Nat) : Int) | fail)) | (show G _ _ _ _ (WL _ _ _ _ (⟨some _, .binOp .rem _ _ _ _, _, _, _, some _⟩ :: _)); refine G.gC ?_ (by first | (refine gi ?_; intros; exact LT.remz ((k : Nat) : Int)) | fail) rfl rfl) | (show GD _ _ _ _ _ _ _ _ _ _ (⟨some _, .binOp .rem _ _ _ _, _, _, _, none⟩ :: _); refine GD.w1 ?_ (by first | exact LT.remz ((k : Nat) : Int) | fail)) | (show GD _ _ _ _ _ _ _ _ _ _ (⟨some _, .binOp .rem _ _ _ _, _, _, _, some _⟩ :: _); refine GD.gC ?_ (by first | (refine gi ?_; intros; exact LT.remz ((k : Nat) : Int)) | fail) rfl rfl) | ((repeat (revert hK; revert K)); refine wk ?_; repeat intro K hK) | refine wkg ?_))
      refine G.fin1 (by first | exact rvOk.tmp | exact rvOk.cellS | exact rvOk.cell1 | fail) rfl ?_
      rfl
    · obtain ⟨q, hq1, hq2, hq3, hq4⟩ := poss_at hp
      have hpb : decide (((q * 2 ^ k : Nat) : Int) < 0) = false := decide_eq_false (Int.not_lt.2 (Int.natCast_nonneg _))
      obtain ⟨g, hg1, hg2, hg3, hg4, hg5⟩ := moved hc64 hk4 hok hq2 hq3 hq4
      have hclr := clear_F c hc64 hok (q * 2 ^ k) (2 ^ k) (q * 2 ^ k + 2 ^ k) rfl (by rw [Nat.add_mul] at hq2; omega) (fun i hi h1 h2 h3 => by
        have h4 := (okB_iff hq2).1 hq3 i hi (by
          have : 0 < 2 ^ k := Nat.pow_pos (by decide)
          rw [Nat.div_eq_iff this]
          rw [Nat.mul_comm] at h1 h2
          constructor
          · rw [Nat.mul_comm]; exact h1
          · rw [Nat.mul_comm]; omega)
        rw [h3] at h4; cases h4) (fit_of hok hq2 hq3 hq4)
      have hml : (clrM c (q * 2 ^ k) (q * 2 ^ k + 2 ^ k)).length ≤ 64 := by
        have h4 : (frU c (q * 2 ^ k) (q * 2 ^ k + 2 ^ k) c.length).length ≤ (List.range c.length).length := List.length_filter_le _ _
        rw [List.length_range] at h4
        unfold clrM
        rw [List.length_zip]
        omega
      have hap := apply_F c g hc64 (fun e => by rw [e] at hc1; simp at hc1) hok _ hg1 hml
      have hzg : Fn Try.prog 6 [.l (il g)] (· = .tup [.st (zD g.length (lstF g)), .s (.bool true)]) := bzone_F g (by omega) (by omega)
      have hag := alc_F g (by omega) (by omega) k hk4
      rw [alcR_ok hg5] at hag
      have hct := count_F c.length hc1 hc64 (lstF c) (lst_zok c hc64)
      have hcg := count_F g.length (by omega) (by omega) (lstF g) (lst_zok g (by omega))
      rw [hg4] at hcg
      rw [hq1] at hps
      generalize clrM c (q * 2 ^ k) (q * 2 ^ k + 2 ^ k) = ms at hclr hap
      cases hao : allocOk c k with
      | true =>
        rw [alcR_ok hao] at hal
        rw [hao] at hfo
        generalize blkF (fun c => c == 0) c k = b at hft hfo
        have hcd : (!(((0 : Int) == 0) == decide ((0 : Int) ≤ b))) = false := by rw [hfo]; rfl
        refine Fn.of Try.func3 Try.ntmps3 rfl (by kernel_rfl) (fun w o => ?_)
        (repeat (first | refine G.cW (hbc) ?_ | refine G.cgW (hbc) ?_ | refine GD.cW (hbc) ?_ | refine GD.cgW (hbc) ?_ | refine G.cW (hz) ?_ | refine G.cgW (hz) ?_ | refine GD.cW (hz) ?_ | refine GD.cgW (hz) ?_ | refine G.cW (hal) ?_ | refine G.cgW (hal) ?_ | refine GD.cW (hal) ?_ | refine GD.cgW (hal) ?_ | refine G.cW (hft) ?_ | refine G.cgW (hft) ?_ | refine GD.cW (hft) ?_ | refine GD.cgW (hft) ?_ | refine G.cW (hps) ?_ | refine G.cgW (hps) ?_ | refine GD.cW (hps) ?_ | refine GD.cgW (hps) ?_ | refine G.cW (hclr) ?_ | refine G.cgW (hclr) ?_ | refine GD.cW (hclr) ?_ | refine GD.cgW (hclr) ?_ | refine G.cW (hap) ?_ | refine G.cgW (hap) ?_ | refine GD.cW (hap) ?_ | refine GD.cgW (hap) ?_ | refine G.cW (hzg) ?_ | refine G.cgW (hzg) ?_ | refine GD.cW (hzg) ?_ | refine GD.cgW (hzg) ?_ | refine G.cW (hag) ?_ | refine G.cgW (hag) ?_ | refine GD.cW (hag) ?_ | refine GD.cgW (hag) ?_ | refine G.cW (hcg) ?_ | refine G.cgW (hcg) ?_ | refine GD.cW (hcg) ?_ | refine GD.cgW (hcg) ?_ | refine G.cW (hct) ?_ | refine G.cgW (hct) ?_ | refine GD.cW (hct) ?_ | refine GD.cgW (hct) ?_ | refine G.cW (bcompacts_F) ?_ | refine G.cgW (bcompacts_F) ?_ | refine GD.cW (bcompacts_F) ?_ | refine GD.cgW (bcompacts_F) ?_ | (show G _ _ _ _ (WL _ _ _ _ (⟨some _, .convert _ _ _, _, _, _, none⟩ :: _)); refine G.w1 ?_ (by first | exact LT.cnv x | fail)) | (show G _ _ _ _ (WL _ _ _ _ (⟨some _, .convert _ _ _, _, _, _, some _⟩ :: _)); refine G.gC ?_ (by first | (refine gi ?_; intros; exact LT.cnv x) | fail) rfl rfl) | (show GD _ _ _ _ _ _ _ _ _ _ (⟨some _, .convert _ _ _, _, _, _, none⟩ :: _); refine GD.w1 ?_ (by first | exact LT.cnv x | fail)) | (show GD _ _ _ _ _ _ _ _ _ _ (⟨some _, .convert _ _ _, _, _, _, some _⟩ :: _); refine GD.gC ?_ (by first | (refine gi ?_; intros; exact LT.cnv x) | fail) rfl rfl) | (show G _ _ _ _ (WL _ _ _ _ (⟨some _, .binOp .rem _ _ _ _, _, _, _, none⟩ :: _)); refine G.w1 ?_ (by first | exact LT.remz ((k : Nat) : Int) | fail)) | (show G _ _ _ _ (WL _ _ _ _ (⟨some _, .binOp .rem _ _ _ _, _, _, _, some _⟩ :: _)); refine G.gC ?_ (by first | (refine gi ?_; intros; exact LT.remz ((k : Nat) : Int)) | fail) rfl rfl) | (show GD _ _ _ _ _ _ _ _ _ _ (⟨some _, .binOp .rem _ _ _ _, _, _, _, none⟩ :: _); refine GD.w1 ?_ (by first | exact LT.remz ((k : Nat) : Int) | fail)) | (show GD _ _ _ _ _ _ _ _ _ _ (⟨some _, .binOp .rem _ _ _ _, _, _, _, some _⟩ :: _); refine GD.gC ?_ (by first | (refine gi ?_; intros; exact LT.remz ((k : Nat) : Int)) | fail) rfl rfl) | (show G _ _ _ _ (WL _ _ _ _ (⟨some _, .binOp .shl _ _ _ _, _, _, _, none⟩ :: _)); refine G.w1 ?_ (by first | exact LT.shl ((2 ^ k : Nat) : Int) | fail)) | (show G _ _ _ _ (WL _ _ _ _ (⟨some _, .binOp .shl _ _ _ _, _, _, _, some _⟩ :: _)); refine G.gC ?_ (by first | (refine gi ?_; intros; exact LT.shl ((2 ^ k : Nat) : Int)) | fail) rfl rfl) | (show GD _ _ _ _ _ _ _ _ _ _ (⟨some _, .binOp .shl _ _ _ _, _, _, _, none⟩ :: _); refine GD.w1 ?_ (by first | exact LT.shl ((2 ^ k : Nat) : Int) | fail)) | (show GD _ _ _ _ _ _ _ _ _ _ (⟨some _, .binOp .shl _ _ _ _, _, _, _, some _⟩ :: _); refine GD.gC ?_ (by first | (refine gi ?_; intros; exact LT.shl ((2 ^ k : Nat) : Int)) | fail) rfl rfl) | ((repeat (revert hK; revert K)); refine wk ?_; repeat intro K hK) | refine wkg ?_))
        refine G.fin1 (by first | exact rvOk.tmp | exact rvOk.cellS | exact rvOk.cell1 | fail) rfl ?_
        simp
      | false =>
        rw [alcR_no hao] at hal
        rw [hao] at hfo
        generalize blkF (fun c => c == 0) c k = b at hft hfo
        have hcd : (!(((16 : Int) == 0) == decide ((0 : Int) ≤ b))) = false := by rw [hfo]; rfl
        refine Fn.of Try.func3 Try.ntmps3 rfl (by kernel_rfl) (fun w o => ?_)
        (repeat (first | refine G.cW (hbc) ?_ | refine G.cgW (hbc) ?_ | refine GD.cW (hbc) ?_ | refine GD.cgW (hbc) ?_ | refine G.cW (hz) ?_ | refine G.cgW (hz) ?_ | refine GD.cW (hz) ?_ | refine GD.cgW (hz) ?_ | refine G.cW (hal) ?_ | refine G.cgW (hal) ?_ | refine GD.cW (hal) ?_ | refine GD.cgW (hal) ?_ | refine G.cW (hft) ?_ | refine G.cgW (hft) ?_ | refine GD.cW (hft) ?_ | refine GD.cgW (hft) ?_ | refine G.cW (hps) ?_ | refine G.cgW (hps) ?_ | refine GD.cW (hps) ?_ | refine GD.cgW (hps) ?_ | refine G.cW (hclr) ?_ | refine G.cgW (hclr) ?_ | refine GD.cW (hclr) ?_ | refine GD.cgW (hclr) ?_ | refine G.cW (hap) ?_ | refine G.cgW (hap) ?_ | refine GD.cW (hap) ?_ | refine GD.cgW (hap) ?_ | refine G.cW (hzg) ?_ | refine G.cgW (hzg) ?_ | refine GD.cW (hzg) ?_ | refine GD.cgW (hzg) ?_ | refine G.cW (hag) ?_ | refine G.cgW (hag) ?_ | refine GD.cW (hag) ?_ | refine GD.cgW (hag) ?_ | refine G.cW (hcg) ?_ | refine G.cgW (hcg) ?_ | refine GD.cW (hcg) ?_ | refine GD.cgW (hcg) ?_ | refine G.cW (hct) ?_ | refine G.cgW (hct) ?_ | refine GD.cW (hct) ?_ | refine GD.cgW (hct) ?_ | refine G.cW (bcompacts_F) ?_ | refine G.cgW (bcompacts_F) ?_ | refine GD.cW (bcompacts_F) ?_ | refine GD.cgW (bcompacts_F) ?_ | (show G _ _ _ _ (WL _ _ _ _ (⟨some _, .convert _ _ _, _, _, _, none⟩ :: _)); refine G.w1 ?_ (by first | exact LT.cnv x | fail)) | (show G _ _ _ _ (WL _ _ _ _ (⟨some _, .convert _ _ _, _, _, _, some _⟩ :: _)); refine G.gC ?_ (by first | (refine gi ?_; intros; exact LT.cnv x) | fail) rfl rfl) | (show GD _ _ _ _ _ _ _ _ _ _ (⟨some _, .convert _ _ _, _, _, _, none⟩ :: _); refine GD.w1 ?_ (by first | exact LT.cnv x | fail)) | (show GD _ _ _ _ _ _ _ _ _ _ (⟨some _, .convert _ _ _, _, _, _, some _⟩ :: _); refine GD.gC ?_ (by first | (refine gi ?_; intros; exact LT.cnv x) | fail) rfl rfl) | (show G _ _ _ _ (WL _ _ _ _ (⟨some _, .binOp .rem _ _ _ _, _, _, _, none⟩ :: _)); refine G.w1 ?_ (by first | exact LT.remz ((k : Nat) : Int) | fail)) | (show G _ _ _ _ (WL _ _ _ _ (⟨some _, .binOp .rem _ _ _ _, _, _, _, some _⟩ :: _)); refine G.gC ?_ (by first | (refine gi ?_; intros; exact LT.remz ((k : Nat) : Int)) | fail) rfl rfl) | (show GD _ _ _ _ _ _ _ _ _ _ (⟨some _, .binOp .rem _ _ _ _, _, _, _, none⟩ :: _); refine GD.w1 ?_ (by first | exact LT.remz ((k : Nat) : Int) | fail)) | (show GD _ _ _ _ _ _ _ _ _ _ (⟨some _, .binOp .rem _ _ _ _, _, _, _, some _⟩ :: _); refine GD.gC ?_ (by first | (refine gi ?_; intros; exact LT.remz ((k : Nat) : Int)) | fail) rfl rfl) | (show G _ _ _ _ (WL _ _ _ _ (⟨some _, .binOp .shl _ _ _ _, _, _, _, none⟩ :: _)); refine G.w1 ?_ (by first | exact LT.shl ((2 ^ k : Nat) : Int) | fail)) | (show G _ _ _ _ (WL _ _ _ _ (⟨some _, .binOp .shl _ _ _ _, _, _, _, some _⟩ :: _)); refine G.gC ?_ (by first | (refine gi ?_; intros; exact LT.shl ((2 ^ k : Nat) : Int)) | fail) rfl rfl) | (show GD _ _ _ _ _ _ _ _ _ _ (⟨some _, .binOp .shl _ _ _ _, _, _, _, none⟩ :: _); refine GD.w1 ?_ (by first | exact LT.shl ((2 ^ k : Nat) : Int) | fail)) | (show GD _ _ _ _ _ _ _ _ _ _ (⟨some _, .binOp .shl _ _ _ _, _, _, _, some _⟩ :: _); refine GD.gC ?_ (by first | (refine gi ?_; intros; exact LT.shl ((2 ^ k : Nat) : Int)) | fail) rfl rfl) | ((repeat (revert hK; revert K)); refine wk ?_; repeat intro K hK) | refine wkg ?_))
        refine G.fin1 (by first | exact rvOk.tmp | exact rvOk.cellS | exact rvOk.cell1 | fail) rfl ?_
        simp

end Go.Proofs.Ytohpbfcechbngaa
