/- Lists of ints that are in order: slices.BinarySearch. -/
import Derived.Test.YtohpbfcechbngaaNa
set_option linter.unusedSimpArgs false
set_option linter.unusedVariables false
namespace Go.Proofs.Ytohpbfcechbngaa
open Go.RowKit

/-- How many are smaller. -/
def lowI (l : List Int) (x : Int) : Nat := l.countP (fun y => decide (y < x))
theorem lowI_of {l : List Int} {x : Int} {m : Nat} (hm : m ≤ l.length) (h1 : ∀ t (h : t < l.length), t < m → l[t] < x) (h2 : ∀ t (h : t < l.length), m ≤ t → x ≤ l[t]) : lowI l x = m := by
  unfold lowI
  rw [← List.take_append_drop m l, List.countP_append]
  have a : (l.take m).countP (fun y => decide (y < x)) = m := by
    rw [List.countP_eq_length.2 (fun y hy => ?_), List.length_take, Nat.min_eq_left hm]
    obtain ⟨t, ht, rfl⟩ := List.mem_iff_getElem.1 hy
    rw [List.length_take] at ht
    rw [List.getElem_take]
    simpa using h1 t (by omega) (by omega)
  have b : (l.drop m).countP (fun y => decide (y < x)) = 0 := by
    rw [List.countP_eq_zero]
    intro y hy
    obtain ⟨t, ht, rfl⟩ := List.mem_iff_getElem.1 hy
    rw [List.length_drop] at ht
    rw [List.getElem_drop]
    have := h2 (m + t) (by omega) (by omega)
    simp
    omega
  rw [a, b, Nat.add_zero]
theorem mem_at {l : List Int} {x : Int} {m : Nat} (h1 : ∀ t (h : t < l.length), t < m → l[t] < x) (h2 : ∀ t (h : t < l.length), m ≤ t → x ≤ l[t]) (hs : l.Pairwise (· < ·)) : x ∈ l ↔ ∃ h : m < l.length, l[m] = x := by
  constructor
  · intro hx
    obtain ⟨t, ht, rfl⟩ := List.mem_iff_getElem.1 hx
    have a : ¬ t < m := fun h => by have := h1 t ht h; omega
    have hm : m < l.length := by omega
    refine ⟨hm, ?_⟩
    have b := h2 m hm (Nat.le_refl _)
    by_cases e : t = m
    · subst e; rfl
    · have := List.pairwise_iff_getElem.1 hs m t hm ht (by omega)
      omega
  · rintro ⟨h, rfl⟩
    exact List.getElem_mem h
attribute [local irreducible] Wp WL WO fin finB rnd Exit.then Exit.inBlock G GD LT Rd Fn FnB FvB Iter
attribute [local go_sem] iD
theorem nanC_F (x : Int) : Fn Try.prog 39 [.s (.int .i64 x)] (· = .s (.bool false)) := by
  refine Fn.of Try.func39 Try.ntmps39 rfl (by kernel_rfl) (fun w o => ?_)
  (repeat (first | ((repeat (revert hK; revert K)); refine wk ?_; repeat intro K hK) | refine wkg ?_))
  refine G.fin1 (by first | exact rvOk.tmp | exact rvOk.cellS | exact rvOk.cell1 | fail) rfl ?_
  simp
theorem nanS_F (x : Int) : Fn Try.prog 32 [.s (.int .i64 x)] (· = .s (.bool false)) := by
  refine Fn.of Try.func32 Try.ntmps32 rfl (by kernel_rfl) (fun w o => ?_)
  (repeat (first | ((repeat (revert hK; revert K)); refine wk ?_; repeat intro K hK) | refine wkg ?_))
  refine G.fin1 (by first | exact rvOk.tmp | exact rvOk.cellS | exact rvOk.cell1 | fail) rfl ?_
  simp
theorem lss_F (x y : Int) : Fn Try.prog 31 [.s (.int .i64 x), .s (.int .i64 y)] (· = .s (.bool (decide (x < y)))) := by
  refine Fn.of Try.func31 Try.ntmps31 rfl (by kernel_rfl) (fun w o => ?_)
  (repeat (first | refine G.cW (nanC_F _) ?_ | refine G.cgW (nanC_F _) ?_ | refine GD.cW (nanC_F _) ?_ | refine GD.cgW (nanC_F _) ?_ | ((repeat (revert hK; revert K)); refine wk ?_; repeat intro K hK) | refine wkg ?_))
  refine G.fin1 (by first | exact rvOk.tmp | exact rvOk.cellS | exact rvOk.cell1 | fail) rfl ?_
  simp
def bsI (l : List Int) (x : Int) (z : Nat × Nat) : List (Nat × AV) × Bs := ([(8, .d (.s (.int .i64 (z.2 : Int)))), (7, .d (.s (.int .i64 (z.1 : Int)))), (6, .d (.s (.int .i64 l.length))), (5, .d (.s (.bool false))), (4, .d (.s (.int .i64 0))), (0, .o 100 (il l).length), (1, .d (.s (.int .i64 x)))], [(100, some (3, (il l).flatten.map .d))])
theorem bs_O (l : List Int) (x : Int) (hl : l.length ≤ 1000) (hs : l.Pairwise (· < ·)) : FnB Try.prog CT 17 [.o 100 (il l).length, .d (.s (.int .i64 x))] [(100, some (3, (il l).flatten.map .d))] (.tup [.d (.s (.int .i64 (lowI l x : Nat))), .d (.s (.bool (decide (x ∈ l))))]) [(100, some (3, (il l).flatten.map .d))] := by
  have hlen : ((il l).length : Int) = l.length := by rw [il_len]
  refine FnB.of (ks := [100]) CT.c Try.func17 Try.ntmps17 rfl (by kernel_rfl) (fun w o m E0 hCX => ?_) (hks := kns_eq (l := [100]) rfl (by decide)); (try dsimp only [Is])
  (repeat (first | ((repeat (revert hK; revert K)); refine wk ?_; repeat intro K hK) | refine wkg ?_))
  refine G.loop (bsI l x) (fun z => z.1 ≤ z.2 ∧ z.2 ≤ l.length ∧ (∀ t (h : t < l.length), t < z.1 → l[t] < x) ∧ (∀ t (h : t < l.length), z.2 ≤ t → x ≤ l[t])) (fun z => z.2 - z.1) ?_ ?_
  · rw [hlen]
    exact G.at (0, l.length) [(100, 100)] ⟨Nat.zero_le _, Nat.le_refl _, fun t h h' => absurd h' (Nat.not_lt_zero _), fun t h h' => by omega⟩ (by repeat (first | exact trivial | refine ⟨⟨rfl, rfl⟩, ?_⟩)) (by repeat (first | exact trivial | refine ⟨⟨rfl, rfl, rfl⟩, ?_⟩ | refine ⟨⟨rfl, by rw [renL_d]; rfl, kbL_d _ _⟩, ?_⟩ | refine ⟨rfl, ?_⟩)) (by decide)
  · rintro ⟨lo, hi⟩ ⟨h1, h2, h3, h4⟩
    dsimp only at h1 h2 h3 h4
    dsimp only [bsI]
    by_cases h : lo < hi
    · have hlt : decide ((lo : Int) < (hi : Int)) = true := by simpa using h
      have hw1 : IntKind.u64.wrap ((lo : Int) + (hi : Int)) = ((lo + hi : Nat) : Int) := by
        rw [IntKind.wrap_u64]; omega
      have hw2 : ((lo + hi : Nat) : Int) / 2 ^ min (1 : Int).toNat IntKind.u64.bits = ((lo + hi) / 2 : Nat) := by
        rw [show (2 : Int) ^ min (1 : Int).toNat IntKind.u64.bits = 2 from by decide]; omega
      have hw3 : IntKind.i64.wrap (((lo + hi) / 2 : Nat) : Int) = (((lo + hi) / 2 : Nat) : Int) := by rw [IntKind.wrap_i64]; omega
      generalize hm : (lo + hi) / 2 = m at hw2 hw3
      have m1 : lo ≤ m := by omega
      have m2 : m < hi := by omega
      have hmn : m < l.length := by omega
      have hj : m < (il l).length := by rw [il_len]; exact hmn
      have hr := il_get l m hmn
      have hrw := il_row l
      have hle := lss_F l[m] x
      by_cases hc : l[m] < x
      · rw [decide_eq_true hc] at hle
        (repeat (first | refine G.cW (hle) ?_ | refine G.cgW (hle) ?_ | refine GD.cW (hle) ?_ | refine GD.cgW (hle) ?_ | (show G _ _ _ _ (WL _ _ _ _ (⟨some _, .convert _ _ _, _, _, _, none⟩ :: _)); refine G.w1 ?_ (by first | exact LT.cnv ((lo + hi : Nat) : Int) | fail)) | (show G _ _ _ _ (WL _ _ _ _ (⟨some _, .convert _ _ _, _, _, _, some _⟩ :: _)); refine G.gC ?_ (by first | (refine gi ?_; intros; exact LT.cnv ((lo + hi : Nat) : Int)) | fail) rfl rfl) | (show GD _ _ _ _ _ _ _ _ _ _ (⟨some _, .convert _ _ _, _, _, _, none⟩ :: _); refine GD.w1 ?_ (by first | exact LT.cnv ((lo + hi : Nat) : Int) | fail)) | (show GD _ _ _ _ _ _ _ _ _ _ (⟨some _, .convert _ _ _, _, _, _, some _⟩ :: _); refine GD.gC ?_ (by first | (refine gi ?_; intros; exact LT.cnv ((lo + hi : Nat) : Int)) | fail) rfl rfl) | (show G _ _ _ _ (WL _ _ _ _ (⟨some _, .convert _ _ _, _, _, _, none⟩ :: _)); refine G.w1 ?_ (by first | exact LT.cnv ((m : Nat) : Int) | fail)) | (show G _ _ _ _ (WL _ _ _ _ (⟨some _, .convert _ _ _, _, _, _, some _⟩ :: _)); refine G.gC ?_ (by first | (refine gi ?_; intros; exact LT.cnv ((m : Nat) : Int)) | fail) rfl rfl) | (show GD _ _ _ _ _ _ _ _ _ _ (⟨some _, .convert _ _ _, _, _, _, none⟩ :: _); refine GD.w1 ?_ (by first | exact LT.cnv ((m : Nat) : Int) | fail)) | (show GD _ _ _ _ _ _ _ _ _ _ (⟨some _, .convert _ _ _, _, _, _, some _⟩ :: _); refine GD.gC ?_ (by first | (refine gi ?_; intros; exact LT.cnv ((m : Nat) : Int)) | fail) rfl rfl) | (show G _ _ _ _ (WL _ _ _ _ (⟨some _, .binOp .shr _ _ _ _, _, _, _, none⟩ :: _)); refine G.w1 ?_ (by first | exact LT.shr ((m : Nat) : Int) | fail)) | (show G _ _ _ _ (WL _ _ _ _ (⟨some _, .binOp .shr _ _ _ _, _, _, _, some _⟩ :: _)); refine G.gC ?_ (by first | (refine gi ?_; intros; exact LT.shr ((m : Nat) : Int)) | fail) rfl rfl) | (show GD _ _ _ _ _ _ _ _ _ _ (⟨some _, .binOp .shr _ _ _ _, _, _, _, none⟩ :: _); refine GD.w1 ?_ (by first | exact LT.shr ((m : Nat) : Int) | fail)) | (show GD _ _ _ _ _ _ _ _ _ _ (⟨some _, .binOp .shr _ _ _ _, _, _, _, some _⟩ :: _); refine GD.gC ?_ (by first | (refine gi ?_; intros; exact LT.shr ((m : Nat) : Int)) | fail) rfl rfl) | (show G _ _ _ _ (WL _ _ _ _ (⟨some _, .indexAddr _ _ _, _, _, _, none⟩ :: _)); refine G.w1 ?_ (by first | exact LT.rd (Rd.ixov m (hj)) rfl | fail)) | (show G _ _ _ _ (WL _ _ _ _ (⟨some _, .indexAddr _ _ _, _, _, _, some _⟩ :: _)); refine G.gC ?_ (by first | (refine gi ?_; intros; exact LT.rd (Rd.ixov m (hj)) rfl) | fail) rfl rfl) | (show GD _ _ _ _ _ _ _ _ _ _ (⟨some _, .indexAddr _ _ _, _, _, _, none⟩ :: _); refine GD.w1 ?_ (by first | exact LT.rd (Rd.ixov m (hj)) rfl | fail)) | (show GD _ _ _ _ _ _ _ _ _ _ (⟨some _, .indexAddr _ _ _, _, _, _, some _⟩ :: _); refine GD.gC ?_ (by first | (refine gi ?_; intros; exact LT.rd (Rd.ixov m (hj)) rfl) | fail) rfl rfl) | (show G _ _ _ _ (WL _ _ _ _ (⟨some _, .load _ _, _, _, _, none⟩ :: _)); refine G.w1 ?_ (by first | exact LT.rd (Rd.ldF m 0 (hr) (hrw)) rfl | fail)) | (show G _ _ _ _ (WL _ _ _ _ (⟨some _, .load _ _, _, _, _, some _⟩ :: _)); refine G.gC ?_ (by first | (refine gi ?_; intros; exact LT.rd (Rd.ldF m 0 (hr) (hrw)) rfl) | fail) rfl rfl) | (show GD _ _ _ _ _ _ _ _ _ _ (⟨some _, .load _ _, _, _, _, none⟩ :: _); refine GD.w1 ?_ (by first | exact LT.rd (Rd.ldF m 0 (hr) (hrw)) rfl | fail)) | (show GD _ _ _ _ _ _ _ _ _ _ (⟨some _, .load _ _, _, _, _, some _⟩ :: _); refine GD.gC ?_ (by first | (refine gi ?_; intros; exact LT.rd (Rd.ldF m 0 (hr) (hrw)) rfl) | fail) rfl rfl) | ((repeat (revert hK; revert K)); refine wk ?_; repeat intro K hK) | refine wkg ?_))
        refine G.at (m + 1, hi) [(100, 100)] ⟨⟨by omega, h2, fun t ht hm' => ?_, h4⟩, by omega⟩ (by repeat (first | exact trivial | refine ⟨⟨rfl, rfl⟩, ?_⟩)) (by repeat (first | exact trivial | refine ⟨⟨rfl, rfl, rfl⟩, ?_⟩ | refine ⟨⟨rfl, by rw [renL_d]; rfl, kbL_d _ _⟩, ?_⟩ | refine ⟨rfl, ?_⟩)) (by decide)
        by_cases e : t = m
        · subst e; exact hc
        · have := List.pairwise_iff_getElem.1 hs t m ht hmn (by omega)
          omega
      · rw [decide_eq_false hc] at hle
        (repeat (first | refine G.cW (hle) ?_ | refine G.cgW (hle) ?_ | refine GD.cW (hle) ?_ | refine GD.cgW (hle) ?_ | (show G _ _ _ _ (WL _ _ _ _ (⟨some _, .convert _ _ _, _, _, _, none⟩ :: _)); refine G.w1 ?_ (by first | exact LT.cnv ((lo + hi : Nat) : Int) | fail)) | (show G _ _ _ _ (WL _ _ _ _ (⟨some _, .convert _ _ _, _, _, _, some _⟩ :: _)); refine G.gC ?_ (by first | (refine gi ?_; intros; exact LT.cnv ((lo + hi : Nat) : Int)) | fail) rfl rfl) | (show GD _ _ _ _ _ _ _ _ _ _ (⟨some _, .convert _ _ _, _, _, _, none⟩ :: _); refine GD.w1 ?_ (by first | exact LT.cnv ((lo + hi : Nat) : Int) | fail)) | (show GD _ _ _ _ _ _ _ _ _ _ (⟨some _, .convert _ _ _, _, _, _, some _⟩ :: _); refine GD.gC ?_ (by first | (refine gi ?_; intros; exact LT.cnv ((lo + hi : Nat) : Int)) | fail) rfl rfl) | (show G _ _ _ _ (WL _ _ _ _ (⟨some _, .convert _ _ _, _, _, _, none⟩ :: _)); refine G.w1 ?_ (by first | exact LT.cnv ((m : Nat) : Int) | fail)) | (show G _ _ _ _ (WL _ _ _ _ (⟨some _, .convert _ _ _, _, _, _, some _⟩ :: _)); refine G.gC ?_ (by first | (refine gi ?_; intros; exact LT.cnv ((m : Nat) : Int)) | fail) rfl rfl) | (show GD _ _ _ _ _ _ _ _ _ _ (⟨some _, .convert _ _ _, _, _, _, none⟩ :: _); refine GD.w1 ?_ (by first | exact LT.cnv ((m : Nat) : Int) | fail)) | (show GD _ _ _ _ _ _ _ _ _ _ (⟨some _, .convert _ _ _, _, _, _, some _⟩ :: _); refine GD.gC ?_ (by first | (refine gi ?_; intros; exact LT.cnv ((m : Nat) : Int)) | fail) rfl rfl) | (show G _ _ _ _ (WL _ _ _ _ (⟨some _, .binOp .shr _ _ _ _, _, _, _, none⟩ :: _)); refine G.w1 ?_ (by first | exact LT.shr ((m : Nat) : Int) | fail)) | (show G _ _ _ _ (WL _ _ _ _ (⟨some _, .binOp .shr _ _ _ _, _, _, _, some _⟩ :: _)); refine G.gC ?_ (by first | (refine gi ?_; intros; exact LT.shr ((m : Nat) : Int)) | fail) rfl rfl) | (show GD _ _ _ _ _ _ _ _ _ _ (⟨some _, .binOp .shr _ _ _ _, _, _, _, none⟩ :: _); refine GD.w1 ?_ (by first | exact LT.shr ((m : Nat) : Int) | fail)) | (show GD _ _ _ _ _ _ _ _ _ _ (⟨some _, .binOp .shr _ _ _ _, _, _, _, some _⟩ :: _); refine GD.gC ?_ (by first | (refine gi ?_; intros; exact LT.shr ((m : Nat) : Int)) | fail) rfl rfl) | (show G _ _ _ _ (WL _ _ _ _ (⟨some _, .indexAddr _ _ _, _, _, _, none⟩ :: _)); refine G.w1 ?_ (by first | exact LT.rd (Rd.ixov m (hj)) rfl | fail)) | (show G _ _ _ _ (WL _ _ _ _ (⟨some _, .indexAddr _ _ _, _, _, _, some _⟩ :: _)); refine G.gC ?_ (by first | (refine gi ?_; intros; exact LT.rd (Rd.ixov m (hj)) rfl) | fail) rfl rfl) | (show GD _ _ _ _ _ _ _ _ _ _ (⟨some _, .indexAddr _ _ _, _, _, _, none⟩ :: _); refine GD.w1 ?_ (by first | exact LT.rd (Rd.ixov m (hj)) rfl | fail)) | (show GD _ _ _ _ _ _ _ _ _ _ (⟨some _, .indexAddr _ _ _, _, _, _, some _⟩ :: _); refine GD.gC ?_ (by first | (refine gi ?_; intros; exact LT.rd (Rd.ixov m (hj)) rfl) | fail) rfl rfl) | (show G _ _ _ _ (WL _ _ _ _ (⟨some _, .load _ _, _, _, _, none⟩ :: _)); refine G.w1 ?_ (by first | exact LT.rd (Rd.ldF m 0 (hr) (hrw)) rfl | fail)) | (show G _ _ _ _ (WL _ _ _ _ (⟨some _, .load _ _, _, _, _, some _⟩ :: _)); refine G.gC ?_ (by first | (refine gi ?_; intros; exact LT.rd (Rd.ldF m 0 (hr) (hrw)) rfl) | fail) rfl rfl) | (show GD _ _ _ _ _ _ _ _ _ _ (⟨some _, .load _ _, _, _, _, none⟩ :: _); refine GD.w1 ?_ (by first | exact LT.rd (Rd.ldF m 0 (hr) (hrw)) rfl | fail)) | (show GD _ _ _ _ _ _ _ _ _ _ (⟨some _, .load _ _, _, _, _, some _⟩ :: _); refine GD.gC ?_ (by first | (refine gi ?_; intros; exact LT.rd (Rd.ldF m 0 (hr) (hrw)) rfl) | fail) rfl rfl) | ((repeat (revert hK; revert K)); refine wk ?_; repeat intro K hK) | refine wkg ?_))
        refine G.at (lo, m) [(100, 100)] ⟨⟨by omega, by omega, h3, fun t ht hm' => ?_⟩, by omega⟩ (by repeat (first | exact trivial | refine ⟨⟨rfl, rfl⟩, ?_⟩)) (by repeat (first | exact trivial | refine ⟨⟨rfl, rfl, rfl⟩, ?_⟩ | refine ⟨⟨rfl, by rw [renL_d]; rfl, kbL_d _ _⟩, ?_⟩ | refine ⟨rfl, ?_⟩)) (by decide)
        by_cases e : t = m
        · subst e; omega
        · have := List.pairwise_iff_getElem.1 hs m t hmn ht (by omega)
          omega
    · have e : lo = hi := by omega
      subst e
      have hlt : decide ((lo : Int) < (lo : Int)) = false := by simp
      have hlow := lowI_of h2 h3 h4
      have hmem := mem_at h3 h4 hs
      have hrw := il_row l
      by_cases hn : lo < l.length
      · have hj : lo < (il l).length := by rw [il_len]; exact hn
        have hr := il_get l lo hn
        have hb : decide ((lo : Int) < (l.length : Int)) = true := by simpa using hn
        have hq : decide (x ∈ l) = (l[lo] == x || false && false) := by
          rw [Bool.eq_iff_iff, decide_eq_true_iff, hmem]
          simp [hn]
        (repeat (first | refine G.cW (nanS_F _) ?_ | refine G.cgW (nanS_F _) ?_ | refine GD.cW (nanS_F _) ?_ | refine GD.cgW (nanS_F _) ?_ | (show G _ _ _ _ (WL _ _ _ _ (⟨some _, .indexAddr _ _ _, _, _, _, none⟩ :: _)); refine G.w1 ?_ (by first | exact LT.rd (Rd.ixov lo (hj)) rfl | fail)) | (show G _ _ _ _ (WL _ _ _ _ (⟨some _, .indexAddr _ _ _, _, _, _, some _⟩ :: _)); refine G.gC ?_ (by first | (refine gi ?_; intros; exact LT.rd (Rd.ixov lo (hj)) rfl) | fail) rfl rfl) | (show GD _ _ _ _ _ _ _ _ _ _ (⟨some _, .indexAddr _ _ _, _, _, _, none⟩ :: _); refine GD.w1 ?_ (by first | exact LT.rd (Rd.ixov lo (hj)) rfl | fail)) | (show GD _ _ _ _ _ _ _ _ _ _ (⟨some _, .indexAddr _ _ _, _, _, _, some _⟩ :: _); refine GD.gC ?_ (by first | (refine gi ?_; intros; exact LT.rd (Rd.ixov lo (hj)) rfl) | fail) rfl rfl) | (show G _ _ _ _ (WL _ _ _ _ (⟨some _, .load _ _, _, _, _, none⟩ :: _)); refine G.w1 ?_ (by first | exact LT.rd (Rd.ldF lo 0 (hr) (hrw)) rfl | fail)) | (show G _ _ _ _ (WL _ _ _ _ (⟨some _, .load _ _, _, _, _, some _⟩ :: _)); refine G.gC ?_ (by first | (refine gi ?_; intros; exact LT.rd (Rd.ldF lo 0 (hr) (hrw)) rfl) | fail) rfl rfl) | (show GD _ _ _ _ _ _ _ _ _ _ (⟨some _, .load _ _, _, _, _, none⟩ :: _); refine GD.w1 ?_ (by first | exact LT.rd (Rd.ldF lo 0 (hr) (hrw)) rfl | fail)) | (show GD _ _ _ _ _ _ _ _ _ _ (⟨some _, .load _ _, _, _, _, some _⟩ :: _); refine GD.gC ?_ (by first | (refine gi ?_; intros; exact LT.rd (Rd.ldF lo 0 (hr) (hrw)) rfl) | fail) rfl rfl) | ((repeat (revert hK; revert K)); refine wk ?_; repeat intro K hK) | refine wkg ?_))
        refine G.le 5 (.s (.bool (decide (x ∈ l)))) (by rw [hq]; exact D.le.refl _) ?_
        refine G.le 4 (.s (.int .i64 (lowI l x : Nat))) (by rw [hlow]; exact D.le.refl _) ?_
        refine G.finB2 rfl rfl rfl (by rfl) (by first | ((repeat (first | exact trivial | refine ⟨.inl rfl, ?_⟩ | refine ⟨.inr rfl, ?_⟩)); done) | fail) (by first | exact Is.cl (hcl _) | exact Is.cl6 (hcl _) | ((repeat (first | exact trivial | refine ⟨ClE.some rfl, ?_⟩ | (with_reducible refine ClB.d ?_) | (with_reducible refine ⟨ClE.some (numsL_d _ _), ?_⟩) | refine ⟨ClE.none, ?_⟩)); done) | fail) (by rfl)
      · have hb : decide ((lo : Int) < (l.length : Int)) = false := by simp; omega
        have hrx : lo < l.length → (il l)[lo]? = some [iD 0] := fun h' => absurd h' hn
        have hq : decide (x ∈ l) = false := by
          rw [decide_eq_false_iff_not, hmem]
          rintro ⟨h, _⟩
          omega
        (repeat (first | refine G.cW (nanS_F _) ?_ | refine G.cgW (nanS_F _) ?_ | refine GD.cW (nanS_F _) ?_ | refine GD.cgW (nanS_F _) ?_ | (show G _ _ _ _ (WL _ _ _ _ (⟨some _, .indexAddr _ _ _, _, _, _, none⟩ :: _)); refine G.w1 ?_ (by first | exact LT.rd (Rd.ixov lo ((by omega))) rfl | fail)) | (show G _ _ _ _ (WL _ _ _ _ (⟨some _, .indexAddr _ _ _, _, _, _, some _⟩ :: _)); refine G.gC ?_ (by first | (refine gi ?_; intros; exact LT.rd (Rd.ixov lo ((by omega))) rfl) | fail) rfl rfl) | (show GD _ _ _ _ _ _ _ _ _ _ (⟨some _, .indexAddr _ _ _, _, _, _, none⟩ :: _); refine GD.w1 ?_ (by first | exact LT.rd (Rd.ixov lo ((by omega))) rfl | fail)) | (show GD _ _ _ _ _ _ _ _ _ _ (⟨some _, .indexAddr _ _ _, _, _, _, some _⟩ :: _); refine GD.gC ?_ (by first | (refine gi ?_; intros; exact LT.rd (Rd.ixov lo ((by omega))) rfl) | fail) rfl rfl) | (show G _ _ _ _ (WL _ _ _ _ (⟨some _, .load _ _, _, _, _, none⟩ :: _)); refine G.w1 ?_ (by first | exact LT.rd (Rd.ldF lo 0 ((hrx (by omega))) (hrw)) rfl | fail)) | (show G _ _ _ _ (WL _ _ _ _ (⟨some _, .load _ _, _, _, _, some _⟩ :: _)); refine G.gC ?_ (by first | (refine gi ?_; intros; exact LT.rd (Rd.ldF lo 0 ((hrx (by omega))) (hrw)) rfl) | fail) rfl rfl) | (show GD _ _ _ _ _ _ _ _ _ _ (⟨some _, .load _ _, _, _, _, none⟩ :: _); refine GD.w1 ?_ (by first | exact LT.rd (Rd.ldF lo 0 ((hrx (by omega))) (hrw)) rfl | fail)) | (show GD _ _ _ _ _ _ _ _ _ _ (⟨some _, .load _ _, _, _, _, some _⟩ :: _); refine GD.gC ?_ (by first | (refine gi ?_; intros; exact LT.rd (Rd.ldF lo 0 ((hrx (by omega))) (hrw)) rfl) | fail) rfl rfl) | ((repeat (revert hK; revert K)); refine wk ?_; repeat intro K hK) | refine wkg ?_))
        refine G.le 5 (x := .s (.bool (decide ((lo : Int) < (l.length : Int)) && (0 == x || false && false)))) (.s (.bool (decide (x ∈ l)))) (by rw [hq, hb, Bool.false_and]; exact D.le.refl _) ?_
        refine G.le 4 (.s (.int .i64 (lowI l x : Nat))) (by rw [hlow]; exact D.le.refl _) ?_
        refine G.finB2 rfl rfl rfl (by rfl) (by first | ((repeat (first | exact trivial | refine ⟨.inl rfl, ?_⟩ | refine ⟨.inr rfl, ?_⟩)); done) | fail) (by first | exact Is.cl (hcl _) | exact Is.cl6 (hcl _) | ((repeat (first | exact trivial | refine ⟨ClE.some rfl, ?_⟩ | (with_reducible refine ClB.d ?_) | (with_reducible refine ⟨ClE.some (numsL_d _ _), ?_⟩) | refine ⟨ClE.none, ?_⟩)); done) | fail) (by rfl)

def bsJ (l : List Int) (x : Int) (z : Nat × Nat) : List (Nat × AV) × Bs := ([(8, .d (.s (.int .i64 (z.2 : Int)))), (7, .d (.s (.int .i64 (z.1 : Int)))), (6, .d (.s (.int .i64 l.length))), (5, .d (.s (.bool false))), (4, .d (.s (.int .i64 0))), (0, .d (.l (il l))), (1, .d (.s (.int .i64 x)))], [])
theorem bs_F (l : List Int) (x : Int) (hl : l.length ≤ 1000) (hs : l.Pairwise (· < ·)) : Fn Try.prog 17 [.l (il l), .s (.int .i64 x)] (· = .tup [.s (.int .i64 (lowI l x : Nat)), .s (.bool (decide (x ∈ l)))]) := by
  have hlen : ((il l).length : Int) = l.length := by rw [il_len]
  refine Fn.of Try.func17 Try.ntmps17 rfl (by kernel_rfl) (fun w o => ?_)
  (repeat (first | ((repeat (revert hK; revert K)); refine wk ?_; repeat intro K hK) | refine wkg ?_))
  refine G.loop (bsJ l x) (fun z => z.1 ≤ z.2 ∧ z.2 ≤ l.length ∧ (∀ t (h : t < l.length), t < z.1 → l[t] < x) ∧ (∀ t (h : t < l.length), z.2 ≤ t → x ≤ l[t])) (fun z => z.2 - z.1) ?_ ?_
  · rw [hlen]
    exact G.at (0, l.length) [] ⟨Nat.zero_le _, Nat.le_refl _, fun t h h' => absurd h' (Nat.not_lt_zero _), fun t h h' => by omega⟩ (by repeat (first | exact trivial | refine ⟨⟨rfl, rfl⟩, ?_⟩)) (by repeat (first | exact trivial | refine ⟨⟨rfl, rfl, rfl⟩, ?_⟩ | refine ⟨⟨rfl, by rw [renL_d]; rfl, kbL_d _ _⟩, ?_⟩ | refine ⟨rfl, ?_⟩)) (by decide)
  · rintro ⟨lo, hi⟩ ⟨h1, h2, h3, h4⟩
    dsimp only at h1 h2 h3 h4
    dsimp only [bsJ]
    by_cases h : lo < hi
    · have hlt : decide ((lo : Int) < (hi : Int)) = true := by simpa using h
      have hw1 : IntKind.u64.wrap ((lo : Int) + (hi : Int)) = ((lo + hi : Nat) : Int) := by
        rw [IntKind.wrap_u64]; omega
      have hw2 : ((lo + hi : Nat) : Int) / 2 ^ min (1 : Int).toNat IntKind.u64.bits = ((lo + hi) / 2 : Nat) := by
        rw [show (2 : Int) ^ min (1 : Int).toNat IntKind.u64.bits = 2 from by decide]; omega
      have hw3 : IntKind.i64.wrap (((lo + hi) / 2 : Nat) : Int) = (((lo + hi) / 2 : Nat) : Int) := by rw [IntKind.wrap_i64]; omega
      generalize hm : (lo + hi) / 2 = m at hw2 hw3
      have m1 : lo ≤ m := by omega
      have m2 : m < hi := by omega
      have hmn : m < l.length := by omega
      have hj : m < (il l).length := by rw [il_len]; exact hmn
      have hr := il_get l m hmn
      have hrw := il_row l
      have hle := lss_F l[m] x
      by_cases hc : l[m] < x
      · rw [decide_eq_true hc] at hle
        (repeat (first | refine G.cW (hle) ?_ | refine G.cgW (hle) ?_ | refine GD.cW (hle) ?_ | refine GD.cgW (hle) ?_ | (show G _ _ _ _ (WL _ _ _ _ (⟨some _, .convert _ _ _, _, _, _, none⟩ :: _)); refine G.w1 ?_ (by first | exact LT.cnv ((lo + hi : Nat) : Int) | fail)) | (show G _ _ _ _ (WL _ _ _ _ (⟨some _, .convert _ _ _, _, _, _, some _⟩ :: _)); refine G.gC ?_ (by first | (refine gi ?_; intros; exact LT.cnv ((lo + hi : Nat) : Int)) | fail) rfl rfl) | (show GD _ _ _ _ _ _ _ _ _ _ (⟨some _, .convert _ _ _, _, _, _, none⟩ :: _); refine GD.w1 ?_ (by first | exact LT.cnv ((lo + hi : Nat) : Int) | fail)) | (show GD _ _ _ _ _ _ _ _ _ _ (⟨some _, .convert _ _ _, _, _, _, some _⟩ :: _); refine GD.gC ?_ (by first | (refine gi ?_; intros; exact LT.cnv ((lo + hi : Nat) : Int)) | fail) rfl rfl) | (show G _ _ _ _ (WL _ _ _ _ (⟨some _, .convert _ _ _, _, _, _, none⟩ :: _)); refine G.w1 ?_ (by first | exact LT.cnv ((m : Nat) : Int) | fail)) | (show G _ _ _ _ (WL _ _ _ _ (⟨some _, .convert _ _ _, _, _, _, some _⟩ :: _)); refine G.gC ?_ (by first | (refine gi ?_; intros; exact LT.cnv ((m : Nat) : Int)) | fail) rfl rfl) | (show GD _ _ _ _ _ _ _ _ _ _ (⟨some _, .convert _ _ _, _, _, _, none⟩ :: _); refine GD.w1 ?_ (by first | exact LT.cnv ((m : Nat) : Int) | fail)) | (show GD _ _ _ _ _ _ _ _ _ _ (⟨some _, .convert _ _ _, _, _, _, some _⟩ :: _); refine GD.gC ?_ (by first | (refine gi ?_; intros; exact LT.cnv ((m : Nat) : Int)) | fail) rfl rfl) | (show G _ _ _ _ (WL _ _ _ _ (⟨some _, .binOp .shr _ _ _ _, _, _, _, none⟩ :: _)); refine G.w1 ?_ (by first | exact LT.shr ((m : Nat) : Int) | fail)) | (show G _ _ _ _ (WL _ _ _ _ (⟨some _, .binOp .shr _ _ _ _, _, _, _, some _⟩ :: _)); refine G.gC ?_ (by first | (refine gi ?_; intros; exact LT.shr ((m : Nat) : Int)) | fail) rfl rfl) | (show GD _ _ _ _ _ _ _ _ _ _ (⟨some _, .binOp .shr _ _ _ _, _, _, _, none⟩ :: _); refine GD.w1 ?_ (by first | exact LT.shr ((m : Nat) : Int) | fail)) | (show GD _ _ _ _ _ _ _ _ _ _ (⟨some _, .binOp .shr _ _ _ _, _, _, _, some _⟩ :: _); refine GD.gC ?_ (by first | (refine gi ?_; intros; exact LT.shr ((m : Nat) : Int)) | fail) rfl rfl) | (show G _ _ _ _ (WL _ _ _ _ (⟨some _, .indexAddr _ _ _, _, _, _, none⟩ :: _)); refine G.w1 ?_ (by first | exact LT.rd (Rd.ixv m (hr)) rfl | fail)) | (show G _ _ _ _ (WL _ _ _ _ (⟨some _, .indexAddr _ _ _, _, _, _, some _⟩ :: _)); refine G.gC ?_ (by first | (refine gi ?_; intros; exact LT.rd (Rd.ixv m (hr)) rfl) | fail) rfl rfl) | (show GD _ _ _ _ _ _ _ _ _ _ (⟨some _, .indexAddr _ _ _, _, _, _, none⟩ :: _); refine GD.w1 ?_ (by first | exact LT.rd (Rd.ixv m (hr)) rfl | fail)) | (show GD _ _ _ _ _ _ _ _ _ _ (⟨some _, .indexAddr _ _ _, _, _, _, some _⟩ :: _); refine GD.gC ?_ (by first | (refine gi ?_; intros; exact LT.rd (Rd.ixv m (hr)) rfl) | fail) rfl rfl) | ((repeat (revert hK; revert K)); refine wk ?_; repeat intro K hK) | refine wkg ?_))
        refine G.at (m + 1, hi) [] ⟨⟨by omega, h2, fun t ht hm' => ?_, h4⟩, by omega⟩ (by repeat (first | exact trivial | refine ⟨⟨rfl, rfl⟩, ?_⟩)) (by repeat (first | exact trivial | refine ⟨⟨rfl, rfl, rfl⟩, ?_⟩ | refine ⟨⟨rfl, by rw [renL_d]; rfl, kbL_d _ _⟩, ?_⟩ | refine ⟨rfl, ?_⟩)) (by decide)
        by_cases e : t = m
        · subst e; exact hc
        · have := List.pairwise_iff_getElem.1 hs t m ht hmn (by omega)
          omega
      · rw [decide_eq_false hc] at hle
        (repeat (first | refine G.cW (hle) ?_ | refine G.cgW (hle) ?_ | refine GD.cW (hle) ?_ | refine GD.cgW (hle) ?_ | (show G _ _ _ _ (WL _ _ _ _ (⟨some _, .convert _ _ _, _, _, _, none⟩ :: _)); refine G.w1 ?_ (by first | exact LT.cnv ((lo + hi : Nat) : Int) | fail)) | (show G _ _ _ _ (WL _ _ _ _ (⟨some _, .convert _ _ _, _, _, _, some _⟩ :: _)); refine G.gC ?_ (by first | (refine gi ?_; intros; exact LT.cnv ((lo + hi : Nat) : Int)) | fail) rfl rfl) | (show GD _ _ _ _ _ _ _ _ _ _ (⟨some _, .convert _ _ _, _, _, _, none⟩ :: _); refine GD.w1 ?_ (by first | exact LT.cnv ((lo + hi : Nat) : Int) | fail)) | (show GD _ _ _ _ _ _ _ _ _ _ (⟨some _, .convert _ _ _, _, _, _, some _⟩ :: _); refine GD.gC ?_ (by first | (refine gi ?_; intros; exact LT.cnv ((lo + hi : Nat) : Int)) | fail) rfl rfl) | (show G _ _ _ _ (WL _ _ _ _ (⟨some _, .convert _ _ _, _, _, _, none⟩ :: _)); refine G.w1 ?_ (by first | exact LT.cnv ((m : Nat) : Int) | fail)) | (show G _ _ _ _ (WL _ _ _ _ (⟨some _, .convert _ _ _, _, _, _, some _⟩ :: _)); refine G.gC ?_ (by first | (refine gi ?_; intros; exact LT.cnv ((m : Nat) : Int)) | fail) rfl rfl) | (show GD _ _ _ _ _ _ _ _ _ _ (⟨some _, .convert _ _ _, _, _, _, none⟩ :: _); refine GD.w1 ?_ (by first | exact LT.cnv ((m : Nat) : Int) | fail)) | (show GD _ _ _ _ _ _ _ _ _ _ (⟨some _, .convert _ _ _, _, _, _, some _⟩ :: _); refine GD.gC ?_ (by first | (refine gi ?_; intros; exact LT.cnv ((m : Nat) : Int)) | fail) rfl rfl) | (show G _ _ _ _ (WL _ _ _ _ (⟨some _, .binOp .shr _ _ _ _, _, _, _, none⟩ :: _)); refine G.w1 ?_ (by first | exact LT.shr ((m : Nat) : Int) | fail)) | (show G _ _ _ _ (WL _ _ _ _ (⟨some _, .binOp .shr _ _ _ _, _, _, _, some _⟩ :: _)); refine G.gC ?_ (by first | (refine gi ?_; intros; exact LT.shr ((m : Nat) : Int)) | fail) rfl rfl) | (show GD _ _ _ _ _ _ _ _ _ _ (⟨some _, .binOp .shr _ _ _ _, _, _, _, none⟩ :: _); refine GD.w1 ?_ (by first | exact LT.shr ((m : Nat) : Int) | fail)) | (show GD _ _ _ _ _ _ _ _ _ _ (⟨some _, .binOp .shr _ _ _ _, _, _, _, some _⟩ :: _); refine GD.gC ?_ (by first | (refine gi ?_; intros; exact LT.shr ((m : Nat) : Int)) | fail) rfl rfl) | (show G _ _ _ _ (WL _ _ _ _ (⟨some _, .indexAddr _ _ _, _, _, _, none⟩ :: _)); refine G.w1 ?_ (by first | exact LT.rd (Rd.ixv m (hr)) rfl | fail)) | (show G _ _ _ _ (WL _ _ _ _ (⟨some _, .indexAddr _ _ _, _, _, _, some _⟩ :: _)); refine G.gC ?_ (by first | (refine gi ?_; intros; exact LT.rd (Rd.ixv m (hr)) rfl) | fail) rfl rfl) | (show GD _ _ _ _ _ _ _ _ _ _ (⟨some _, .indexAddr _ _ _, _, _, _, none⟩ :: _); refine GD.w1 ?_ (by first | exact LT.rd (Rd.ixv m (hr)) rfl | fail)) | (show GD _ _ _ _ _ _ _ _ _ _ (⟨some _, .indexAddr _ _ _, _, _, _, some _⟩ :: _); refine GD.gC ?_ (by first | (refine gi ?_; intros; exact LT.rd (Rd.ixv m (hr)) rfl) | fail) rfl rfl) | ((repeat (revert hK; revert K)); refine wk ?_; repeat intro K hK) | refine wkg ?_))
        refine G.at (lo, m) [] ⟨⟨by omega, by omega, h3, fun t ht hm' => ?_⟩, by omega⟩ (by repeat (first | exact trivial | refine ⟨⟨rfl, rfl⟩, ?_⟩)) (by repeat (first | exact trivial | refine ⟨⟨rfl, rfl, rfl⟩, ?_⟩ | refine ⟨⟨rfl, by rw [renL_d]; rfl, kbL_d _ _⟩, ?_⟩ | refine ⟨rfl, ?_⟩)) (by decide)
        by_cases e : t = m
        · subst e; omega
        · have := List.pairwise_iff_getElem.1 hs m t hmn ht (by omega)
          omega
    · have e : lo = hi := by omega
      subst e
      have hlt : decide ((lo : Int) < (lo : Int)) = false := by simp
      have hlow := lowI_of h2 h3 h4
      have hmem := mem_at h3 h4 hs
      have hrw := il_row l
      by_cases hn : lo < l.length
      · have hj : lo < (il l).length := by rw [il_len]; exact hn
        have hr := il_get l lo hn
        have hb : decide ((lo : Int) < (l.length : Int)) = true := by simpa using hn
        have hq : decide (x ∈ l) = (l[lo] == x || false && false) := by
          rw [Bool.eq_iff_iff, decide_eq_true_iff, hmem]
          simp [hn]
        (repeat (first | refine G.cW (nanS_F _) ?_ | refine G.cgW (nanS_F _) ?_ | refine GD.cW (nanS_F _) ?_ | refine GD.cgW (nanS_F _) ?_ | (show G _ _ _ _ (WL _ _ _ _ (⟨some _, .indexAddr _ _ _, _, _, _, none⟩ :: _)); refine G.w1 ?_ (by first | exact LT.rd (Rd.ixv lo (hr)) rfl | fail)) | (show G _ _ _ _ (WL _ _ _ _ (⟨some _, .indexAddr _ _ _, _, _, _, some _⟩ :: _)); refine G.gC ?_ (by first | (refine gi ?_; intros; exact LT.rd (Rd.ixv lo (hr)) rfl) | fail) rfl rfl) | (show GD _ _ _ _ _ _ _ _ _ _ (⟨some _, .indexAddr _ _ _, _, _, _, none⟩ :: _); refine GD.w1 ?_ (by first | exact LT.rd (Rd.ixv lo (hr)) rfl | fail)) | (show GD _ _ _ _ _ _ _ _ _ _ (⟨some _, .indexAddr _ _ _, _, _, _, some _⟩ :: _); refine GD.gC ?_ (by first | (refine gi ?_; intros; exact LT.rd (Rd.ixv lo (hr)) rfl) | fail) rfl rfl) | ((repeat (revert hK; revert K)); refine wk ?_; repeat intro K hK) | refine wkg ?_))
        refine G.fin2 (by first | exact rvOk.tmp | exact rvOk.cellS | exact rvOk.cell1 | fail) (by first | exact rvOk.tmp | exact rvOk.cellS | exact rvOk.cell1 | fail) rfl ?_
        rw [hlow, hq]
      · have hb : decide ((lo : Int) < (l.length : Int)) = false := by simp; omega
        have hrx : lo < l.length → (il l)[lo]? = some [iD 0] := fun h' => absurd h' hn
        have hq : decide (x ∈ l) = false := by
          rw [decide_eq_false_iff_not, hmem]
          rintro ⟨h, _⟩
          omega
        (repeat (first | refine G.cW (nanS_F _) ?_ | refine G.cgW (nanS_F _) ?_ | refine GD.cW (nanS_F _) ?_ | refine GD.cgW (nanS_F _) ?_ | (show G _ _ _ _ (WL _ _ _ _ (⟨some _, .indexAddr _ _ _, _, _, _, none⟩ :: _)); refine G.w1 ?_ (by first | exact LT.rd (Rd.ixv lo ((hrx (by omega)))) rfl | fail)) | (show G _ _ _ _ (WL _ _ _ _ (⟨some _, .indexAddr _ _ _, _, _, _, some _⟩ :: _)); refine G.gC ?_ (by first | (refine gi ?_; intros; exact LT.rd (Rd.ixv lo ((hrx (by omega)))) rfl) | fail) rfl rfl) | (show GD _ _ _ _ _ _ _ _ _ _ (⟨some _, .indexAddr _ _ _, _, _, _, none⟩ :: _); refine GD.w1 ?_ (by first | exact LT.rd (Rd.ixv lo ((hrx (by omega)))) rfl | fail)) | (show GD _ _ _ _ _ _ _ _ _ _ (⟨some _, .indexAddr _ _ _, _, _, _, some _⟩ :: _); refine GD.gC ?_ (by first | (refine gi ?_; intros; exact LT.rd (Rd.ixv lo ((hrx (by omega)))) rfl) | fail) rfl rfl) | ((repeat (revert hK; revert K)); refine wk ?_; repeat intro K hK) | refine wkg ?_))
        refine G.fin2 (by first | exact rvOk.tmp | exact rvOk.cellS | exact rvOk.cell1 | fail) (by first | exact rvOk.tmp | exact rvOk.cellS | exact rvOk.cell1 | fail) rfl ?_
        rw [hlow, hq, hb, Bool.false_and]

end Go.Proofs.Ytohpbfcechbngaa
