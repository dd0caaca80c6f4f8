/- Compaction: Check, searches, block, Fits, Possible. -/
import Derived.Test.YtohpbfcechbngaaCb
import Derived.Test.YtohpbfcechbngaaAvu
set_option linter.unusedSimpArgs false
set_option linter.unusedVariables false
namespace Go.Proofs.Ytohpbfcechbngaa
open Go.RowKit

/-- Cells that are free, movable or pinned. -/
def cOk (l : List Int) : Prop := ∀ c ∈ l, c = 0 ∨ c = 1 ∨ c = 2
/-- The first place of an element that fulfils p, or -1. -/
def idxF (p : Int → Bool) (l : List Int) : Int := bif l.any p then ((l.findIdx p : Nat) : Int) else -1
theorem idx_at {p : Int → Bool} {l : List Int} {i : Nat} (h : i < l.length) (hp : p l[i] = true) (h0 : ∀ j (hj : j < l.length), j < i → p l[j] = false) : idxF p l = (i : Int) := by
  unfold idxF
  rw [List.any_eq_true.2 ⟨l[i], List.getElem_mem h, hp⟩, cond_true, (List.findIdx_eq h).2 ⟨hp, fun j hj => h0 j (by omega) hj⟩]
theorem idx_no {p : Int → Bool} {l : List Int} (h0 : ∀ j (hj : j < l.length), p l[j] = false) : idxF p l = -1 := by
  unfold idxF
  have : l.any p = false := by
    rw [List.any_eq_false]
    intro x hx
    obtain ⟨j, hj, rfl⟩ := List.mem_iff_getElem.1 hx
    simp [h0 j hj]
  rw [this]
  rfl
theorem idx_any (p : Int → Bool) (l : List Int) : decide (0 ≤ idxF p l) = l.any p := by
  unfold idxF
  cases h : l.any p with
  | true => simp
  | false => simp
def ckS (l : List Int) (i : Nat) : List (Nat × AV) × Bs := ([(10, .d (.s (.int .i64 (i : Nat)))), (9, .d (.s (.int .i64 l.length))), (8, .d (.l (il l))), (2, .d (.s (.int .i64 0)))], [])
def ixS (l : List Int) (K : Nat) (es : List D) (i : Nat) : List (Nat × AV) × Bs := ([(8, .d (.s (.int .i64 (i : Nat)))), (7, .d (.s (.int .i64 l.length))), (0, .d (.l (il l))), (1, .d (.fn K es))], [])
def ixS2 (l : List Int) (v : Int) (i : Nat) : List (Nat × AV) × Bs := ([(8, .d (.s (.int .i64 (i : Nat)))), (7, .d (.s (.int .i64 l.length))), (0, .d (.l (il l))), (1, .d (.s (.int .i64 v)))], [])
attribute [local irreducible] Wp WL WO fin finB rnd Exit.then Exit.inBlock G GD LT Rd Fn FnB FvB Iter
attribute [local go_sem] iD
theorem ccheck_F (l : List Int) (hl : l.length ≤ 4096) (hc : cOk l) : Fn Try.prog 22 [.l (il l)] (· = .s (.int .i64 0)) := by
  have hlen : ((il l).length : Int) = l.length := by rw [il_len]
  have hb : decide ((4096 : Int) < ((il l).length : Int)) = false := by rw [hlen]; simp; omega
  refine Fn.of Try.func22 Try.ntmps22 rfl (by kernel_rfl) (fun w o => ?_)
  (repeat (first | ((repeat (revert hK; revert K)); refine wk ?_; repeat intro K hK) | refine wkg ?_))
  rw [hlen]
  refine G.loop (ckS l) (fun i => i ≤ l.length) (fun i => l.length - i) ?_ ?_
  · exact G.at 0 [] (Nat.zero_le _) (by repeat (first | exact trivial | refine ⟨⟨rfl, rfl⟩, ?_⟩)) (by repeat (first | exact trivial | refine ⟨⟨rfl, rfl, rfl⟩, ?_⟩ | refine ⟨⟨rfl, by rw [renL_d]; rfl, kbL_d _ _⟩, ?_⟩ | refine ⟨rfl, ?_⟩)) (by decide)
  · intro i hi
    dsimp only [ckS]
    by_cases h : i < l.length
    · have hr := il_get l i h
      have hv := hc l[i] (List.getElem_mem h)
      generalize l[i] = c at hr hv
      rcases hv with rfl | rfl | rfl
      · (repeat (first | (show G _ _ _ _ (WL _ _ _ _ (⟨some _, .indexAddr _ _ _, _, _, _, none⟩ :: _)); refine G.w1 ?_ (by first | exact LT.rd (Rd.ixv i (hr)) rfl | fail)) | (show G _ _ _ _ (WL _ _ _ _ (⟨some _, .indexAddr _ _ _, _, _, _, some _⟩ :: _)); refine G.gC ?_ (by first | (refine gi ?_; intros; exact LT.rd (Rd.ixv i (hr)) rfl) | fail) rfl rfl) | (show GD _ _ _ _ _ _ _ _ _ _ (⟨some _, .indexAddr _ _ _, _, _, _, none⟩ :: _); refine GD.w1 ?_ (by first | exact LT.rd (Rd.ixv i (hr)) rfl | fail)) | (show GD _ _ _ _ _ _ _ _ _ _ (⟨some _, .indexAddr _ _ _, _, _, _, some _⟩ :: _); refine GD.gC ?_ (by first | (refine gi ?_; intros; exact LT.rd (Rd.ixv i (hr)) rfl) | fail) rfl rfl) | ((repeat (revert hK; revert K)); refine wk ?_; repeat intro K hK) | refine wkg ?_))
        exact G.at (i + 1) [] ⟨by omega, by omega⟩ (by repeat (first | exact trivial | refine ⟨⟨rfl, rfl⟩, ?_⟩)) (by repeat (first | exact trivial | refine ⟨⟨rfl, rfl, rfl⟩, ?_⟩ | refine ⟨⟨rfl, by rw [renL_d]; rfl, kbL_d _ _⟩, ?_⟩ | refine ⟨rfl, ?_⟩)) (by decide)
      · (repeat (first | (show G _ _ _ _ (WL _ _ _ _ (⟨some _, .indexAddr _ _ _, _, _, _, none⟩ :: _)); refine G.w1 ?_ (by first | exact LT.rd (Rd.ixv i (hr)) rfl | fail)) | (show G _ _ _ _ (WL _ _ _ _ (⟨some _, .indexAddr _ _ _, _, _, _, some _⟩ :: _)); refine G.gC ?_ (by first | (refine gi ?_; intros; exact LT.rd (Rd.ixv i (hr)) rfl) | fail) rfl rfl) | (show GD _ _ _ _ _ _ _ _ _ _ (⟨some _, .indexAddr _ _ _, _, _, _, none⟩ :: _); refine GD.w1 ?_ (by first | exact LT.rd (Rd.ixv i (hr)) rfl | fail)) | (show GD _ _ _ _ _ _ _ _ _ _ (⟨some _, .indexAddr _ _ _, _, _, _, some _⟩ :: _); refine GD.gC ?_ (by first | (refine gi ?_; intros; exact LT.rd (Rd.ixv i (hr)) rfl) | fail) rfl rfl) | ((repeat (revert hK; revert K)); refine wk ?_; repeat intro K hK) | refine wkg ?_))
        exact G.at (i + 1) [] ⟨by omega, by omega⟩ (by repeat (first | exact trivial | refine ⟨⟨rfl, rfl⟩, ?_⟩)) (by repeat (first | exact trivial | refine ⟨⟨rfl, rfl, rfl⟩, ?_⟩ | refine ⟨⟨rfl, by rw [renL_d]; rfl, kbL_d _ _⟩, ?_⟩ | refine ⟨rfl, ?_⟩)) (by decide)
      · (repeat (first | (show G _ _ _ _ (WL _ _ _ _ (⟨some _, .indexAddr _ _ _, _, _, _, none⟩ :: _)); refine G.w1 ?_ (by first | exact LT.rd (Rd.ixv i (hr)) rfl | fail)) | (show G _ _ _ _ (WL _ _ _ _ (⟨some _, .indexAddr _ _ _, _, _, _, some _⟩ :: _)); refine G.gC ?_ (by first | (refine gi ?_; intros; exact LT.rd (Rd.ixv i (hr)) rfl) | fail) rfl rfl) | (show GD _ _ _ _ _ _ _ _ _ _ (⟨some _, .indexAddr _ _ _, _, _, _, none⟩ :: _); refine GD.w1 ?_ (by first | exact LT.rd (Rd.ixv i (hr)) rfl | fail)) | (show GD _ _ _ _ _ _ _ _ _ _ (⟨some _, .indexAddr _ _ _, _, _, _, some _⟩ :: _); refine GD.gC ?_ (by first | (refine gi ?_; intros; exact LT.rd (Rd.ixv i (hr)) rfl) | fail) rfl rfl) | ((repeat (revert hK; revert K)); refine wk ?_; repeat intro K hK) | refine wkg ?_))
        exact G.at (i + 1) [] ⟨by omega, by omega⟩ (by repeat (first | exact trivial | refine ⟨⟨rfl, rfl⟩, ?_⟩)) (by repeat (first | exact trivial | refine ⟨⟨rfl, rfl, rfl⟩, ?_⟩ | refine ⟨⟨rfl, by rw [renL_d]; rfl, kbL_d _ _⟩, ?_⟩ | refine ⟨rfl, ?_⟩)) (by decide)
    · have e : i = l.length := by omega
      subst e
      (repeat (first | ((repeat (revert hK; revert K)); refine wk ?_; repeat intro K hK) | refine wkg ?_))
      refine G.fin1 (by first | exact rvOk.tmp | exact rvOk.cellS | exact rvOk.cell1 | fail) rfl ?_
      rfl
theorem indexf_F (l : List Int) (hl : l.length ≤ 4096) (J : Nat) (es : List D) (p : Int → Bool) (hJ : ∀ c, Fn Try.prog J ([iD c] ++ es) (· = .s (.bool (p c)))) : Fn Try.prog 41 [.l (il l), .fn J es] (· = .s (.int .i64 (idxF p l))) := by
  have hlen : ((il l).length : Int) = l.length := by rw [il_len]
  refine Fn.of Try.func41 Try.ntmps41 rfl (by kernel_rfl) (fun w o => ?_)
  (repeat (first | ((repeat (revert hK; revert K)); refine wk ?_; repeat intro K hK) | refine wkg ?_))
  rw [hlen]
  refine G.loop (ixS l J es) (fun i => i ≤ l.length ∧ ∀ j (hj : j < l.length), j < i → p l[j] = false) (fun i => l.length - i) ?_ ?_
  · exact G.at 0 [] ⟨Nat.zero_le _, fun j _ hj => absurd hj (Nat.not_lt_zero _)⟩ (by repeat (first | exact trivial | refine ⟨⟨rfl, rfl⟩, ?_⟩)) (by repeat (first | exact trivial | refine ⟨⟨rfl, rfl, rfl⟩, ?_⟩ | refine ⟨⟨rfl, by rw [renL_d]; rfl, kbL_d _ _⟩, ?_⟩ | refine ⟨rfl, ?_⟩)) (by decide)
  · rintro i ⟨hi, h0⟩
    dsimp only [ixS]
    by_cases h : i < l.length
    · have hr := il_get l i h
      have hk := hJ l[i]
      cases hp : p l[i] with
      | true =>
        rw [hp] at hk
        (repeat (first | (show G _ _ _ _ (WL _ _ _ _ (⟨some _, .indexAddr _ _ _, _, _, _, none⟩ :: _)); refine G.w1 ?_ (by first | exact LT.rd (Rd.ixv i (hr)) rfl | fail)) | (show G _ _ _ _ (WL _ _ _ _ (⟨some _, .indexAddr _ _ _, _, _, _, some _⟩ :: _)); refine G.gC ?_ (by first | (refine gi ?_; intros; exact LT.rd (Rd.ixv i (hr)) rfl) | fail) rfl rfl) | (show GD _ _ _ _ _ _ _ _ _ _ (⟨some _, .indexAddr _ _ _, _, _, _, none⟩ :: _); refine GD.w1 ?_ (by first | exact LT.rd (Rd.ixv i (hr)) rfl | fail)) | (show GD _ _ _ _ _ _ _ _ _ _ (⟨some _, .indexAddr _ _ _, _, _, _, some _⟩ :: _); refine GD.gC ?_ (by first | (refine gi ?_; intros; exact LT.rd (Rd.ixv i (hr)) rfl) | fail) rfl rfl) | (show G _ _ _ _ (WL _ _ _ _ (⟨some _, .call _, _, _, _, none⟩ :: _)); refine G.w1 ?_ (by first | exact LT.cdW (hk) | fail)) | (show G _ _ _ _ (WL _ _ _ _ (⟨some _, .call _, _, _, _, some _⟩ :: _)); refine G.gC ?_ (by first | (refine gi ?_; intros; exact LT.cdW (hk)) | fail) rfl rfl) | (show GD _ _ _ _ _ _ _ _ _ _ (⟨some _, .call _, _, _, _, none⟩ :: _); refine GD.w1 ?_ (by first | exact LT.cdW (hk) | fail)) | (show GD _ _ _ _ _ _ _ _ _ _ (⟨some _, .call _, _, _, _, some _⟩ :: _); refine GD.gC ?_ (by first | (refine gi ?_; intros; exact LT.cdW (hk)) | fail) rfl rfl) | ((repeat (revert hK; revert K)); refine wk ?_; repeat intro K hK) | refine wkg ?_))
        refine G.fin1 (by first | exact rvOk.tmp | exact rvOk.cellS | exact rvOk.cell1 | fail) rfl ?_
        rw [idx_at h hp h0]
      | false =>
        rw [hp] at hk
        (repeat (first | (show G _ _ _ _ (WL _ _ _ _ (⟨some _, .indexAddr _ _ _, _, _, _, none⟩ :: _)); refine G.w1 ?_ (by first | exact LT.rd (Rd.ixv i (hr)) rfl | fail)) | (show G _ _ _ _ (WL _ _ _ _ (⟨some _, .indexAddr _ _ _, _, _, _, some _⟩ :: _)); refine G.gC ?_ (by first | (refine gi ?_; intros; exact LT.rd (Rd.ixv i (hr)) rfl) | fail) rfl rfl) | (show GD _ _ _ _ _ _ _ _ _ _ (⟨some _, .indexAddr _ _ _, _, _, _, none⟩ :: _); refine GD.w1 ?_ (by first | exact LT.rd (Rd.ixv i (hr)) rfl | fail)) | (show GD _ _ _ _ _ _ _ _ _ _ (⟨some _, .indexAddr _ _ _, _, _, _, some _⟩ :: _); refine GD.gC ?_ (by first | (refine gi ?_; intros; exact LT.rd (Rd.ixv i (hr)) rfl) | fail) rfl rfl) | (show G _ _ _ _ (WL _ _ _ _ (⟨some _, .call _, _, _, _, none⟩ :: _)); refine G.w1 ?_ (by first | exact LT.cdW (hk) | fail)) | (show G _ _ _ _ (WL _ _ _ _ (⟨some _, .call _, _, _, _, some _⟩ :: _)); refine G.gC ?_ (by first | (refine gi ?_; intros; exact LT.cdW (hk)) | fail) rfl rfl) | (show GD _ _ _ _ _ _ _ _ _ _ (⟨some _, .call _, _, _, _, none⟩ :: _); refine GD.w1 ?_ (by first | exact LT.cdW (hk) | fail)) | (show GD _ _ _ _ _ _ _ _ _ _ (⟨some _, .call _, _, _, _, some _⟩ :: _); refine GD.gC ?_ (by first | (refine gi ?_; intros; exact LT.cdW (hk)) | fail) rfl rfl) | ((repeat (revert hK; revert K)); refine wk ?_; repeat intro K hK) | refine wkg ?_))
        refine G.at (i + 1) [] ⟨⟨by omega, fun j hj hji => ?_⟩, by omega⟩ (by repeat (first | exact trivial | refine ⟨⟨rfl, rfl⟩, ?_⟩)) (by repeat (first | exact trivial | refine ⟨⟨rfl, rfl, rfl⟩, ?_⟩ | refine ⟨⟨rfl, by rw [renL_d]; rfl, kbL_d _ _⟩, ?_⟩ | refine ⟨rfl, ?_⟩)) (by decide)
        by_cases e : j = i
        · subst e; exact hp
        · exact h0 j hj (by omega)
    · have e : i = l.length := by omega
      subst e
      (repeat (first | ((repeat (revert hK; revert K)); refine wk ?_; repeat intro K hK) | refine wkg ?_))
      refine G.fin1 (by first | exact rvOk.tmp | exact rvOk.cellS | exact rvOk.cell1 | fail) rfl ?_
      rw [idx_no (fun j hj => h0 j hj hj)]
theorem containsf_F (l : List Int) (hl : l.length ≤ 4096) (J : Nat) (es : List D) (p : Int → Bool) (hJ : ∀ c, Fn Try.prog J ([iD c] ++ es) (· = .s (.bool (p c)))) : Fn Try.prog 35 [.l (il l), .fn J es] (· = .s (.bool (l.any p))) := by
  refine Fn.of Try.func35 Try.ntmps35 rfl (by kernel_rfl) (fun w o => ?_)
  (repeat (first | refine G.cW (indexf_F l hl J es p hJ) ?_ | refine G.cgW (indexf_F l hl J es p hJ) ?_ | refine GD.cW (indexf_F l hl J es p hJ) ?_ | refine GD.cgW (indexf_F l hl J es p hJ) ?_ | ((repeat (revert hK; revert K)); refine wk ?_; repeat intro K hK) | refine wkg ?_))
  refine G.fin1 (by first | exact rvOk.tmp | exact rvOk.cellS | exact rvOk.cell1 | fail) rfl ?_
  rw [idx_any]
theorem indexi_F (l : List Int) (hl : l.length ≤ 4096) (v : Int) : Fn Try.prog 37 [.l (il l), .s (.int .i64 v)] (· = .s (.int .i64 (idxF (fun c => v == c) l))) := by
  have hlen : ((il l).length : Int) = l.length := by rw [il_len]
  refine Fn.of Try.func37 Try.ntmps37 rfl (by kernel_rfl) (fun w o => ?_)
  (repeat (first | ((repeat (revert hK; revert K)); refine wk ?_; repeat intro K hK) | refine wkg ?_))
  rw [hlen]
  refine G.loop (ixS2 l v) (fun i => i ≤ l.length ∧ ∀ j (hj : j < l.length), j < i → (v == l[j]) = false) (fun i => l.length - i) ?_ ?_
  · exact G.at 0 [] ⟨Nat.zero_le _, fun j _ hj => absurd hj (Nat.not_lt_zero _)⟩ (by repeat (first | exact trivial | refine ⟨⟨rfl, rfl⟩, ?_⟩)) (by repeat (first | exact trivial | refine ⟨⟨rfl, rfl, rfl⟩, ?_⟩ | refine ⟨⟨rfl, by rw [renL_d]; rfl, kbL_d _ _⟩, ?_⟩ | refine ⟨rfl, ?_⟩)) (by decide)
  · rintro i ⟨hi, h0⟩
    dsimp only [ixS2]
    by_cases h : i < l.length
    · have hr := il_get l i h
      cases hp : v == l[i] with
      | true =>
        (repeat (first | (show G _ _ _ _ (WL _ _ _ _ (⟨some _, .indexAddr _ _ _, _, _, _, none⟩ :: _)); refine G.w1 ?_ (by first | exact LT.rd (Rd.ixv i (hr)) rfl | fail)) | (show G _ _ _ _ (WL _ _ _ _ (⟨some _, .indexAddr _ _ _, _, _, _, some _⟩ :: _)); refine G.gC ?_ (by first | (refine gi ?_; intros; exact LT.rd (Rd.ixv i (hr)) rfl) | fail) rfl rfl) | (show GD _ _ _ _ _ _ _ _ _ _ (⟨some _, .indexAddr _ _ _, _, _, _, none⟩ :: _); refine GD.w1 ?_ (by first | exact LT.rd (Rd.ixv i (hr)) rfl | fail)) | (show GD _ _ _ _ _ _ _ _ _ _ (⟨some _, .indexAddr _ _ _, _, _, _, some _⟩ :: _); refine GD.gC ?_ (by first | (refine gi ?_; intros; exact LT.rd (Rd.ixv i (hr)) rfl) | fail) rfl rfl) | ((repeat (revert hK; revert K)); refine wk ?_; repeat intro K hK) | refine wkg ?_))
        refine G.fin1 (by first | exact rvOk.tmp | exact rvOk.cellS | exact rvOk.cell1 | fail) rfl ?_
        rw [idx_at h hp h0]
      | false =>
        (repeat (first | (show G _ _ _ _ (WL _ _ _ _ (⟨some _, .indexAddr _ _ _, _, _, _, none⟩ :: _)); refine G.w1 ?_ (by first | exact LT.rd (Rd.ixv i (hr)) rfl | fail)) | (show G _ _ _ _ (WL _ _ _ _ (⟨some _, .indexAddr _ _ _, _, _, _, some _⟩ :: _)); refine G.gC ?_ (by first | (refine gi ?_; intros; exact LT.rd (Rd.ixv i (hr)) rfl) | fail) rfl rfl) | (show GD _ _ _ _ _ _ _ _ _ _ (⟨some _, .indexAddr _ _ _, _, _, _, none⟩ :: _); refine GD.w1 ?_ (by first | exact LT.rd (Rd.ixv i (hr)) rfl | fail)) | (show GD _ _ _ _ _ _ _ _ _ _ (⟨some _, .indexAddr _ _ _, _, _, _, some _⟩ :: _); refine GD.gC ?_ (by first | (refine gi ?_; intros; exact LT.rd (Rd.ixv i (hr)) rfl) | fail) rfl rfl) | ((repeat (revert hK; revert K)); refine wk ?_; repeat intro K hK) | refine wkg ?_))
        refine G.at (i + 1) [] ⟨⟨by omega, fun j hj hji => ?_⟩, by omega⟩ (by repeat (first | exact trivial | refine ⟨⟨rfl, rfl⟩, ?_⟩)) (by repeat (first | exact trivial | refine ⟨⟨rfl, rfl, rfl⟩, ?_⟩ | refine ⟨⟨rfl, by rw [renL_d]; rfl, kbL_d _ _⟩, ?_⟩ | refine ⟨rfl, ?_⟩)) (by decide)
        by_cases e : j = i
        · subst e; exact hp
        · exact h0 j hj (by omega)
    · have e : i = l.length := by omega
      subst e
      (repeat (first | ((repeat (revert hK; revert K)); refine wk ?_; repeat intro K hK) | refine wkg ?_))
      refine G.fin1 (by first | exact rvOk.tmp | exact rvOk.cellS | exact rvOk.cell1 | fail) rfl ?_
      rw [idx_no (fun j hj => h0 j hj hj)]
theorem contains_F (l : List Int) (hl : l.length ≤ 4096) (v : Int) : Fn Try.prog 23 [.l (il l), .s (.int .i64 v)] (· = .s (.bool (l.any (fun c => v == c)))) := by
  refine Fn.of Try.func23 Try.ntmps23 rfl (by kernel_rfl) (fun w o => ?_)
  (repeat (first | refine G.cW (indexi_F l hl v) ?_ | refine G.cgW (indexi_F l hl v) ?_ | refine GD.cW (indexi_F l hl v) ?_ | refine GD.cgW (indexi_F l hl v) ?_ | ((repeat (revert hK; revert K)); refine wk ?_; repeat intro K hK) | refine wkg ?_))
  refine G.fin1 (by first | exact rvOk.tmp | exact rvOk.cellS | exact rvOk.cell1 | fail) rfl ?_
  rw [idx_any]
theorem fits1_F (c : Int) : Fn Try.prog 20 [iD c] (· = .s (.bool (c == 0))) := by
  refine Fn.of Try.func20 Try.ntmps20 rfl (by kernel_rfl) (fun w o => ?_)
  (repeat (first | ((repeat (revert hK; revert K)); refine wk ?_; repeat intro K hK) | refine wkg ?_))
  refine G.fin1 (by first | exact rvOk.tmp | exact rvOk.cellS | exact rvOk.cell1 | fail) rfl ?_
  rfl
theorem poss1_F (c : Int) : Fn Try.prog 21 [iD c] (· = .s (.bool (c != 2))) := by
  refine Fn.of Try.func21 Try.ntmps21 rfl (by kernel_rfl) (fun w o => ?_)
  (repeat (first | ((repeat (revert hK; revert K)); refine wk ?_; repeat intro K hK) | refine wkg ?_))
  refine G.fin1 (by first | exact rvOk.tmp | exact rvOk.cellS | exact rvOk.cell1 | fail) rfl ?_
  rfl
theorem block1_F (J : Nat) (p : Int → Bool) (hJ : ∀ c, Fn Try.prog J ([iD c] ++ []) (· = .s (.bool (p c)))) (c : Int) : Fn Try.prog 36 ([iD c] ++ [.pe [.fn J []] 0]) (· = .s (.bool (!p c))) := by
  have hk := hJ c
  show Fn Try.prog 36 [iD c, .pe [.fn J []] 0] _
  refine Fn.of Try.func36 Try.ntmps36 rfl (by kernel_rfl) (fun w o => ?_)
  (repeat (first | (show G _ _ _ _ (WL _ _ _ _ (⟨some _, .call _, _, _, _, none⟩ :: _)); refine G.w1 ?_ (by first | exact LT.cdW (hk) | fail)) | (show G _ _ _ _ (WL _ _ _ _ (⟨some _, .call _, _, _, _, some _⟩ :: _)); refine G.gC ?_ (by first | (refine gi ?_; intros; exact LT.cdW (hk)) | fail) rfl rfl) | (show GD _ _ _ _ _ _ _ _ _ _ (⟨some _, .call _, _, _, _, none⟩ :: _); refine GD.w1 ?_ (by first | exact LT.cdW (hk) | fail)) | (show GD _ _ _ _ _ _ _ _ _ _ (⟨some _, .call _, _, _, _, some _⟩ :: _); refine GD.gC ?_ (by first | (refine gi ?_; intros; exact LT.cdW (hk)) | fail) rfl rfl) | ((repeat (revert hK; revert K)); refine wk ?_; repeat intro K hK) | refine wkg ?_))
  refine G.fin1 (by first | exact rvOk.tmp | exact rvOk.cellS | exact rvOk.cell1 | fail) rfl ?_
  rfl
def bkS (l : List Int) (J k : Nat) (q : Nat) : List (Nat × AV) × Bs := ([(8, .d (.s (.int .i64 ((q * 2 ^ k : Nat) : Int)))), (7, .d (.s (.int .i64 ((2 ^ k : Nat) : Int)))), (0, .d (.l (il l))), (5, .d (.pe [.fn J []] 0))], [])
theorem cblock_F (l : List Int) (hl : l.length ≤ 64) (hc : cOk l) (k : Nat) (hk : k ≤ 4) (J : Nat) (p : Int → Bool) (hJ : ∀ c, Fn Try.prog J ([iD c] ++ []) (· = .s (.bool (p c)))) : Fn Try.prog 19 [.l (il l), .s (.int .i64 k), .fn J []] (· = .s (.int .i64 (blkF p l k))) := by
  have hlen : ((il l).length : Int) = l.length := by rw [il_len]
  have hch := ccheck_F l (by omega) hc
  have hp : 2 ^ k ≤ 16 := Nat.pow_le_pow_right (by decide) hk
  have hp0 : 0 < 2 ^ k := Nat.pow_pos (by decide)
  have hsh : IntKind.i64.wrap (1 * 2 ^ min ((k : Nat) : Int).toNat IntKind.i64.bits) = ((2 ^ k : Nat) : Int) := by
    rw [Int.toNat_natCast, Nat.min_eq_left (by show k ≤ 64; omega), IntKind.wrap_i64, Int.one_mul]
    have : ((2 ^ k : Nat) : Int) ≤ 16 := by exact_mod_cast hp
    have : (0 : Int) < ((2 ^ k : Nat) : Int) := by exact_mod_cast hp0
    push_cast at *
    omega
  have hk0 : (0 : Int) ≤ (k : Int) := Int.natCast_nonneg _
  refine Fn.of Try.func19 Try.ntmps19 rfl (by kernel_rfl) (fun w o => ?_)
  (repeat (first | refine G.cW (hch) ?_ | refine G.cgW (hch) ?_ | refine GD.cW (hch) ?_ | refine GD.cgW (hch) ?_ | (show G _ _ _ _ (WL _ _ _ _ (⟨some _, .binOp .shl _ _ _ _, _, _, _, none⟩ :: _)); refine G.w1 ?_ (by first | exact LT.shl ((2 ^ k : Nat) : Int) | fail)) | (show G _ _ _ _ (WL _ _ _ _ (⟨some _, .binOp .shl _ _ _ _, _, _, _, some _⟩ :: _)); refine G.gC ?_ (by first | (refine gi ?_; intros; exact LT.shl ((2 ^ k : Nat) : Int)) | fail) rfl rfl) | (show GD _ _ _ _ _ _ _ _ _ _ (⟨some _, .binOp .shl _ _ _ _, _, _, _, none⟩ :: _); refine GD.w1 ?_ (by first | exact LT.shl ((2 ^ k : Nat) : Int) | fail)) | (show GD _ _ _ _ _ _ _ _ _ _ (⟨some _, .binOp .shl _ _ _ _, _, _, _, some _⟩ :: _); refine GD.gC ?_ (by first | (refine gi ?_; intros; exact LT.shl ((2 ^ k : Nat) : Int)) | fail) rfl rfl) | ((repeat (revert hK; revert K)); refine wk ?_; repeat intro K hK) | refine wkg ?_))
  refine G.frzP (ds := [.fn J []]) 5 ?_
  refine G.loop (bkS l J k) (fun q => q * 2 ^ k ≤ l.length ∧ ∀ j, j < q → okB p l k j = false) (fun q => l.length + 1 - q) ?_ ?_
  · refine G.le 8 (.s (.int .i64 ((0 * 2 ^ k : Nat) : Int))) (by rw [Nat.zero_mul]; exact D.le.refl _) ?_
    exact G.at 0 [] ⟨by omega, fun j hj => absurd hj (Nat.not_lt_zero _)⟩ (by repeat (first | exact trivial | refine ⟨⟨rfl, rfl⟩, ?_⟩)) (by repeat (first | exact trivial | refine ⟨⟨rfl, rfl, rfl⟩, ?_⟩ | refine ⟨⟨rfl, by rw [renL_d]; rfl, kbL_d _ _⟩, ?_⟩ | refine ⟨rfl, ?_⟩)) (by decide)
  · rintro q ⟨hq, h0⟩
    have hs1 : (((q + 1) * 2 ^ k : Nat) : Int) = ((q * 2 ^ k : Nat) : Int) + ((2 ^ k : Nat) : Int) := by rw [Nat.add_mul]; push_cast; omega
    have hqq : q ≤ q * 2 ^ k := Nat.le_mul_of_pos_right _ hp0
    by_cases h : (q + 1) * 2 ^ k ≤ l.length
    · have h' : q * 2 ^ k + 2 ^ k ≤ l.length := by rw [← Nat.succ_mul]; exact h
      have hsl : ((il l).drop (q * 2 ^ k)).take (q * 2 ^ k + 2 ^ k - q * 2 ^ k) = il ((l.drop (q * 2 ^ k)).take (2 ^ k)) := by rw [Nat.add_sub_cancel_left, il_take, il_drop]
      have hcf := containsf_F ((l.drop (q * 2 ^ k)).take (2 ^ k)) (by rw [List.length_take, List.length_drop]; omega) 36 [.pe [.fn J []] 0] (fun c => !p c) (block1_F J p hJ)
      have hall : ((l.drop (q * 2 ^ k)).take (2 ^ k)).any (fun c => !p c) = !okB p l k q := by
        unfold okB
        rw [List.all_eq_not_any_not, Bool.not_not]
      rw [hall] at hcf
      have hlt : decide (((q * 2 ^ k : Nat) : Int) + ((2 ^ k : Nat) : Int) ≤ ((il l).length : Int)) = true := by rw [hlen]; simp; exact_mod_cast h'
      dsimp only [bkS]
      cases hok : okB p l k q with
      | true =>
        rw [hok] at hcf
        (repeat (first | refine G.cW (hcf) ?_ | refine G.cgW (hcf) ?_ | refine GD.cW (hcf) ?_ | refine GD.cgW (hcf) ?_ | (show G _ _ _ _ (WL _ _ _ _ (⟨some _, .slice _ _ _ _ _, _, _, _, none⟩ :: _)); refine G.w1 ?_ (by first | exact LT.rd (Rd.slD (q * 2 ^ k) (q * 2 ^ k + 2 ^ k) (il_row l) hsl (by omega) (by rw [il_len]; omega)) rfl | fail)) | (show G _ _ _ _ (WL _ _ _ _ (⟨some _, .slice _ _ _ _ _, _, _, _, some _⟩ :: _)); refine G.gC ?_ (by first | (refine gi ?_; intros; exact LT.rd (Rd.slD (q * 2 ^ k) (q * 2 ^ k + 2 ^ k) (il_row l) hsl (by omega) (by rw [il_len]; omega)) rfl) | fail) rfl rfl) | (show GD _ _ _ _ _ _ _ _ _ _ (⟨some _, .slice _ _ _ _ _, _, _, _, none⟩ :: _); refine GD.w1 ?_ (by first | exact LT.rd (Rd.slD (q * 2 ^ k) (q * 2 ^ k + 2 ^ k) (il_row l) hsl (by omega) (by rw [il_len]; omega)) rfl | fail)) | (show GD _ _ _ _ _ _ _ _ _ _ (⟨some _, .slice _ _ _ _ _, _, _, _, some _⟩ :: _); refine GD.gC ?_ (by first | (refine gi ?_; intros; exact LT.rd (Rd.slD (q * 2 ^ k) (q * 2 ^ k + 2 ^ k) (il_row l) hsl (by omega) (by rw [il_len]; omega)) rfl) | fail) rfl rfl) | ((repeat (revert hK; revert K)); refine wk ?_; repeat intro K hK) | refine wkg ?_))
        refine G.fin1 (by first | exact rvOk.tmp | exact rvOk.cellS | exact rvOk.cell1 | fail) rfl ?_
        rw [blk_at h0 h hok]
      | false =>
        rw [hok] at hcf
        (repeat (first | refine G.cW (hcf) ?_ | refine G.cgW (hcf) ?_ | refine GD.cW (hcf) ?_ | refine GD.cgW (hcf) ?_ | (show G _ _ _ _ (WL _ _ _ _ (⟨some _, .slice _ _ _ _ _, _, _, _, none⟩ :: _)); refine G.w1 ?_ (by first | exact LT.rd (Rd.slD (q * 2 ^ k) (q * 2 ^ k + 2 ^ k) (il_row l) hsl (by omega) (by rw [il_len]; omega)) rfl | fail)) | (show G _ _ _ _ (WL _ _ _ _ (⟨some _, .slice _ _ _ _ _, _, _, _, some _⟩ :: _)); refine G.gC ?_ (by first | (refine gi ?_; intros; exact LT.rd (Rd.slD (q * 2 ^ k) (q * 2 ^ k + 2 ^ k) (il_row l) hsl (by omega) (by rw [il_len]; omega)) rfl) | fail) rfl rfl) | (show GD _ _ _ _ _ _ _ _ _ _ (⟨some _, .slice _ _ _ _ _, _, _, _, none⟩ :: _); refine GD.w1 ?_ (by first | exact LT.rd (Rd.slD (q * 2 ^ k) (q * 2 ^ k + 2 ^ k) (il_row l) hsl (by omega) (by rw [il_len]; omega)) rfl | fail)) | (show GD _ _ _ _ _ _ _ _ _ _ (⟨some _, .slice _ _ _ _ _, _, _, _, some _⟩ :: _); refine GD.gC ?_ (by first | (refine gi ?_; intros; exact LT.rd (Rd.slD (q * 2 ^ k) (q * 2 ^ k + 2 ^ k) (il_row l) hsl (by omega) (by rw [il_len]; omega)) rfl) | fail) rfl rfl) | ((repeat (revert hK; revert K)); refine wk ?_; repeat intro K hK) | refine wkg ?_))
        refine G.le 8 (.s (.int .i64 (((q + 1) * 2 ^ k : Nat) : Int))) (by rw [hs1]; exact D.le.refl _) ?_
        refine G.at (q + 1) [] ⟨⟨h, fun j hj => ?_⟩, ?_⟩ (by repeat (first | exact trivial | refine ⟨⟨rfl, rfl⟩, ?_⟩)) (by repeat (first | exact trivial | refine ⟨⟨rfl, rfl, rfl⟩, ?_⟩ | refine ⟨⟨rfl, by rw [renL_d]; rfl, kbL_d _ _⟩, ?_⟩ | refine ⟨rfl, ?_⟩)) (by decide)
        · by_cases e : j = q
          · subst e; exact hok
          · exact h0 j (by omega)
        · omega
    · have hlt : decide (((q * 2 ^ k : Nat) : Int) + ((2 ^ k : Nat) : Int) ≤ ((il l).length : Int)) = false := by
        rw [hlen, ← hs1]
        simp only [decide_eq_false_iff_not]
        intro h'
        exact h (by exact_mod_cast h')
      dsimp only [bkS]
      (repeat (first | ((repeat (revert hK; revert K)); refine wk ?_; repeat intro K hK) | refine wkg ?_))
      refine G.fin1 (by first | exact rvOk.tmp | exact rvOk.cellS | exact rvOk.cell1 | fail) rfl ?_
      rw [blk_end h0 (by omega)]
theorem fits_F (l : List Int) (hl : l.length ≤ 64) (hc : cOk l) (k : Nat) (hk : k ≤ 4) : Fn Try.prog 8 [.l (il l), .s (.int .i64 k)] (· = .s (.int .i64 (blkF (fun c => c == 0) l k))) := by
  refine Fn.of Try.func8 Try.ntmps8 rfl (by kernel_rfl) (fun w o => ?_)
  (repeat (first | (show G _ _ _ _ (WL _ _ _ _ (⟨some _, .call _, _, _, _, none⟩ :: _)); refine G.w1 ?_ (by first | exact LT.cfW (cblock_F l hl hc k hk 20 (fun c => c == 0) fits1_F) | fail)) | (show G _ _ _ _ (WL _ _ _ _ (⟨some _, .call _, _, _, _, some _⟩ :: _)); refine G.gC ?_ (by first | (refine gi ?_; intros; exact LT.cfW (cblock_F l hl hc k hk 20 (fun c => c == 0) fits1_F)) | fail) rfl rfl) | (show GD _ _ _ _ _ _ _ _ _ _ (⟨some _, .call _, _, _, _, none⟩ :: _); refine GD.w1 ?_ (by first | exact LT.cfW (cblock_F l hl hc k hk 20 (fun c => c == 0) fits1_F) | fail)) | (show GD _ _ _ _ _ _ _ _ _ _ (⟨some _, .call _, _, _, _, some _⟩ :: _); refine GD.gC ?_ (by first | (refine gi ?_; intros; exact LT.cfW (cblock_F l hl hc k hk 20 (fun c => c == 0) fits1_F)) | fail) rfl rfl) | ((repeat (revert hK; revert K)); refine wk ?_; repeat intro K hK) | refine wkg ?_))
  refine G.fin1 (by first | exact rvOk.tmp | exact rvOk.cellS | exact rvOk.cell1 | fail) rfl ?_
  rfl
def psS (l : List Int) (k i : Nat) (at0 : Int) : List (Nat × AV) × Bs := ([(16, .d (.s (.int .i64 (i : Nat)))), (15, .d (.s (.int .i64 l.length))), (14, .d (.l (il l))), (6, .d (.s (.int .i64 ((freeC (l.take i) : Nat) : Int)))), (1, .d (.s (.int .i64 k))), (5, .d (.s (.int .i64 at0)))], [])
theorem freeC_s (l : List Int) (i : Nat) (h : i < l.length) : freeC (l.take (i + 1)) = freeC (l.take i) + (if l[i] = 0 then 1 else 0) := by
  unfold freeC
  rw [List.take_succ_eq_append_getElem h, List.countP_append, List.countP_singleton]
  simp
theorem freeC_le (l : List Int) : freeC l ≤ l.length := List.countP_le_length
theorem possible_F (l : List Int) (hl : l.length ≤ 64) (hc : cOk l) (k : Nat) (hk : k ≤ 4) : Fn Try.prog 9 [.l (il l), .s (.int .i64 k)] (· = .s (.int .i64 (possF l k))) := by
  have hlen : ((il l).length : Int) = l.length := by rw [il_len]
  have hp : 2 ^ k ≤ 16 := Nat.pow_le_pow_right (by decide) hk
  have hp0 : 0 < 2 ^ k := Nat.pow_pos (by decide)
  have hsh : IntKind.i64.wrap (1 * 2 ^ min ((k : Nat) : Int).toNat IntKind.i64.bits) = ((2 ^ k : Nat) : Int) := by
    rw [Int.toNat_natCast, Nat.min_eq_left (by show k ≤ 64; omega), IntKind.wrap_i64, Int.one_mul]
    have : ((2 ^ k : Nat) : Int) ≤ 16 := by exact_mod_cast hp
    have : (0 : Int) < ((2 ^ k : Nat) : Int) := by exact_mod_cast hp0
    push_cast at *
    omega
  have hk0 : (0 : Int) ≤ (k : Int) := Int.natCast_nonneg _
  have hbk := cblock_F l hl hc k hk 21 (fun c => c != 2) poss1_F
  unfold possF
  generalize blkF (fun c => c != 2) l k = z at hbk ⊢
  by_cases hz : z < 0
  · rw [decide_eq_true hz]
    refine Fn.of Try.func9 Try.ntmps9 rfl (by kernel_rfl) (fun w o => ?_)
    (repeat (first | (show G _ _ _ _ (WL _ _ _ _ (⟨some _, .call _, _, _, _, none⟩ :: _)); refine G.w1 ?_ (by first | exact LT.cfW (hbk) | fail)) | (show G _ _ _ _ (WL _ _ _ _ (⟨some _, .call _, _, _, _, some _⟩ :: _)); refine G.gC ?_ (by first | (refine gi ?_; intros; exact LT.cfW (hbk)) | fail) rfl rfl) | (show GD _ _ _ _ _ _ _ _ _ _ (⟨some _, .call _, _, _, _, none⟩ :: _); refine GD.w1 ?_ (by first | exact LT.cfW (hbk) | fail)) | (show GD _ _ _ _ _ _ _ _ _ _ (⟨some _, .call _, _, _, _, some _⟩ :: _); refine GD.gC ?_ (by first | (refine gi ?_; intros; exact LT.cfW (hbk)) | fail) rfl rfl) | ((repeat (revert hK; revert K)); refine wk ?_; repeat intro K hK) | refine wkg ?_))
    refine G.fin1 (by first | exact rvOk.tmp | exact rvOk.cellS | exact rvOk.cell1 | fail) rfl ?_
    rfl
  · rw [decide_eq_false hz]
    refine Fn.of Try.func9 Try.ntmps9 rfl (by kernel_rfl) (fun w o => ?_)
    (repeat (first | (show G _ _ _ _ (WL _ _ _ _ (⟨some _, .call _, _, _, _, none⟩ :: _)); refine G.w1 ?_ (by first | exact LT.cfW (hbk) | fail)) | (show G _ _ _ _ (WL _ _ _ _ (⟨some _, .call _, _, _, _, some _⟩ :: _)); refine G.gC ?_ (by first | (refine gi ?_; intros; exact LT.cfW (hbk)) | fail) rfl rfl) | (show GD _ _ _ _ _ _ _ _ _ _ (⟨some _, .call _, _, _, _, none⟩ :: _); refine GD.w1 ?_ (by first | exact LT.cfW (hbk) | fail)) | (show GD _ _ _ _ _ _ _ _ _ _ (⟨some _, .call _, _, _, _, some _⟩ :: _); refine GD.gC ?_ (by first | (refine gi ?_; intros; exact LT.cfW (hbk)) | fail) rfl rfl) | ((repeat (revert hK; revert K)); refine wk ?_; repeat intro K hK) | refine wkg ?_))
    rw [hlen]
    refine G.loop (fun i => psS l k i z) (fun i => i ≤ l.length) (fun i => l.length - i) ?_ ?_
    · exact G.at 0 [] (Nat.zero_le _) (by repeat (first | exact trivial | refine ⟨⟨rfl, rfl⟩, ?_⟩)) (by repeat (first | exact trivial | refine ⟨⟨rfl, rfl, rfl⟩, ?_⟩ | refine ⟨⟨rfl, by rw [renL_d]; rfl, kbL_d _ _⟩, ?_⟩ | refine ⟨rfl, ?_⟩)) (by decide)
    · intro i hi
      have hfi := freeC_le (l.take i)
      rw [List.length_take] at hfi
      dsimp only [psS]
      by_cases h : i < l.length
      · have hr := il_get l i h
        have hfs := freeC_s l i h
        by_cases hv : l[i] = 0
        · rw [if_pos hv] at hfs
          rw [hv] at hr
          (repeat (first | (show G _ _ _ _ (WL _ _ _ _ (⟨some _, .indexAddr _ _ _, _, _, _, none⟩ :: _)); refine G.w1 ?_ (by first | exact LT.rd (Rd.ixv i (hr)) rfl | fail)) | (show G _ _ _ _ (WL _ _ _ _ (⟨some _, .indexAddr _ _ _, _, _, _, some _⟩ :: _)); refine G.gC ?_ (by first | (refine gi ?_; intros; exact LT.rd (Rd.ixv i (hr)) rfl) | fail) rfl rfl) | (show GD _ _ _ _ _ _ _ _ _ _ (⟨some _, .indexAddr _ _ _, _, _, _, none⟩ :: _); refine GD.w1 ?_ (by first | exact LT.rd (Rd.ixv i (hr)) rfl | fail)) | (show GD _ _ _ _ _ _ _ _ _ _ (⟨some _, .indexAddr _ _ _, _, _, _, some _⟩ :: _); refine GD.gC ?_ (by first | (refine gi ?_; intros; exact LT.rd (Rd.ixv i (hr)) rfl) | fail) rfl rfl) | ((repeat (revert hK; revert K)); refine wk ?_; repeat intro K hK) | refine wkg ?_))
          refine G.le 6 (.s (.int .i64 ((freeC (l.take (i + 1)) : Nat) : Int))) (by rw [hfs]; exact D.le.refl _) ?_
          exact G.at (i + 1) [] ⟨by omega, by omega⟩ (by repeat (first | exact trivial | refine ⟨⟨rfl, rfl⟩, ?_⟩)) (by repeat (first | exact trivial | refine ⟨⟨rfl, rfl, rfl⟩, ?_⟩ | refine ⟨⟨rfl, by rw [renL_d]; rfl, kbL_d _ _⟩, ?_⟩ | refine ⟨rfl, ?_⟩)) (by decide)
        · rw [if_neg hv, Nat.add_zero] at hfs
          have hb : (l[i] == 0) = false := by simpa using hv
          (repeat (first | (show G _ _ _ _ (WL _ _ _ _ (⟨some _, .indexAddr _ _ _, _, _, _, none⟩ :: _)); refine G.w1 ?_ (by first | exact LT.rd (Rd.ixv i (hr)) rfl | fail)) | (show G _ _ _ _ (WL _ _ _ _ (⟨some _, .indexAddr _ _ _, _, _, _, some _⟩ :: _)); refine G.gC ?_ (by first | (refine gi ?_; intros; exact LT.rd (Rd.ixv i (hr)) rfl) | fail) rfl rfl) | (show GD _ _ _ _ _ _ _ _ _ _ (⟨some _, .indexAddr _ _ _, _, _, _, none⟩ :: _); refine GD.w1 ?_ (by first | exact LT.rd (Rd.ixv i (hr)) rfl | fail)) | (show GD _ _ _ _ _ _ _ _ _ _ (⟨some _, .indexAddr _ _ _, _, _, _, some _⟩ :: _); refine GD.gC ?_ (by first | (refine gi ?_; intros; exact LT.rd (Rd.ixv i (hr)) rfl) | fail) rfl rfl) | ((repeat (revert hK; revert K)); refine wk ?_; repeat intro K hK) | refine wkg ?_))
          refine G.le 6 (.s (.int .i64 ((freeC (l.take (i + 1)) : Nat) : Int))) (by rw [hfs]; exact D.le.refl _) ?_
          exact G.at (i + 1) [] ⟨by omega, by omega⟩ (by repeat (first | exact trivial | refine ⟨⟨rfl, rfl⟩, ?_⟩)) (by repeat (first | exact trivial | refine ⟨⟨rfl, rfl, rfl⟩, ?_⟩ | refine ⟨⟨rfl, by rw [renL_d]; rfl, kbL_d _ _⟩, ?_⟩ | refine ⟨rfl, ?_⟩)) (by decide)
      · have e : i = l.length := by omega
        subst e
        rw [List.take_length]
        by_cases hw : freeC l < 2 ^ k
        · have hb : decide (((freeC l : Nat) : Int) < ((2 ^ k : Nat) : Int)) = true := by simp; exact_mod_cast hw
          (repeat (first | (show G _ _ _ _ (WL _ _ _ _ (⟨some _, .binOp .shl _ _ _ _, _, _, _, none⟩ :: _)); refine G.w1 ?_ (by first | exact LT.shl ((2 ^ k : Nat) : Int) | fail)) | (show G _ _ _ _ (WL _ _ _ _ (⟨some _, .binOp .shl _ _ _ _, _, _, _, some _⟩ :: _)); refine G.gC ?_ (by first | (refine gi ?_; intros; exact LT.shl ((2 ^ k : Nat) : Int)) | fail) rfl rfl) | (show GD _ _ _ _ _ _ _ _ _ _ (⟨some _, .binOp .shl _ _ _ _, _, _, _, none⟩ :: _); refine GD.w1 ?_ (by first | exact LT.shl ((2 ^ k : Nat) : Int) | fail)) | (show GD _ _ _ _ _ _ _ _ _ _ (⟨some _, .binOp .shl _ _ _ _, _, _, _, some _⟩ :: _); refine GD.gC ?_ (by first | (refine gi ?_; intros; exact LT.shl ((2 ^ k : Nat) : Int)) | fail) rfl rfl) | ((repeat (revert hK; revert K)); refine wk ?_; repeat intro K hK) | refine wkg ?_))
          refine G.fin1 (by first | exact rvOk.tmp | exact rvOk.cellS | exact rvOk.cell1 | fail) rfl ?_
          rw [decide_eq_true hw]
          rfl
        · have hb : decide (((freeC l : Nat) : Int) < ((2 ^ k : Nat) : Int)) = false := by
            simp only [decide_eq_false_iff_not]
            intro h'
            exact hw (by exact_mod_cast h')
          (repeat (first | (show G _ _ _ _ (WL _ _ _ _ (⟨some _, .binOp .shl _ _ _ _, _, _, _, none⟩ :: _)); refine G.w1 ?_ (by first | exact LT.shl ((2 ^ k : Nat) : Int) | fail)) | (show G _ _ _ _ (WL _ _ _ _ (⟨some _, .binOp .shl _ _ _ _, _, _, _, some _⟩ :: _)); refine G.gC ?_ (by first | (refine gi ?_; intros; exact LT.shl ((2 ^ k : Nat) : Int)) | fail) rfl rfl) | (show GD _ _ _ _ _ _ _ _ _ _ (⟨some _, .binOp .shl _ _ _ _, _, _, _, none⟩ :: _); refine GD.w1 ?_ (by first | exact LT.shl ((2 ^ k : Nat) : Int) | fail)) | (show GD _ _ _ _ _ _ _ _ _ _ (⟨some _, .binOp .shl _ _ _ _, _, _, _, some _⟩ :: _); refine GD.gC ?_ (by first | (refine gi ?_; intros; exact LT.shl ((2 ^ k : Nat) : Int)) | fail) rfl rfl) | ((repeat (revert hK; revert K)); refine wk ?_; repeat intro K hK) | refine wkg ?_))
          refine G.fin1 (by first | exact rvOk.tmp | exact rvOk.cellS | exact rvOk.cell1 | fail) rfl ?_
          rw [decide_eq_false hw]
          rfl

end Go.Proofs.Ytohpbfcechbngaa
