/- Compaction: Clear, Apply. -/
import Derived.Test.YtohpbfcechbngaaCg
set_option linter.unusedSimpArgs false
set_option linter.unusedVariables false
namespace Go.Proofs.Ytohpbfcechbngaa
open Go.RowKit

/-! ### Plain -/
def frU (l : List Int) (s e t : Nat) : List Nat := (List.range t).filter (fun i => !(decide (s ≤ i) && decide (i < e)) && isC l 0 i)
def mvU (l : List Int) (s t : Nat) : List Nat := (List.range t).filter (fun i => decide (s ≤ i) && isC l 1 i)
theorem frU_s (l : List Int) (s e t : Nat) : frU l s e (t + 1) = frU l s e t ++ (if (!(decide (s ≤ t) && decide (t < e)) && isC l 0 t) = true then [t] else []) := by
  unfold frU
  rw [List.range_succ, List.filter_append]
  congr 1
  simp only [List.filter_cons, List.filter_nil]
theorem mvU_s (l : List Int) (s t : Nat) : mvU l s (t + 1) = mvU l s t ++ (if (decide (s ≤ t) && isC l 1 t) = true then [t] else []) := by
  unfold mvU
  rw [List.range_succ, List.filter_append]
  congr 1
  simp only [List.filter_cons, List.filter_nil]
theorem mvU_0 (l : List Int) (s : Nat) : mvU l s s = [] := by
  unfold mvU
  rw [List.filter_eq_nil_iff]
  intro i hi
  have := List.mem_range.1 hi
  simp
  omega
theorem frU_mono (l : List Int) (s e : Nat) {t u : Nat} (h : t ≤ u) : ∃ r, frU l s e u = frU l s e t ++ r := by
  obtain ⟨d, rfl⟩ : ∃ d, u = t + d := ⟨u - t, by omega⟩
  induction d with
  | zero => exact ⟨[], by simp⟩
  | succ d ih =>
    obtain ⟨r, hr⟩ := ih (by omega)
    exact ⟨r ++ _, by rw [← Nat.add_assoc, frU_s, hr, List.append_assoc]⟩
theorem mvU_len (l : List Int) (s : Nat) {t u : Nat} (h : t ≤ u) : (mvU l s t).length ≤ (mvU l s u).length := by
  obtain ⟨d, rfl⟩ : ∃ d, u = t + d := ⟨u - t, by omega⟩
  induction d with
  | zero => exact Nat.le_refl _
  | succ d ih =>
    have := ih (by omega)
    rw [← Nat.add_assoc, mvU_s, List.length_append]
    omega
def mvR (ms : List (Nat × Nat)) : List (List D) := ms.map fun p => [iD p.1, iD p.2]
theorem mvR_len (ms : List (Nat × Nat)) : (mvR ms).length = ms.length := by simp [mvR]
theorem mvR_app (a b : List (Nat × Nat)) : mvR (a ++ b) = mvR a ++ mvR b := by simp [mvR]
theorem mvR_get (ms : List (Nat × Nat)) (i : Nat) (h : i < ms.length) : (mvR ms)[i]? = some [iD ms[i].1, iD ms[i].2] := by simp [mvR, h]
theorem mvR_row (ms : List (Nat × Nat)) : ∀ r ∈ mvR ms, r.length = 2 := fun r hr => by
  obtain ⟨x, _, rfl⟩ := List.mem_map.1 hr
  rfl
/-- The moves that clear cells s to before e. -/
def clrM (l : List Int) (s e : Nat) : List (Nat × Nat) := (mvU l s e).zip (frU l s e l.length)

def clS (l : List Int) (s e : Nat) (z : Nat × Nat) : List (Nat × AV) × Bs := ([(10, .o 0 (mvR ((mvU l s z.1).zip (frU l s e z.2))).length), (11, .d (.s (.int .i64 ((z.2 : Int) - 1)))), (12, .d (.s (.int .i64 (z.1 : Nat)))), (9, .d (.s (.int .i64 (e : Nat)))), (0, .d (.l (il l))), (1, .d (.s (.int .i64 (s : Nat))))], [(0, some (53, (mvR ((mvU l s z.1).zip (frU l s e z.2))).flatten.map .d))])
def clT (l : List Int) (s e f : Nat) (ms : List (Nat × Nat)) (t : Nat) : List (Nat × AV) × Bs := ([(10, .o 0 (mvR ms).length), (11, .d (.s (.int .i64 (t : Nat)))), (12, .d (.s (.int .i64 (f : Nat)))), (9, .d (.s (.int .i64 (e : Nat)))), (0, .d (.l (il l))), (1, .d (.s (.int .i64 (s : Nat))))], [(0, some (53, (mvR ms).flatten.map .d))])
attribute [local irreducible] Wp WL WO fin finB rnd Exit.then Exit.inBlock G GD LT Rd Fn FnB FvB Iter
attribute [local go_sem] iD
set_option maxHeartbeats 4000000 in
theorem clear_F (l : List Int) (hl : l.length ≤ 64) (hc : cOk l) (s m e : Nat) (hm : e = s + m) (he : e ≤ l.length) (h2 : ∀ i (h : i < l.length), s ≤ i → i < e → l[i] ≠ 2) (hfit : (mvU l s e).length ≤ (frU l s e l.length).length) : Fn Try.prog 10 [.l (il l), .s (.int .i64 s), .s (.int .i64 m)] (· = .tup [.l (mvR (clrM l s e)), .s (.int .i64 0)]) := by
  have hlen : ((il l).length : Int) = l.length := by rw [il_len]
  have hch := ccheck_F l (by omega) hc
  have hsl : ((il l).drop s).take (e - s) = il ((l.drop s).take m) := by rw [il_take, il_drop, hm, Nat.add_sub_cancel_left]
  have hct := contains_F ((l.drop s).take m) (by rw [List.length_take, List.length_drop]; omega) 2
  have h2' : ((l.drop s).take m).any (fun c => (2 : Int) == c) = false := by
    rw [List.any_eq_false]
    intro c hc'
    obtain ⟨j, hj, rfl⟩ := List.mem_take_iff_getElem.1 hc'
    rw [List.length_drop] at hj
    rw [List.getElem_drop]
    have := h2 (s + j) (by omega) (by omega) (by omega)
    simp
    omega
  rw [h2'] at hct
  have hb : (decide ((s : Int) < 0) || decide ((m : Int) < 0) || decide (((il l).length : Int) < (s : Int)) || decide (((il l).length : Int) - (s : Int) < (m : Int))) = false := by
    rw [hlen]; simp; omega
  refine Fn.of Try.func10 Try.ntmps10 rfl (by kernel_rfl) (fun w o => ?_)
  (repeat (first | refine G.cW (hch) ?_ | refine G.cgW (hch) ?_ | refine GD.cW (hch) ?_ | refine GD.cgW (hch) ?_ | refine G.cW (hct) ?_ | refine G.cgW (hct) ?_ | refine GD.cW (hct) ?_ | refine GD.cgW (hct) ?_ | (show G _ _ _ _ (WL _ _ _ _ (⟨some _, .slice _ _ _ _ _, _, _, _, none⟩ :: _)); refine G.w1 ?_ (by first | exact LT.rd (Rd.slD s e (il_row l) hsl (by omega) (by rw [il_len]; omega)) rfl | fail)) | (show G _ _ _ _ (WL _ _ _ _ (⟨some _, .slice _ _ _ _ _, _, _, _, some _⟩ :: _)); refine G.gC ?_ (by first | (refine gi ?_; intros; exact LT.rd (Rd.slD s e (il_row l) hsl (by omega) (by rw [il_len]; omega)) rfl) | fail) rfl rfl) | (show GD _ _ _ _ _ _ _ _ _ _ (⟨some _, .slice _ _ _ _ _, _, _, _, none⟩ :: _); refine GD.w1 ?_ (by first | exact LT.rd (Rd.slD s e (il_row l) hsl (by omega) (by rw [il_len]; omega)) rfl | fail)) | (show GD _ _ _ _ _ _ _ _ _ _ (⟨some _, .slice _ _ _ _ _, _, _, _, some _⟩ :: _); refine GD.gC ?_ (by first | (refine gi ?_; intros; exact LT.rd (Rd.slD s e (il_row l) hsl (by omega) (by rw [il_len]; omega)) rfl) | fail) rfl rfl) | ((repeat (revert hK; revert K)); refine wk ?_; repeat intro K hK) | refine wkg ?_))
  refine G.nilRow 10 53 ?_
  refine G.le 9 (.s (.int .i64 ((e : Nat) : Int))) (by rw [hm]; push_cast; exact D.le.refl _) ?_
  refine G.loop (clS l s e) (fun z => s ≤ z.1 ∧ z.1 ≤ e ∧ z.2 ≤ l.length ∧ (mvU l s z.1).length = (frU l s e z.2).length) (fun z => e - z.1) ?_ ?_
  · refine G.at (s, 0) [(0, 0)] ⟨Nat.le_refl _, by dsimp only; omega, Nat.zero_le _, by rw [mvU_0]; rfl⟩ ?_ ?_ (by decide)
    · dsimp only [clS]
      rw [mvU_0]
      exact (by repeat (first | exact trivial | refine ⟨⟨rfl, rfl⟩, ?_⟩))
    · dsimp only [clS]
      rw [mvU_0]
      exact (by repeat (first | exact trivial | refine ⟨⟨rfl, rfl, rfl⟩, ?_⟩ | refine ⟨⟨rfl, by rw [renL_d]; rfl, kbL_d _ _⟩, ?_⟩ | refine ⟨rfl, ?_⟩))
  · rintro ⟨f, t⟩ ⟨hf1, hf2, ht, hlm⟩
    dsimp only at hf1 hf2 ht hlm
    by_cases hf : f < e
    · have hfl : f < l.length := by omega
      have hr := il_get l f hfl
      by_cases hv : l[f] = 1
      · rw [hv] at hr
        have hmv : mvU l s (f + 1) = mvU l s f ++ [f] := by
          rw [mvU_s, if_pos]
          simp only [Bool.and_eq_true, decide_eq_true_eq]
          exact ⟨hf1, isC_iff.2 ⟨hfl, hv⟩⟩
        have hlt : (mvU l s f).length + 1 ≤ (frU l s e l.length).length := by
          have := mvU_len l s (t := f + 1) (u := e) (by omega)
          rw [hmv, List.length_append] at this
          simp at this
          omega
        have hzip := fun (u : Nat) (hu : frU l s e u = frU l s e t) (hin : frU l s e (u + 1) = frU l s e u ++ [u]) => show (mvU l s (f + 1)).zip (frU l s e (u + 1)) = (mvU l s f).zip (frU l s e t) ++ [(f, u)] by
          rw [hmv, hin, hu, List.zip_append hlm]; rfl
        have hmsl : ((mvU l s f).zip (frU l s e t)).length ≤ 64 := by
          have h3 := mvU_len l s (t := f) (u := e) (by omega)
          have h4 : (frU l s e l.length).length ≤ (List.range l.length).length := List.length_filter_le _ _
          rw [List.length_range] at h4
          rw [List.length_zip]
          omega
        dsimp only [clS]
        generalize (mvU l s f).zip (frU l s e t) = ms at hzip hmsl
        (repeat (first | (show G _ _ _ _ (WL _ _ _ _ (⟨some _, .indexAddr _ _ _, _, _, _, none⟩ :: _)); refine G.w1 ?_ (by first | exact LT.rd (Rd.ixv f (hr)) rfl | fail)) | (show G _ _ _ _ (WL _ _ _ _ (⟨some _, .indexAddr _ _ _, _, _, _, some _⟩ :: _)); refine G.gC ?_ (by first | (refine gi ?_; intros; exact LT.rd (Rd.ixv f (hr)) rfl) | fail) rfl rfl) | (show GD _ _ _ _ _ _ _ _ _ _ (⟨some _, .indexAddr _ _ _, _, _, _, none⟩ :: _); refine GD.w1 ?_ (by first | exact LT.rd (Rd.ixv f (hr)) rfl | fail)) | (show GD _ _ _ _ _ _ _ _ _ _ (⟨some _, .indexAddr _ _ _, _, _, _, some _⟩ :: _); refine GD.gC ?_ (by first | (refine gi ?_; intros; exact LT.rd (Rd.ixv f (hr)) rfl) | fail) rfl rfl) | ((repeat (revert hK; revert K)); refine wk ?_; repeat intro K hK) | refine wkg ?_))
        refine G.le 11 (.s (.int .i64 ((t : Nat) : Int))) (by rw [show ((t : Nat) : Int) = (t : Int) - 1 + 1 by omega]; exact D.le.refl _) ?_
        refine G.loop (clT l s e f ms) (fun u => t ≤ u ∧ u ≤ l.length ∧ frU l s e u = frU l s e t) (fun u => l.length - u) ?_ ?_
        · exact G.at t [(0, 0)] ⟨Nat.le_refl _, ht, rfl⟩ (by repeat (first | exact trivial | refine ⟨⟨rfl, rfl⟩, ?_⟩)) (by repeat (first | exact trivial | refine ⟨⟨rfl, rfl, rfl⟩, ?_⟩ | refine ⟨⟨rfl, by rw [renL_d]; rfl, kbL_d _ _⟩, ?_⟩ | refine ⟨rfl, ?_⟩)) (by decide)
        · rintro u ⟨hu1, hu2, hu3⟩
          dsimp only [clT]
          have hb0 : decide ((u : Int) < ((il l).length : Int)) = decide (u < l.length) := by rw [hlen]; simp
          by_cases hul : u < l.length
          · have hru := il_get l u hul
            rw [decide_eq_true hul] at hb0
            by_cases hv0 : l[u] = 0
            · rw [hv0] at hru
              by_cases hse : s ≤ u ∧ u < e
              · have hno : frU l s e (u + 1) = frU l s e u := by
                  rw [frU_s, if_neg, List.append_nil]
                  simp [hse.1, hse.2]
                obtain ⟨hse1, hse2⟩ := hse
                (repeat (first | (show G _ _ _ _ (WL _ _ _ _ (⟨some _, .indexAddr _ _ _, _, _, _, none⟩ :: _)); refine G.w1 ?_ (by first | exact LT.rd (Rd.ixv u (hru)) rfl | fail)) | (show G _ _ _ _ (WL _ _ _ _ (⟨some _, .indexAddr _ _ _, _, _, _, some _⟩ :: _)); refine G.gC ?_ (by first | (refine gi ?_; intros; exact LT.rd (Rd.ixv u (hru)) rfl) | fail) rfl rfl) | (show GD _ _ _ _ _ _ _ _ _ _ (⟨some _, .indexAddr _ _ _, _, _, _, none⟩ :: _); refine GD.w1 ?_ (by first | exact LT.rd (Rd.ixv u (hru)) rfl | fail)) | (show GD _ _ _ _ _ _ _ _ _ _ (⟨some _, .indexAddr _ _ _, _, _, _, some _⟩ :: _); refine GD.gC ?_ (by first | (refine gi ?_; intros; exact LT.rd (Rd.ixv u (hru)) rfl) | fail) rfl rfl) | ((repeat (revert hK; revert K)); refine wk ?_; repeat intro K hK) | refine wkg ?_))
                exact G.at (u + 1) [(0, 0)] ⟨⟨by omega, by omega, by rw [hno]; exact hu3⟩, by omega⟩ (by repeat (first | exact trivial | refine ⟨⟨rfl, rfl⟩, ?_⟩)) (by repeat (first | exact trivial | refine ⟨⟨rfl, rfl, rfl⟩, ?_⟩ | refine ⟨⟨rfl, by rw [renL_d]; rfl, kbL_d _ _⟩, ?_⟩ | refine ⟨rfl, ?_⟩)) (by decide)
              · have hin : frU l s e (u + 1) = frU l s e u ++ [u] := by
                  rw [frU_s, if_pos]
                  simp only [Bool.and_eq_true, Bool.not_eq_true', Bool.and_eq_false_iff, decide_eq_false_iff_not]
                  exact ⟨by omega, isC_iff.2 ⟨hul, hv0⟩⟩
                have hz := hzip u hu3 hin
                have hb1 : (decide ((s : Int) ≤ (u : Int)) && decide ((u : Int) < (e : Int))) = false := by simp; omega
                have h63 : (mvR ms).length ≤ 256 := by rw [mvR_len]; omega
                (repeat (first | (show G _ _ _ _ (WL _ _ _ _ (⟨some _, .indexAddr _ _ _, _, _, _, none⟩ :: _)); refine G.w1 ?_ (by first | exact LT.rd (Rd.ixv u (hru)) rfl | fail)) | (show G _ _ _ _ (WL _ _ _ _ (⟨some _, .indexAddr _ _ _, _, _, _, some _⟩ :: _)); refine G.gC ?_ (by first | (refine gi ?_; intros; exact LT.rd (Rd.ixv u (hru)) rfl) | fail) rfl rfl) | (show GD _ _ _ _ _ _ _ _ _ _ (⟨some _, .indexAddr _ _ _, _, _, _, none⟩ :: _); refine GD.w1 ?_ (by first | exact LT.rd (Rd.ixv u (hru)) rfl | fail)) | (show GD _ _ _ _ _ _ _ _ _ _ (⟨some _, .indexAddr _ _ _, _, _, _, some _⟩ :: _); refine GD.gC ?_ (by first | (refine gi ?_; intros; exact LT.rd (Rd.ixv u (hru)) rfl) | fail) rfl rfl) | ((repeat (revert hK; revert K)); refine wk ?_; repeat intro K hK) | refine wkg ?_))
                refine G.le 11 (.s (.int .i64 (((u + 1 : Nat) : Int) - 1))) (by rw [show ((u + 1 : Nat) : Int) - 1 = (u : Int) by omega]; exact D.le.refl _) ?_
                refine G.at (f + 1, u + 1) [(0, 1)] ⟨⟨by dsimp only; omega, by dsimp only; omega, by dsimp only; omega, ?_⟩, by dsimp only; omega⟩ ?_ ?_ (by decide)
                · dsimp only
                  rw [hmv, hin, List.length_append, List.length_append, hu3, hlm]
                  rfl
                · dsimp only [clS]
                  rw [hz, mvR_app, List.length_append]
                  exact (by repeat (first | exact trivial | refine ⟨⟨rfl, rfl⟩, ?_⟩))
                · dsimp only [clS]
                  rw [hz, mvR_app]
                  exact (by repeat (first | exact trivial | refine ⟨⟨rfl, rfl, rfl⟩, ?_⟩ | refine ⟨⟨rfl, by rw [renL_d]; rfl, kbL_d _ _⟩, ?_⟩ | refine ⟨rfl, ?_⟩))
            · have hno : frU l s e (u + 1) = frU l s e u := by
                rw [frU_s, if_neg, List.append_nil]
                simp only [Bool.and_eq_true, not_and]
                intro _ h
                exact hv0 (isC_iff.1 h).2
              have hb1 : (l[u] != 0) = true := by simpa using hv0
              (repeat (first | (show G _ _ _ _ (WL _ _ _ _ (⟨some _, .indexAddr _ _ _, _, _, _, none⟩ :: _)); refine G.w1 ?_ (by first | exact LT.rd (Rd.ixv u (hru)) rfl | fail)) | (show G _ _ _ _ (WL _ _ _ _ (⟨some _, .indexAddr _ _ _, _, _, _, some _⟩ :: _)); refine G.gC ?_ (by first | (refine gi ?_; intros; exact LT.rd (Rd.ixv u (hru)) rfl) | fail) rfl rfl) | (show GD _ _ _ _ _ _ _ _ _ _ (⟨some _, .indexAddr _ _ _, _, _, _, none⟩ :: _); refine GD.w1 ?_ (by first | exact LT.rd (Rd.ixv u (hru)) rfl | fail)) | (show GD _ _ _ _ _ _ _ _ _ _ (⟨some _, .indexAddr _ _ _, _, _, _, some _⟩ :: _); refine GD.gC ?_ (by first | (refine gi ?_; intros; exact LT.rd (Rd.ixv u (hru)) rfl) | fail) rfl rfl) | ((repeat (revert hK; revert K)); refine wk ?_; repeat intro K hK) | refine wkg ?_))
              exact G.at (u + 1) [(0, 0)] ⟨⟨by omega, by omega, by rw [hno]; exact hu3⟩, by omega⟩ (by repeat (first | exact trivial | refine ⟨⟨rfl, rfl⟩, ?_⟩)) (by repeat (first | exact trivial | refine ⟨⟨rfl, rfl, rfl⟩, ?_⟩ | refine ⟨⟨rfl, by rw [renL_d]; rfl, kbL_d _ _⟩, ?_⟩ | refine ⟨rfl, ?_⟩)) (by decide)
          · have hue : u = l.length := by omega
            rw [hue] at hu3
            rw [hu3] at hlt
            omega
      · have hmv : mvU l s (f + 1) = mvU l s f := by
          rw [mvU_s, if_neg, List.append_nil]
          simp only [Bool.and_eq_true, not_and]
          intro _ h
          exact hv (isC_iff.1 h).2
        have hb1 : (l[f] != 1) = true := by simpa using hv
        dsimp only [clS]
        (repeat (first | (show G _ _ _ _ (WL _ _ _ _ (⟨some _, .indexAddr _ _ _, _, _, _, none⟩ :: _)); refine G.w1 ?_ (by first | exact LT.rd (Rd.ixv f (hr)) rfl | fail)) | (show G _ _ _ _ (WL _ _ _ _ (⟨some _, .indexAddr _ _ _, _, _, _, some _⟩ :: _)); refine G.gC ?_ (by first | (refine gi ?_; intros; exact LT.rd (Rd.ixv f (hr)) rfl) | fail) rfl rfl) | (show GD _ _ _ _ _ _ _ _ _ _ (⟨some _, .indexAddr _ _ _, _, _, _, none⟩ :: _); refine GD.w1 ?_ (by first | exact LT.rd (Rd.ixv f (hr)) rfl | fail)) | (show GD _ _ _ _ _ _ _ _ _ _ (⟨some _, .indexAddr _ _ _, _, _, _, some _⟩ :: _); refine GD.gC ?_ (by first | (refine gi ?_; intros; exact LT.rd (Rd.ixv f (hr)) rfl) | fail) rfl rfl) | ((repeat (revert hK; revert K)); refine wk ?_; repeat intro K hK) | refine wkg ?_))
        rw [← hmv]
        exact G.at (f + 1, t) [(0, 0)] ⟨⟨by dsimp only; omega, by dsimp only; omega, ht, by rw [hmv]; exact hlm⟩, by dsimp only; omega⟩ (by repeat (first | exact trivial | refine ⟨⟨rfl, rfl⟩, ?_⟩)) (by repeat (first | exact trivial | refine ⟨⟨rfl, rfl, rfl⟩, ?_⟩ | refine ⟨⟨rfl, by rw [renL_d]; rfl, kbL_d _ _⟩, ?_⟩ | refine ⟨rfl, ?_⟩)) (by decide)
    · have hfe : f = e := by omega
      subst hfe
      have hzz : (mvU l s f).zip (frU l s f t) = clrM l s f := by
        obtain ⟨r, hr⟩ := frU_mono l s f ht
        unfold clrM
        rw [hr]
        have := List.zip_append (l₁ := mvU l s f) (r₁ := []) (l₂ := frU l s f t) (r₂ := r) hlm
        rw [List.append_nil, List.zip_nil_left, List.append_nil] at this
        exact this.symm
      dsimp only [clS]
      rw [hzz]
      (repeat (first | ((repeat (revert hK; revert K)); refine wk ?_; repeat intro K hK) | refine wkg ?_))
      refine G.frz (T := 53) (rows := mvR (clrM l s f)) 6 ?_ (mvR_row _) rfl
      refine G.fin2 (by first | exact rvOk.tmp | exact rvOk.cellS | exact rvOk.cell1 | fail) (by first | exact rvOk.tmp | exact rvOk.cellS | exact rvOk.cell1 | fail) rfl ?_
      rfl

end Go.Proofs.Ytohpbfcechbngaa
