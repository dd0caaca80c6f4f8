/- The law AddrspaceLowest as a contract. -/
import Derived.Test.YtjdpignfdncebaaVkM
import Derived.Test.YtjdpignfdncebaaVbM
set_option linter.unusedSimpArgs false
set_option linter.unusedVariables false
namespace Go.Proofs.Ytjdpignfdncebaa
open Go.RowKit

theorem free_iff {l : List RV} (hl : okl l) {s n : Int} (hn : 1 ≤ n) : freeL l s n = true ↔ ∀ q, s ≤ q → q < s + n → (findV l q).2 = false := by
  rw [freeL, List.all_eq_true]
  constructor
  · intro h q h1 h2
    rw [← Bool.not_eq_true, find_iff hl]
    rintro ⟨x, hx, h3⟩
    have := freeR_iff.1 (h x hx)
    unfold RV.e at this
    omega
  · intro h x hx
    refine freeR_iff.2 ?_
    have bx := chkV_bd (hl.c x hx)
    unfold RV.e
    refine Classical.byContradiction fun hc => ?_
    have h1 : s < x.s + x.p ∧ x.s < s + n := by omega
    by_cases h2 : s ≤ x.s
    · have := h x.s h2 h1.2
      rw [(find_iff hl x.s).2 ⟨x, hx, by omega⟩] at this
      cases this
    · have := h s (by omega) (by omega)
      rw [(find_iff hl s).2 ⟨x, hx, by omega⟩] at this
      cases this
theorem free_no {l : List RV} (hl : okl l) {s n q : Int} (hn : 1 ≤ n) (h1 : s ≤ q) (h2 : q < s + n) (hq : (findV l q).2 = true) : freeL l s n = false := by
  rw [← Bool.not_eq_true, free_iff hl hn]
  intro h
  rw [h q h1 h2] at hq
  cases hq

/-- uint8 to int. -/
theorem LT.cv8 {P : Program} {X : Cx} {al : List (Nat × AV)} {bs : Bs} {T T' d : Nat} {x : Operand} {m : Int} [hT : TIn P T .u8] [hT' : TIn P T' .i64] (hx : Evd al x (.d (.s (.int .u8 m))) := by exact ⟨_, rfl, by (try (apply Und.gd; assumption; try (apply Und.gd; assumption; try (apply Und.gd; assumption)))); exact Und.refl _⟩) (hm : 0 ≤ m ∧ m ≤ 255 := by first | assumption | omega) (hd : Nat.blt d X.N = true := by rfl) : LT P X al bs (.convert T T' x) (some d) [] [(d, .d (.s (.int .i64 m)))] [] :=
  LT.rd (fun al2 bs2 hl hB E a W h => ⟨_, .d (.s rfl), fun op ho => by
    have h1 := h.evs (hl.evd hx (by simp [Op.operands]))
    have hw : IntKind.i64.wrap m = m := Yq m (by omega)
    unfold execOp
    simp [ho, h1, convert, Conv.intToInt, run_underlying hT.h, run_underlying hT'.h, hw]⟩) hd
attribute [local irreducible] Wp WL WO fin finB rnd Exit.then Exit.inBlock G GD LT Rd Fn FnB FvB Iter
attribute [local go_sem] RV.row TD.row S5.row
structure LwOK (l : List RV) (n : Int) (p run : Nat) : Prop where
  h1 : run ≤ p
  h2 : (run : Int) < n
  h3 : p ≤ 512
  h4 : ∀ q : Int, (p : Int) - run ≤ q → q < p → (findV l q).2 = false
  h5 : ∀ s : Int, 0 ≤ s → s + n ≤ p → freeL l s n = false
  h6 : run < p → (findV l ((p : Int) - run - 1)).2 = true
theorem LwOK.hit {l : List RV} {n : Int} {p run : Nat} (h : LwOK l n p run) (hl : okl l) (hn : 1 ≤ n) (hp : p < 512) (hq : (findV l p).2 = true) : LwOK l n (p + 1) 0 where
  h1 := by omega
  h2 := by omega
  h3 := by omega
  h4 := fun q h1 h2 => by omega
  h5 := fun s h0 h1 => by
    by_cases e : s + n ≤ p
    · exact h.h5 s h0 e
    · exact free_no hl hn (q := p) (by omega) (by omega) hq
  h6 := fun _ => by
    rw [show ((p + 1 : Nat) : Int) - (0 : Nat) - 1 = p by omega]
    exact hq
theorem LwOK.miss {l : List RV} {n : Int} {p run : Nat} (h : LwOK l n p run) (hl : okl l) (hn : 1 ≤ n) (hp : p < 512) (hq : (findV l p).2 = false) (hr : (run : Int) + 1 < n) : LwOK l n (p + 1) (run + 1) where
  h1 := by have := h.h1; omega
  h2 := by omega
  h3 := by omega
  h4 := fun q h1 h2 => by
    by_cases e : q = p
    · subst e; exact hq
    · exact h.h4 q (by omega) (by omega)
  h5 := fun s h0 h1 => by
    by_cases e : s + n ≤ p
    · exact h.h5 s h0 e
    · have := h.h1
      exact free_no hl hn (q := (p : Int) - run - 1) (by omega) (by omega) (h.h6 (by omega))
  h6 := fun h1 => by
    rw [show ((p + 1 : Nat) : Int) - (run + 1 : Nat) - 1 = (p : Int) - run - 1 by omega]
    exact h.h6 (by omega)
theorem LwOK.found {p0 : PT} (hg : good p0) {n : Int} {p run : Nat} (h : LwOK p0.flat n p run) (hl : okl p0.flat) (hn : 1 ≤ n) (hp : p < 512) (hq : (findV p0.flat p).2 = false) (hr : (run : Int) + 1 = n) : GapF p0 0 512 n = (p : Int) - n + 1 := by
  have h1 := h.h1
  refine GapF_first hg (by omega) (by omega) (by omega) hn (by omega) (by omega) ?_ (fun q g1 g2 => h.h5 q g1 (by omega))
  rw [free_iff hl hn]
  intro q g1 g2
  by_cases e : q = p
  · subst e; exact hq
  · exact h.h4 q (by omega) (by omega)
theorem LwOK.none {p0 : PT} (hg : good p0) {n : Int} {run : Nat} (h : LwOK p0.flat n 512 run) (hn : 1 ≤ n) : GapF p0 0 512 n = -1 :=
  GapF_none hg (by omega) (by omega) (by omega) hn (fun q h1 h2 => h.h5 q h1 (by omega))
def lwI (p : PT) (n : Int) (z : Nat × Nat) : List (Nat × AV) × Bs := ([(8, .d (.s (.int .i64 (z.1 : Int)))), (7, .d (.s (.int .i64 (z.2 : Int)))), (6, .d (.s (.int .i64 (GapF p 0 512 n)))), (5, .d (.s (.int .i64 n))), (2, .p 0 0)], [(0, some (26, p.td.row.map .d))])
set_option maxRecDepth 100000 in
theorem law_lowest0 (t : GT) (m : Int) (hm : 0 ≤ m ∧ m ≤ 255) : Fn Try.prog 10 [.st t.td.row, .s (.int .u8 m)] (· = .s (.bool true)) := by
  have hfw := few_F t (few_G t)
  have hm1 := hm.1
  cases hf : fewG t with
  | false =>
    rw [hf] at hfw
    have hb : (!false) = true := rfl
    refine Fn.of Try.func10 Try.ntmps10 rfl (by kernel_rfl) (fun w o => ?_)
    (repeat (first | refine G.cW (hfw) ?_ | refine G.cgW (hfw) ?_ | refine GD.cW (hfw) ?_ | refine GD.cgW (hfw) ?_ | refine G.cW (awake_F) ?_ | refine G.cgW (awake_F) ?_ | refine GD.cW (awake_F) ?_ | refine GD.cgW (awake_F) ?_ | (show G _ _ _ _ (WL _ _ _ _ (⟨some _, .convert _ _ _, _, _, _, none⟩ :: _)); refine G.w1 ?_ (by first | exact LT.cv8 | fail)) | (show G _ _ _ _ (WL _ _ _ _ (⟨some _, .convert _ _ _, _, _, _, some _⟩ :: _)); refine G.gC ?_ (by first | (refine gi ?_; intros; exact LT.cv8) | fail) rfl rfl) | (show GD _ _ _ _ _ _ _ _ _ _ (⟨some _, .convert _ _ _, _, _, _, none⟩ :: _); refine GD.w1 ?_ (by first | exact LT.cv8 | fail)) | (show GD _ _ _ _ _ _ _ _ _ _ (⟨some _, .convert _ _ _, _, _, _, some _⟩ :: _); refine GD.gC ?_ (by first | (refine gi ?_; intros; exact LT.cv8) | fail) rfl rfl) | ((repeat (revert hK; revert K)); refine wk ?_; repeat intro K hK) | refine wkg ?_))
    refine G.fin1 (by first | exact rvOk.tmp | exact rvOk.cellS | exact rvOk.cell1 | fail) rfl ?_
    rfl
  | true =>
    rw [hf] at hfw
    cases sok_of (tok_of t hf) with
    | bad e he h1 h2 =>
      have hb : (!true || e != 0) = true := by simp [he]
      refine Fn.of Try.func10 Try.ntmps10 rfl (by kernel_rfl) (fun w o => ?_)
      (repeat (first | refine G.cW (hfw) ?_ | refine G.cgW (hfw) ?_ | refine GD.cW (hfw) ?_ | refine GD.cgW (hfw) ?_ | refine G.cW (h2) ?_ | refine G.cgW (h2) ?_ | refine GD.cW (h2) ?_ | refine GD.cgW (h2) ?_ | refine G.cW (awake_F) ?_ | refine G.cgW (awake_F) ?_ | refine GD.cW (awake_F) ?_ | refine GD.cgW (awake_F) ?_ | (show G _ _ _ _ (WL _ _ _ _ (⟨some _, .convert _ _ _, _, _, _, none⟩ :: _)); refine G.w1 ?_ (by first | exact LT.cv8 | fail)) | (show G _ _ _ _ (WL _ _ _ _ (⟨some _, .convert _ _ _, _, _, _, some _⟩ :: _)); refine G.gC ?_ (by first | (refine gi ?_; intros; exact LT.cv8) | fail) rfl rfl) | (show GD _ _ _ _ _ _ _ _ _ _ (⟨some _, .convert _ _ _, _, _, _, none⟩ :: _); refine GD.w1 ?_ (by first | exact LT.cv8 | fail)) | (show GD _ _ _ _ _ _ _ _ _ _ (⟨some _, .convert _ _ _, _, _, _, some _⟩ :: _); refine GD.gC ?_ (by first | (refine gi ?_; intros; exact LT.cv8) | fail) rfl rfl) | ((repeat (revert hK; revert K)); refine wk ?_; repeat intro K hK) | refine wkg ?_))
      refine G.fin1 (by first | exact rvOk.tmp | exact rvOk.cellS | exact rvOk.cell1 | fail) rfl ?_
      rfl
    | ok p hp h =>
      rw [← h] at hfw ⊢
      have h2 := bcheck_P hp
      have n1 := place_P hp (1 + m % 40)
      obtain ⟨n, hn⟩ : ∃ n, n = 1 + m % 40 := ⟨_, rfl⟩

      have hn1 : 1 ≤ n ∧ n ≤ 40 := by omega
      have hG : -1 ≤ GapF p 0 512 n ∧ GapF p 0 512 n ≤ 512 := by
        unfold GapF
        split
        · omega
        · split
          · omega
          · rename_i h
            simp at h
            omega
      have hb : (!true || (0 : Int) != 0) = false := rfl
      refine Fn.of Try.func10 Try.ntmps10 rfl (by kernel_rfl) (fun w o => ?_)
      (repeat (first | refine G.cW (hfw) ?_ | refine G.cgW (hfw) ?_ | refine GD.cW (hfw) ?_ | refine GD.cgW (hfw) ?_ | refine G.cW (h2) ?_ | refine G.cgW (h2) ?_ | refine GD.cW (h2) ?_ | refine GD.cgW (h2) ?_ | refine G.cW (n1) ?_ | refine G.cgW (n1) ?_ | refine GD.cW (n1) ?_ | refine GD.cgW (n1) ?_ | (show G _ _ _ _ (WL _ _ _ _ (⟨some _, .convert _ _ _, _, _, _, none⟩ :: _)); refine G.w1 ?_ (by first | exact LT.cv8 | fail)) | (show G _ _ _ _ (WL _ _ _ _ (⟨some _, .convert _ _ _, _, _, _, some _⟩ :: _)); refine G.gC ?_ (by first | (refine gi ?_; intros; exact LT.cv8) | fail) rfl rfl) | (show GD _ _ _ _ _ _ _ _ _ _ (⟨some _, .convert _ _ _, _, _, _, none⟩ :: _); refine GD.w1 ?_ (by first | exact LT.cv8 | fail)) | (show GD _ _ _ _ _ _ _ _ _ _ (⟨some _, .convert _ _ _, _, _, _, some _⟩ :: _); refine GD.gC ?_ (by first | (refine gi ?_; intros; exact LT.cv8) | fail) rfl rfl) | ((repeat (revert hK; revert K)); refine wk ?_; repeat intro K hK) | refine wkg ?_))
      rw [← hn]
      refine G.loop (lwI p n) (fun z => LwOK p.flat n z.1 z.2) (fun z => 512 - z.1) ?_ ?_
      · exact G.at (0, 0) [(0, 0)] ⟨by omega, by omega, by omega, fun q h1 h2 => by omega, fun s h1 h2 => by omega, fun h => by omega⟩ (by repeat (first | exact trivial | refine ⟨⟨rfl, rfl⟩, ?_⟩)) (by repeat (first | exact trivial | refine ⟨⟨rfl, rfl, rfl⟩, ?_⟩ | refine ⟨⟨rfl, by rw [renL_d]; rfl, kbL_d _ _⟩, ?_⟩ | refine ⟨rfl, ?_⟩)) (by decide)
      · rintro ⟨i, run⟩ hi
        dsimp only at hi
        dsimp only [lwI]
        have i1 := hi.h1
        have i2 := hi.h2
        have i3 := hi.h3
        by_cases h : i < 512
        · have hsn := seen_P hp (i : Int)
          have ha := seenV_a p.flat i
          generalize seenV p.flat i = s at *
          cases hq : (findV p.flat i).2 with
          | true =>
            rw [hq, if_pos rfl] at ha
            have hba : (s.a == 1) = true := by simp [ha]
            have hbn : ((0 : Int) == n) = false := by simp; omega
            (repeat (first | refine G.cW (hsn) ?_ | refine G.cgW (hsn) ?_ | refine GD.cW (hsn) ?_ | refine GD.cgW (hsn) ?_ | (show G _ _ _ _ (WL _ _ _ _ (⟨some _, .build _ _, _, _, _, none⟩ :: _)); refine G.w1 ?_ (by first | exact LT.arB | fail)) | (show G _ _ _ _ (WL _ _ _ _ (⟨some _, .build _ _, _, _, _, some _⟩ :: _)); refine G.gC ?_ (by first | (refine gi ?_; intros; exact LT.arB) | fail) rfl rfl) | (show GD _ _ _ _ _ _ _ _ _ _ (⟨some _, .build _ _, _, _, _, none⟩ :: _); refine GD.w1 ?_ (by first | exact LT.arB | fail)) | (show GD _ _ _ _ _ _ _ _ _ _ (⟨some _, .build _ _, _, _, _, some _⟩ :: _); refine GD.gC ?_ (by first | (refine gi ?_; intros; exact LT.arB) | fail) rfl rfl) | (show G _ _ _ _ (WL _ _ _ _ (⟨some _, .indexAddr _ _ _, _, _, _, none⟩ :: _)); refine G.w1 ?_ (by first | exact LT.arI | fail)) | (show G _ _ _ _ (WL _ _ _ _ (⟨some _, .indexAddr _ _ _, _, _, _, some _⟩ :: _)); refine G.gC ?_ (by first | (refine gi ?_; intros; exact LT.arI) | fail) rfl rfl) | (show GD _ _ _ _ _ _ _ _ _ _ (⟨some _, .indexAddr _ _ _, _, _, _, none⟩ :: _); refine GD.w1 ?_ (by first | exact LT.arI | fail)) | (show GD _ _ _ _ _ _ _ _ _ _ (⟨some _, .indexAddr _ _ _, _, _, _, some _⟩ :: _); refine GD.gC ?_ (by first | (refine gi ?_; intros; exact LT.arI) | fail) rfl rfl) | (show G _ _ _ _ (WL _ _ _ _ (⟨some _, .index _ _ _, _, _, _, none⟩ :: _)); refine G.w1 ?_ (by first | exact LT.arE | fail)) | (show G _ _ _ _ (WL _ _ _ _ (⟨some _, .index _ _ _, _, _, _, some _⟩ :: _)); refine G.gC ?_ (by first | (refine gi ?_; intros; exact LT.arE) | fail) rfl rfl) | (show GD _ _ _ _ _ _ _ _ _ _ (⟨some _, .index _ _ _, _, _, _, none⟩ :: _); refine GD.w1 ?_ (by first | exact LT.arE | fail)) | (show GD _ _ _ _ _ _ _ _ _ _ (⟨some _, .index _ _ _, _, _, _, some _⟩ :: _); refine GD.gC ?_ (by first | (refine gi ?_; intros; exact LT.arE) | fail) rfl rfl) | ((repeat (revert hK; revert K)); refine wk ?_; repeat intro K hK) | refine wkg ?_))
            refine G.at (i + 1, 0) [(0, 0)] ⟨hi.hit hp.l hn1.1 h hq, by dsimp only; omega⟩ (by repeat (first | exact trivial | refine ⟨⟨rfl, rfl⟩, ?_⟩)) (by repeat (first | exact trivial | refine ⟨⟨rfl, rfl, rfl⟩, ?_⟩ | refine ⟨⟨rfl, by rw [renL_d]; rfl, kbL_d _ _⟩, ?_⟩ | refine ⟨rfl, ?_⟩)) (by decide)
          | false =>
            rw [hq, if_neg (by decide)] at ha
            have hba : (s.a == 1) = false := by simp [ha]
            by_cases hr : (run : Int) + 1 = n
            · have hbn : ((run : Int) + 1 == n) = true := by simpa using hr
              have hfd := hi.found hp.g hp.l hn1.1 h hq hr
              (repeat (first | refine G.cW (hsn) ?_ | refine G.cgW (hsn) ?_ | refine GD.cW (hsn) ?_ | refine GD.cgW (hsn) ?_ | refine G.cW (awake_F) ?_ | refine G.cgW (awake_F) ?_ | refine GD.cW (awake_F) ?_ | refine GD.cgW (awake_F) ?_ | (show G _ _ _ _ (WL _ _ _ _ (⟨some _, .build _ _, _, _, _, none⟩ :: _)); refine G.w1 ?_ (by first | exact LT.arB | fail)) | (show G _ _ _ _ (WL _ _ _ _ (⟨some _, .build _ _, _, _, _, some _⟩ :: _)); refine G.gC ?_ (by first | (refine gi ?_; intros; exact LT.arB) | fail) rfl rfl) | (show GD _ _ _ _ _ _ _ _ _ _ (⟨some _, .build _ _, _, _, _, none⟩ :: _); refine GD.w1 ?_ (by first | exact LT.arB | fail)) | (show GD _ _ _ _ _ _ _ _ _ _ (⟨some _, .build _ _, _, _, _, some _⟩ :: _); refine GD.gC ?_ (by first | (refine gi ?_; intros; exact LT.arB) | fail) rfl rfl) | (show G _ _ _ _ (WL _ _ _ _ (⟨some _, .indexAddr _ _ _, _, _, _, none⟩ :: _)); refine G.w1 ?_ (by first | exact LT.arI | fail)) | (show G _ _ _ _ (WL _ _ _ _ (⟨some _, .indexAddr _ _ _, _, _, _, some _⟩ :: _)); refine G.gC ?_ (by first | (refine gi ?_; intros; exact LT.arI) | fail) rfl rfl) | (show GD _ _ _ _ _ _ _ _ _ _ (⟨some _, .indexAddr _ _ _, _, _, _, none⟩ :: _); refine GD.w1 ?_ (by first | exact LT.arI | fail)) | (show GD _ _ _ _ _ _ _ _ _ _ (⟨some _, .indexAddr _ _ _, _, _, _, some _⟩ :: _); refine GD.gC ?_ (by first | (refine gi ?_; intros; exact LT.arI) | fail) rfl rfl) | (show G _ _ _ _ (WL _ _ _ _ (⟨some _, .index _ _ _, _, _, _, none⟩ :: _)); refine G.w1 ?_ (by first | exact LT.arE | fail)) | (show G _ _ _ _ (WL _ _ _ _ (⟨some _, .index _ _ _, _, _, _, some _⟩ :: _)); refine G.gC ?_ (by first | (refine gi ?_; intros; exact LT.arE) | fail) rfl rfl) | (show GD _ _ _ _ _ _ _ _ _ _ (⟨some _, .index _ _ _, _, _, _, none⟩ :: _); refine GD.w1 ?_ (by first | exact LT.arE | fail)) | (show GD _ _ _ _ _ _ _ _ _ _ (⟨some _, .index _ _ _, _, _, _, some _⟩ :: _); refine GD.gC ?_ (by first | (refine gi ?_; intros; exact LT.arE) | fail) rfl rfl) | ((repeat (revert hK; revert K)); refine wk ?_; repeat intro K hK) | refine wkg ?_))
              refine G.fin1 (by first | exact rvOk.tmp | exact rvOk.cellS | exact rvOk.cell1 | fail) rfl ?_
              rw [hfd]
              simp
            · have hbn : ((run : Int) + 1 == n) = false := by simpa using hr
              (repeat (first | refine G.cW (hsn) ?_ | refine G.cgW (hsn) ?_ | refine GD.cW (hsn) ?_ | refine GD.cgW (hsn) ?_ | (show G _ _ _ _ (WL _ _ _ _ (⟨some _, .build _ _, _, _, _, none⟩ :: _)); refine G.w1 ?_ (by first | exact LT.arB | fail)) | (show G _ _ _ _ (WL _ _ _ _ (⟨some _, .build _ _, _, _, _, some _⟩ :: _)); refine G.gC ?_ (by first | (refine gi ?_; intros; exact LT.arB) | fail) rfl rfl) | (show GD _ _ _ _ _ _ _ _ _ _ (⟨some _, .build _ _, _, _, _, none⟩ :: _); refine GD.w1 ?_ (by first | exact LT.arB | fail)) | (show GD _ _ _ _ _ _ _ _ _ _ (⟨some _, .build _ _, _, _, _, some _⟩ :: _); refine GD.gC ?_ (by first | (refine gi ?_; intros; exact LT.arB) | fail) rfl rfl) | (show G _ _ _ _ (WL _ _ _ _ (⟨some _, .indexAddr _ _ _, _, _, _, none⟩ :: _)); refine G.w1 ?_ (by first | exact LT.arI | fail)) | (show G _ _ _ _ (WL _ _ _ _ (⟨some _, .indexAddr _ _ _, _, _, _, some _⟩ :: _)); refine G.gC ?_ (by first | (refine gi ?_; intros; exact LT.arI) | fail) rfl rfl) | (show GD _ _ _ _ _ _ _ _ _ _ (⟨some _, .indexAddr _ _ _, _, _, _, none⟩ :: _); refine GD.w1 ?_ (by first | exact LT.arI | fail)) | (show GD _ _ _ _ _ _ _ _ _ _ (⟨some _, .indexAddr _ _ _, _, _, _, some _⟩ :: _); refine GD.gC ?_ (by first | (refine gi ?_; intros; exact LT.arI) | fail) rfl rfl) | (show G _ _ _ _ (WL _ _ _ _ (⟨some _, .index _ _ _, _, _, _, none⟩ :: _)); refine G.w1 ?_ (by first | exact LT.arE | fail)) | (show G _ _ _ _ (WL _ _ _ _ (⟨some _, .index _ _ _, _, _, _, some _⟩ :: _)); refine G.gC ?_ (by first | (refine gi ?_; intros; exact LT.arE) | fail) rfl rfl) | (show GD _ _ _ _ _ _ _ _ _ _ (⟨some _, .index _ _ _, _, _, _, none⟩ :: _); refine GD.w1 ?_ (by first | exact LT.arE | fail)) | (show GD _ _ _ _ _ _ _ _ _ _ (⟨some _, .index _ _ _, _, _, _, some _⟩ :: _); refine GD.gC ?_ (by first | (refine gi ?_; intros; exact LT.arE) | fail) rfl rfl) | ((repeat (revert hK; revert K)); refine wk ?_; repeat intro K hK) | refine wkg ?_))
              refine G.at (i + 1, run + 1) [(0, 0)] ⟨hi.miss hp.l hn1.1 h hq (by omega), by dsimp only; omega⟩ (by repeat (first | exact trivial | refine ⟨⟨rfl, rfl⟩, ?_⟩)) (by repeat (first | exact trivial | refine ⟨⟨rfl, rfl, rfl⟩, ?_⟩ | refine ⟨⟨rfl, by rw [renL_d]; rfl, kbL_d _ _⟩, ?_⟩ | refine ⟨rfl, ?_⟩)) (by decide)
        · have e : i = 512 := by omega
          subst e
          have hfd := hi.none hp.g hn1.1
          (repeat (first | refine G.cW (awake_F) ?_ | refine G.cgW (awake_F) ?_ | refine GD.cW (awake_F) ?_ | refine GD.cgW (awake_F) ?_ | ((repeat (revert hK; revert K)); refine wk ?_; repeat intro K hK) | refine wkg ?_))
          refine G.fin1 (by first | exact rvOk.tmp | exact rvOk.cellS | exact rvOk.cell1 | fail) rfl ?_
          rw [hfd]
          rfl
theorem law_lowest (t : GT) (m : Int) (hw : (Lit.int .u8 m).wf = true) : Fn Try.prog 10 [.st t.td.row, .s (.int .u8 m)] (· = .s (.bool true)) := by
  refine law_lowest0 t m ?_
  simp only [Lit.wf, Bool.and_eq_true, decide_eq_true_eq] at hw
  exact hw

end Go.Proofs.Ytjdpignfdncebaa
