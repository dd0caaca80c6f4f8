/- Address spaces: what the calls leave is an address space; Same of lists; what the laws' small functions do. -/
import Derived.Test.YtmajkjkakciaiaaUzM
set_option linter.unusedSimpArgs false
set_option linter.unusedVariables false
namespace Go.Proofs.Ytmajkjkakciaiaa
open Go.RowKit

theorem ASP.E : ASP .E := ⟨⟨trivial, ⟨fun x hx => by simp [PT.flat] at hx, .nil⟩⟩, by decide⟩
theorem mapT_asp {p : PT} (hp : ASP p) {r : RV} (h : (mapT p r).2 = 0) : ASP (mapT p r).1 := by
  unfold mapT at h ⊢
  by_cases h1 : chkV r = 0
  · rw [if_pos h1] at h ⊢
    by_cases h2 : p.flat.any (fun x => ovlV x r) = true
    · rw [if_pos h2] at h; cases h
    · rw [if_neg h2] at h ⊢
      refine (resT_asp (insAt_ok hp.l h1 (fun x hx => ?_)) h).1
      rw [← Bool.not_eq_true]
      exact fun e => h2 (List.any_eq_true.2 ⟨x, hx, e⟩)
  · rw [if_neg h1] at h; exact absurd h h1
theorem unmapT_asp {p : PT} (hp : ASP p) {g c : Int} (h : (unmapT p g c).2 = 0) : ASP (unmapT p g c).1 := by
  unfold unmapT at h ⊢
  by_cases h1 : rngV g c = 0
  · rw [if_pos h1] at h ⊢
    exact (resT_asp (okl_cat hp.l (fun x hx => cut_part (hp.l.c x hx) h1)) h).1
  · rw [if_neg h1] at h; exact absurd h h1
theorem chgT_asp {p : PT} (hp : ASP p) {g c : Int} (hr : rngV g c = 0) {oth : RV → Bool} {tr : RV → RV} (hk : keepsT tr) (h : (chgT p g c oth tr).2 = 0) : ASP (chgT p g c oth tr).1 := by
  unfold chgT at h ⊢
  by_cases h1 : covV p.flat g c = true
  · rw [if_pos h1] at h ⊢
    exact (resT_asp (okl_cat hp.l (fun x hx => chg_part hk oth (hp.l.c x hx) (by have := rngV_ok hr; omega))) h).1
  · rw [if_neg h1] at h; cases h
theorem protT_asp {p : PT} (hp : ASP p) {g c n : Int} (h : (protT p g c n).2 = 0) : ASP (protT p g c n).1 := by
  unfold protT at h ⊢
  by_cases h1 : rngV g c = 0
  · rw [if_pos h1] at h ⊢
    by_cases h2 : n = 1 ∨ n = 3
    · rw [if_pos h2] at h ⊢
      exact chgT_asp hp h1 (prT_keeps h2) h
    · rw [if_neg h2] at h; cases h
  · rw [if_neg h1] at h; exact absurd h h1
theorem lockT_asp {p : PT} (hp : ASP p) {g c : Int} {on : Bool} (h : (lockT p g c on).2 = 0) : ASP (lockT p g c on).1 := by
  unfold lockT at h ⊢
  by_cases h1 : rngV g c = 0
  · rw [if_pos h1] at h ⊢
    exact chgT_asp hp h1 lkT_keeps h
  · rw [if_neg h1] at h; exact absurd h h1
theorem growT_asp {p : PT} (hp : ASP p) {g : Int} (h : (growT p g).2 = 0) : ASP (growT p g).1 := by
  unfold growT at h ⊢
  by_cases h1 : g < 0 ∨ 512 ≤ g
  · rw [if_pos h1] at h; cases h
  · rw [if_neg h1] at h ⊢
    by_cases h2 : (nextV p.flat g).2 = true ∧ (nextV p.flat g).1.s ≤ g
    · rw [if_pos h2] at h; cases h
    · rw [if_neg h2] at h ⊢
      by_cases h3 : (nextV p.flat g).2 = false ∨ bits .and .i64 (nextV p.flat g).1.f 2 = 0 ∨ (findV p.flat (g - 1)).2 = true
      · rw [if_pos h3] at h; cases h
      · rw [if_neg h3] at h ⊢
        have hq : (nextV p.flat g).2 = true := by cases hq : (nextV p.flat g).2 with | true => rfl | false => exact absurd (.inl hq) h3
        obtain ⟨g1, g2, _⟩ := growL_ok (by omega) p.flat hp.l hp.f hq (by have : ¬ (nextV p.flat g).1.s ≤ g := fun e => h2 ⟨hq, e⟩; omega) (fun e => h3 (.inr (.inl e))) (fun x hx e => h3 (.inr (.inr ((find_iff hp.l (g - 1)).2 ⟨x, hx, e⟩))))
        obtain ⟨k1, k2, _⟩ := bldT_good _ g1.ord
        refine ⟨k1, ?_⟩
        dsimp only
        rw [k2, chkL_iff]
        exact ⟨g1.c, g2, by rw [growL_len]; exact hp.n⟩

attribute [local irreducible] Wp WL WO fin finB rnd Exit.then Exit.inBlock G GD LT Rd Fn FnB FvB Iter
attribute [local go_sem] RV.row TD.row
def smI (l m : List RV) (i : Nat) : List (Nat × AV) × Bs := ([(5, .d (.s (.int .i64 (i : Int)))), (0, .d (.l (rws l))), (1, .d (.l (rws m)))], [])
theorem lsame_F (l : List RV) (hl : l.length ≤ 90000) : Fn Try.prog 42 [.l (rws l), .l (rws l)] (· = .s (.bool true)) := by
  have hlen : ((rws l).length : Int) = l.length := by rw [rws_len]
  refine Fn.of Try.func42 Try.ntmps42 rfl (by kernel_rfl) (fun w o => ?_)
  (repeat (first | ((repeat (revert hK; revert K)); refine wk ?_; repeat intro K hK) | refine wkg ?_))
  refine G.loop (smI l l) (fun i => i ≤ l.length) (fun i => l.length - i) ?_ ?_
  · exact G.at 0 [] (Nat.zero_le _) (by repeat (first | exact trivial | refine ⟨⟨rfl, rfl⟩, ?_⟩)) (by repeat (first | exact trivial | refine ⟨⟨rfl, rfl, rfl⟩, ?_⟩ | refine ⟨⟨rfl, by rw [renL_d]; rfl, kbL_d _ _⟩, ?_⟩ | refine ⟨rfl, ?_⟩)) (by decide)
  · intro i hi
    dsimp only [smI]
    by_cases h : i < l.length
    · have hr := rws_get l i h
      have heq : eqR l[i] l[i] = true := (eqR_iff _ _).2 rfl
      (repeat (first | (show G _ _ _ _ (WL _ _ _ _ (⟨some _, .indexAddr _ _ _, _, _, _, none⟩ :: _)); refine G.w1 ?_ (by first | exact LT.rd (Rd.ixv i (hr)) rfl | fail)) | (show G _ _ _ _ (WL _ _ _ _ (⟨some _, .indexAddr _ _ _, _, _, _, some _⟩ :: _)); refine G.gC ?_ (by first | (refine gi ?_; intros; exact LT.rd (Rd.ixv i (hr)) rfl) | fail) rfl rfl) | (show GD _ _ _ _ _ _ _ _ _ _ (⟨some _, .indexAddr _ _ _, _, _, _, none⟩ :: _); refine GD.w1 ?_ (by first | exact LT.rd (Rd.ixv i (hr)) rfl | fail)) | (show GD _ _ _ _ _ _ _ _ _ _ (⟨some _, .indexAddr _ _ _, _, _, _, some _⟩ :: _); refine GD.gC ?_ (by first | (refine gi ?_; intros; exact LT.rd (Rd.ixv i (hr)) rfl) | fail) rfl rfl) | (show G _ _ _ _ (WL _ _ _ _ (⟨some _, .binOp .eql _ _ _ _, _, _, _, none⟩ :: _)); refine G.w1 ?_ (by first | exact LT.eqW (l[i]) (l[i]) | fail)) | (show G _ _ _ _ (WL _ _ _ _ (⟨some _, .binOp .eql _ _ _ _, _, _, _, some _⟩ :: _)); refine G.gC ?_ (by first | (refine gi ?_; intros; exact LT.eqW (l[i]) (l[i])) | fail) rfl rfl) | (show GD _ _ _ _ _ _ _ _ _ _ (⟨some _, .binOp .eql _ _ _ _, _, _, _, none⟩ :: _); refine GD.w1 ?_ (by first | exact LT.eqW (l[i]) (l[i]) | fail)) | (show GD _ _ _ _ _ _ _ _ _ _ (⟨some _, .binOp .eql _ _ _ _, _, _, _, some _⟩ :: _); refine GD.gC ?_ (by first | (refine gi ?_; intros; exact LT.eqW (l[i]) (l[i])) | fail) rfl rfl) | (show G _ _ _ _ (WL _ _ _ _ (⟨some _, .binOp .neq _ _ _ _, _, _, _, none⟩ :: _)); refine G.w1 ?_ (by first | exact LT.neW (l[i]) (l[i]) | fail)) | (show G _ _ _ _ (WL _ _ _ _ (⟨some _, .binOp .neq _ _ _ _, _, _, _, some _⟩ :: _)); refine G.gC ?_ (by first | (refine gi ?_; intros; exact LT.neW (l[i]) (l[i])) | fail) rfl rfl) | (show GD _ _ _ _ _ _ _ _ _ _ (⟨some _, .binOp .neq _ _ _ _, _, _, _, none⟩ :: _); refine GD.w1 ?_ (by first | exact LT.neW (l[i]) (l[i]) | fail)) | (show GD _ _ _ _ _ _ _ _ _ _ (⟨some _, .binOp .neq _ _ _ _, _, _, _, some _⟩ :: _); refine GD.gC ?_ (by first | (refine gi ?_; intros; exact LT.neW (l[i]) (l[i])) | fail) rfl rfl) | ((repeat (revert hK; revert K)); refine wk ?_; repeat intro K hK) | refine wkg ?_))
      refine G.at (i + 1) [] ⟨by omega, by omega⟩ (by repeat (first | exact trivial | refine ⟨⟨rfl, rfl⟩, ?_⟩)) (by repeat (first | exact trivial | refine ⟨⟨rfl, rfl, rfl⟩, ?_⟩ | refine ⟨⟨rfl, by rw [renL_d]; rfl, kbL_d _ _⟩, ?_⟩ | refine ⟨rfl, ?_⟩)) (by decide)
    · (repeat (first | ((repeat (revert hK; revert K)); refine wk ?_; repeat intro K hK) | refine wkg ?_))
      refine G.fin1 (by first | exact rvOk.tmp | exact rvOk.cellS | exact rvOk.cell1 | fail) rfl ?_
      rfl
def anR (s p r f : Int) : RV := ⟨s, p, r, f, -1, 0⟩
theorem anon_F (s p r f : Int) : Fn Try.prog 12 [.s (.int .i64 s), .s (.int .i64 p), .s (.int .i64 r), .s (.int .i64 f)] (· = .st (anR s p r f).row) := by
  refine Fn.of Try.func12 Try.ntmps12 rfl (by kernel_rfl) (fun w o => ?_)
  (repeat (first | ((repeat (revert hK; revert K)); refine wk ?_; repeat intro K hK) | refine wkg ?_))
  refine G.fin1 (by first | exact rvOk.tmp | exact rvOk.cellS | exact rvOk.cell1 | fail) rfl ?_
  rfl
theorem is_F {p : PT} (hp : good p) : Fn Try.prog 16 [.st p.td.row, .l (rws p.flat)] (· = .s (.bool true)) := by
  have hl := rlist_P hp
  have hs := lsame_F p.flat (by have := good_len hp; omega)
  refine Fn.of Try.func16 Try.ntmps16 rfl (by kernel_rfl) (fun w o => ?_)
  (repeat (first | refine G.cW (hl) ?_ | refine G.cgW (hl) ?_ | refine GD.cW (hl) ?_ | refine GD.cgW (hl) ?_ | refine G.cW (hs) ?_ | refine G.cgW (hs) ?_ | refine GD.cW (hs) ?_ | refine GD.cgW (hs) ?_ | ((repeat (revert hK; revert K)); refine wk ?_; repeat intro K hK) | refine wkg ?_))
  refine G.fin1 (by first | exact rvOk.tmp | exact rvOk.cellS | exact rvOk.cell1 | fail) rfl ?_
  rfl
theorem few_F (t : GT) : Fn Try.prog 10 [.st t.td.row] (· = .s (.bool (fewG t))) → Fn Try.prog 4 [.st t.td.row] (· = .s (.bool (fewG t))) := fun hf => by
  refine Fn.of Try.func4 Try.ntmps4 rfl (by kernel_rfl) (fun w o => ?_)
  (repeat (first | refine G.cW (hf) ?_ | refine G.cgW (hf) ?_ | refine GD.cW (hf) ?_ | refine GD.cgW (hf) ?_ | ((repeat (revert hK; revert K)); refine wk ?_; repeat intro K hK) | refine wkg ?_))
  refine G.fin1 (by first | exact rvOk.tmp | exact rvOk.cellS | exact rvOk.cell1 | fail) rfl ?_
  rfl

end Go.Proofs.Ytmajkjkakciaiaa
