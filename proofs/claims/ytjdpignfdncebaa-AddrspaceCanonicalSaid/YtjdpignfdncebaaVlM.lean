/- Address spaces, the reference's side: Place; trees that are none. -/
import Derived.Test.YtjdpignfdncebaaVkM
set_option linter.unusedSimpArgs false
set_option linter.unusedVariables false
namespace Go.Proofs.Ytjdpignfdncebaa
open Go.RowKit

theorem mapT_7 {p : PT} {r : RV} (hr : chkV r = 0) : (mapT p r).2 = 7 ↔ p.flat.any (fun x => ovlV x r) = true := by
  unfold mapT
  rw [if_pos hr]
  by_cases h : p.flat.any (fun x => ovlV x r) = true
  · rw [if_pos h]; simp [h]
  · rw [if_neg h]
    refine ⟨fun e => ?_, fun e => absurd e h⟩
    unfold resT at e
    split at e <;> cases e
def plR (i n : Int) : RV := ⟨i, n, 1, 0, -1, 0⟩
theorem plR_ok {i n : Int} (h0 : 0 ≤ i) (h1 : 1 ≤ n) (h2 : i + n ≤ 512) : chkV (plR i n) = 0 := by
  refine (chk_iff _).2 ?_
  simp only [plR]
  exact ⟨by omega, by simp, by omega, by omega, fun _ => rfl, fun _ => rfl, by omega, by omega, by omega, by simp, by simp⟩
theorem any_free {l : List RV} (hl : okl l) {i n : Int} (h0 : 0 ≤ i) (h1 : 1 ≤ n) (h2 : i + n ≤ 512) : l.any (fun x => ovlV x (plR i n)) = true ↔ freeL l i n = false := by
  rw [List.any_eq_true, ← Bool.not_eq_true, freeL, List.all_eq_true]
  constructor
  · rintro ⟨x, hx, ho⟩ hf
    have := (ovl_iff (hl.c x hx) (plR_ok h0 h1 h2)).1 ho
    have hf := freeR_iff.1 (hf x hx)
    unfold plR RV.e at *
    simp only at this
    omega
  · intro hf
    refine Classical.byContradiction fun hn => hf fun x hx => freeR_iff.2 ?_
    have ho : ¬ ovlV x (plR i n) = true := fun e => hn ⟨x, hx, e⟩
    rw [ovl_iff (hl.c x hx) (plR_ok h0 h1 h2)] at ho
    unfold plR at ho
    simp only at ho
    unfold RV.e
    omega

attribute [local irreducible] Wp WL WO fin finB rnd Exit.then Exit.inBlock G GD LT Rd Fn FnB FvB Iter
attribute [local go_sem] RV.row TD.row
theorem rcount_E {t : TD} {e : Int} (he : e ≠ 0) (hc : Fn Try.prog 27 [.st t.row] (· = .s (.int .i64 e))) : Fn Try.prog 29 [.st t.row] (· = .s (.int .i64 0)) := by
  have hl := rl_E he hc
  refine Fn.of Try.func29 Try.ntmps29 rfl (by kernel_rfl) (fun w o => ?_)
  (repeat (first | refine G.cW (hl) ?_ | refine G.cgW (hl) ?_ | refine GD.cW (hl) ?_ | refine GD.cgW (hl) ?_ | ((repeat (revert hK; revert K)); refine wk ?_; repeat intro K hK) | refine wkg ?_))
  refine G.fin1 (by first | exact rvOk.tmp | exact rvOk.cellS | exact rvOk.cell1 | fail) rfl ?_
  rfl
def rfE (g : Int) (i : Nat) : List (Nat × AV) × Bs := ([(7, .d (.s (.int .i64 (i : Int)))), (6, .d (.s (.slice none 0 0))), (1, .d (.s (.int .i64 g))), (4, .p 1 0)], [(1, some (23, RV.z.row.map .d))])
theorem rfind2_E {t : TD} {e : Int} (he : e ≠ 0) (hc : Fn Try.prog 27 [.st t.row] (· = .s (.int .i64 e))) (g : Int) : Fn Try.prog 25 [.st t.row, .s (.int .i64 g)] (· = .tup [.st RV.z.row, .s (.bool false)]) := by
  have hl := rl_E he hc
  refine Fn.of Try.func25 Try.ntmps25 rfl (by kernel_rfl) (fun w o => ?_)
  (repeat (first | refine G.cW (hl) ?_ | refine G.cgW (hl) ?_ | refine GD.cW (hl) ?_ | refine GD.cgW (hl) ?_ | ((repeat (revert hK; revert K)); refine wk ?_; repeat intro K hK) | refine wkg ?_))
  refine G.loop (rfE g) (fun i => i = 0) (fun i => i) ?_ ?_
  · exact G.at 0 [(1, 1)] rfl (by repeat (first | exact trivial | refine ⟨⟨rfl, rfl⟩, ?_⟩)) (by repeat (first | exact trivial | refine ⟨⟨rfl, rfl, rfl⟩, ?_⟩ | refine ⟨⟨rfl, by rw [renL_d]; rfl, kbL_d _ _⟩, ?_⟩ | refine ⟨rfl, ?_⟩)) (by decide)
  · rintro i rfl
    dsimp only [rfE]
    (repeat (first | ((repeat (revert hK; revert K)); refine wk ?_; repeat intro K hK) | refine wkg ?_))
    refine G.fin2 (by first | exact rvOk.tmp | exact rvOk.cellS | exact rvOk.cell1 | fail) (by first | exact rvOk.tmp | exact rvOk.cellS | exact rvOk.cell1 | fail) rfl ?_
    rfl
theorem rplace_E {t : TD} {e : Int} (he : e ≠ 0) (hc : Fn Try.prog 27 [.st t.row] (· = .s (.int .i64 e))) (n : Int) : Fn Try.prog 19 [.st t.row, .s (.int .i64 n)] (· = .s (.int .i64 (-1))) := by
  have hb : ((e != 0 || decide (n < 1)) || decide (512 < n)) = true := by simp [he]
  refine Fn.of Try.func19 Try.ntmps19 rfl (by kernel_rfl) (fun w o => ?_)
  (repeat (first | refine G.cW (hc) ?_ | refine G.cgW (hc) ?_ | refine GD.cW (hc) ?_ | refine GD.cgW (hc) ?_ | ((repeat (revert hK; revert K)); refine wk ?_; repeat intro K hK) | refine wkg ?_))
  refine G.fin1 (by first | exact rvOk.tmp | exact rvOk.cellS | exact rvOk.cell1 | fail) rfl ?_
  rfl
def rpI (p : PT) (n : Int) (i : Nat) : List (Nat × AV) × Bs := ([(5, .d (.s (.int .i64 (i : Int)))), (1, .d (.s (.int .i64 n))), (2, .p 0 0)], [(0, some (26, p.td.row.map .d))])
theorem rplace_P {p : PT} (hp : ASP p) (n : Int) : Fn Try.prog 19 [.st p.td.row, .s (.int .i64 n)] (· = .s (.int .i64 (GapF p 0 512 n))) := by
  have hc := bcheck_P hp
  by_cases hn : n < 1 ∨ 512 < n
  · have hb : ((((0 : Int) != 0) || decide (n < 1)) || decide (512 < n)) = true := by simpa using hn
    rw [GapF_bad (p := p) (lo := 0) (hi := 512) (n := n) (by unfold gapBad; simpa using hn)]
    refine Fn.of Try.func19 Try.ntmps19 rfl (by kernel_rfl) (fun w o => ?_)
    (repeat (first | refine G.cW (hc) ?_ | refine G.cgW (hc) ?_ | refine GD.cW (hc) ?_ | refine GD.cgW (hc) ?_ | ((repeat (revert hK; revert K)); refine wk ?_; repeat intro K hK) | refine wkg ?_))
    refine G.fin1 (by first | exact rvOk.tmp | exact rvOk.cellS | exact rvOk.cell1 | fail) rfl ?_
    rfl
  · have hb : ((((0 : Int) != 0) || decide (n < 1)) || decide (512 < n)) = false := by simpa using hn
    refine Fn.of Try.func19 Try.ntmps19 rfl (by kernel_rfl) (fun w o => ?_)
    (repeat (first | refine G.cW (hc) ?_ | refine G.cgW (hc) ?_ | refine GD.cW (hc) ?_ | refine GD.cgW (hc) ?_ | ((repeat (revert hK; revert K)); refine wk ?_; repeat intro K hK) | refine wkg ?_))
    refine G.loop (rpI p n) (fun i => (i : Int) ≤ 513 - n ∧ ∀ q : Int, 0 ≤ q → q < i → freeL p.flat q n = false) (fun i => 600 - i) ?_ ?_
    · exact G.at 0 [(0, 0)] ⟨by omega, fun q h1 h2 => by omega⟩ (by repeat (first | exact trivial | refine ⟨⟨rfl, rfl⟩, ?_⟩)) (by repeat (first | exact trivial | refine ⟨⟨rfl, rfl, rfl⟩, ?_⟩ | refine ⟨⟨rfl, by rw [renL_d]; rfl, kbL_d _ _⟩, ?_⟩ | refine ⟨rfl, ?_⟩)) (by decide)
    · rintro i ⟨hi, hno⟩
      dsimp only [rpI]
      by_cases h : (i : Int) ≤ 512 - n
      · have hrk := plR_ok (i := i) (n := n) (by omega) (by omega) (by omega)
        have hm : Fn Try.prog 16 [.st p.td.row, .st [.s (.int .i64 i), .s (.int .i64 n), .s (.int .i64 1), .s (.int .i64 0), .s (.int .i64 (-1)), .s (.int .i64 0)]] (· = resD (mapT p (plR i n))) := rmap_P hp (plR i n) hrk
        have h7 := mapT_7 (p := p) hrk
        have hf := any_free hp.l (i := i) (n := n) (by omega) (by omega) (by omega)
        generalize mapT p (plR i n) = z at hm h7
        obtain ⟨q, e⟩ := z
        dsimp only at h7
        unfold resD at hm
        cases hfr : freeL p.flat i n with
        | true =>
          have he : e ≠ 7 := fun e7 => by
            have := hf.1 (h7.1 e7)
            rw [hfr] at this
            cases this
          have hb7 : (e != 7) = true := by simp [he]
          (repeat (first | refine G.cW (hm) ?_ | refine G.cgW (hm) ?_ | refine GD.cW (hm) ?_ | refine GD.cgW (hm) ?_ | ((repeat (revert hK; revert K)); refine wk ?_; repeat intro K hK) | refine wkg ?_))
          refine G.fin1 (by first | exact rvOk.tmp | exact rvOk.cellS | exact rvOk.cell1 | fail) rfl ?_
          rw [GapF_first hp.g (by omega) (by omega) (by omega) (by omega) (by omega) (by omega) hfr hno]
        | false =>
          have he := h7.2 (hf.2 hfr)
          subst he
          (repeat (first | refine G.cW (hm) ?_ | refine G.cgW (hm) ?_ | refine GD.cW (hm) ?_ | refine GD.cgW (hm) ?_ | ((repeat (revert hK; revert K)); refine wk ?_; repeat intro K hK) | refine wkg ?_))
          refine G.at (i + 1) [(0, 0)] ⟨⟨by omega, fun q h1 h2 => ?_⟩, by omega⟩ (by repeat (first | exact trivial | refine ⟨⟨rfl, rfl⟩, ?_⟩)) (by repeat (first | exact trivial | refine ⟨⟨rfl, rfl, rfl⟩, ?_⟩ | refine ⟨⟨rfl, by rw [renL_d]; rfl, kbL_d _ _⟩, ?_⟩ | refine ⟨rfl, ?_⟩)) (by decide)
          by_cases e : q = i
          · subst e; exact hfr
          · exact hno q h1 (by omega)
      · (repeat (first | ((repeat (revert hK; revert K)); refine wk ?_; repeat intro K hK) | refine wkg ?_))
        refine G.fin1 (by first | exact rvOk.tmp | exact rvOk.cellS | exact rvOk.cell1 | fail) rfl ?_
        rw [GapF_none hp.g (by omega) (by omega) (by omega) (by omega) (fun q h1 h2 => hno q h1 (by omega))]

end Go.Proofs.Ytjdpignfdncebaa
