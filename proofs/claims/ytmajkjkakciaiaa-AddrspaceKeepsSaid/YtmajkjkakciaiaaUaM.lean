/- Trees of regions, the reference's side: Node, Balanced, insert; Build on both sides. -/
import Derived.Test.YtmajkjkakciaiaaQh
set_option linter.unusedSimpArgs false
set_option linter.unusedVariables false
namespace Go.Proofs.Ytmajkjkakciaiaa
open Go.RowKit

/-- Valid regions, not too deep. -/
structure sb (p : PT) (n : Int) : Prop where
  v : ∀ y ∈ p.flat, vld y
  h : p.ht ≤ n
theorem sb.N {l r : PT} {x : RV} {n : Int} (h : sb (.N l x r) (n + 1)) : sb l n ∧ vld x ∧ sb r n := by
  obtain ⟨h1, h2⟩ := h
  obtain ⟨a, b, c⟩ := vld_node h1
  have := PT.ht_nn l
  have := PT.ht_nn r
  simp only [PT.ht] at h2
  exact ⟨⟨a, by omega⟩, b, ⟨c, by omega⟩⟩
theorem sb.nd {l r : PT} {x : RV} {n : Int} (h1 : sb l n) (hx : vld x) (h2 : sb r n) : sb (.N l x r) (n + 1) := by
  have := PT.ht_nn l
  have := PT.ht_nn r
  have := h1.h
  have := h2.h
  refine ⟨fun y hy => ?_, by simp only [PT.ht]; omega⟩
  simp only [PT.flat, List.mem_append, List.mem_cons] at hy
  rcases hy with hy | rfl | hy
  · exact h1.v y hy
  · exact hx
  · exact h2.v y hy
theorem sb.le {p : PT} {n m : Int} (h : sb p n) (hm : n ≤ m) : sb p m := ⟨h.v, by have := h.h; omega⟩
theorem sb.up {p : PT} {n : Int} (h : sb p n) : sb p (n + 1) := h.le (by omega)

attribute [local irreducible] Wp WL WO fin finB rnd Exit.then Exit.inBlock G GD LT Rd Fn FnB FvB Iter
attribute [local go_sem] RV.row TD.row
theorem rnode_P (l : PT) (x : RV) (r : PT) {n : Int} (hn : n ≤ 1000) (hl : sb l n) (hx : vld x) (hr : sb r n) : Fn Try.prog 48 [.st l.td.row, .st x.row, .st r.td.row] (· = .st (PT.N l x r).td.row) := by
  have h := rnode_W l.td x r.td (vld_sm hx)
  rw [nodeR_td hl.v hr.v hx (by have := hl.h; omega) (by have := hr.h; omega)] at h
  exact h
set_option maxHeartbeats 4000000 in
theorem rbal_P (l : PT) (x : RV) (r : PT) {n : Int} (h0 : 0 ≤ n) (hn : n ≤ 900) (hl : sb l (n + 1)) (hx : vld x) (hr : sb r (n + 1)) : Fn Try.prog 49 [.st l.td.row, .st x.row, .st r.td.row] (· = .st (joinP l x r).td.row) := by
  have nl := PT.ht_nn l
  have nr := PT.ht_nn r
  have bl := hl.h
  have br := hr.h
  have cl : l.td.h = l.ht := rfl
  have cr : r.td.h = r.ht := rfl
  by_cases h1 : r.td.h + 1 < l.td.h
  · have e1 : r.ht + 1 < l.ht := h1
    cases l with
    | E => simp only [PT.ht] at e1; omega
    | N a y b =>
      obtain ⟨sa, vy, sb'⟩ := hl.N
      by_cases h2 : b.td.h ≤ a.td.h
      · have e2 : b.ht ≤ a.ht := h2
        have ej : joinP (.N a y b) x r = .N a y (.N b x r) := by unfold joinP; rw [if_pos e1]; simp only [if_pos e2]
        rw [ej]
        refine Fn.of Try.func49 Try.ntmps49 rfl (by kernel_rfl) (fun w o => ?_)
        (repeat (first | refine G.cW (rnode_P b x r (n := n + 1) (by omega) sb'.up hx hr) ?_ | (show G _ _ _ _ (WL _ _ _ _ (⟨some _, .call _, _, _, _, some _⟩ :: _)); refine G.gC ?_ (by first | (refine gi ?_; intros; exact LT.ce (rnode_P b x r (n := n + 1) (by omega) sb'.up hx hr)) | fail) rfl rfl) | refine GD.cW (rnode_P b x r (n := n + 1) (by omega) sb'.up hx hr) ?_ | (show GD _ _ _ _ _ _ _ _ _ _ (⟨some _, .call _, _, _, _, some _⟩ :: _); refine GD.gC ?_ (by first | (refine gi ?_; intros; exact LT.ce (rnode_P b x r (n := n + 1) (by omega) sb'.up hx hr)) | fail) rfl rfl) | refine G.cW (rnode_P a y (.N b x r) (n := n + 2) (by omega) (sa.le (by omega)) vy ((sb.nd sb'.up hx hr).le (by omega))) ?_ | (show G _ _ _ _ (WL _ _ _ _ (⟨some _, .call _, _, _, _, some _⟩ :: _)); refine G.gC ?_ (by first | (refine gi ?_; intros; exact LT.ce (rnode_P a y (.N b x r) (n := n + 2) (by omega) (sa.le (by omega)) vy ((sb.nd sb'.up hx hr).le (by omega)))) | fail) rfl rfl) | refine GD.cW (rnode_P a y (.N b x r) (n := n + 2) (by omega) (sa.le (by omega)) vy ((sb.nd sb'.up hx hr).le (by omega))) ?_ | (show GD _ _ _ _ _ _ _ _ _ _ (⟨some _, .call _, _, _, _, some _⟩ :: _); refine GD.gC ?_ (by first | (refine gi ?_; intros; exact LT.ce (rnode_P a y (.N b x r) (n := n + 2) (by omega) (sa.le (by omega)) vy ((sb.nd sb'.up hx hr).le (by omega)))) | fail) rfl rfl) | ((repeat (revert hK; revert K)); refine wk ?_; repeat intro K hK) | refine wkg ?_))
        refine G.fin1 (by first | exact rvOk.tmp | exact rvOk.cellS | exact rvOk.cell1 | fail) rfl ?_
        rfl
      · have e2 : ¬ b.ht ≤ a.ht := h2
        cases b with
        | E => have := a.ht_nn; simp only [PT.ht] at e2; omega
        | N c z d =>
          have sN := (sb'.up).N
          obtain ⟨sc, vz, sd⟩ := sN
          have ej : joinP (.N a y (.N c z d)) x r = .N (.N a y c) z (.N d x r) := by unfold joinP; rw [if_pos e1]; simp only [if_neg e2]
          rw [ej]
          refine Fn.of Try.func49 Try.ntmps49 rfl (by kernel_rfl) (fun w o => ?_)
          (repeat (first | refine G.cW (rnode_P a y c (n := n + 1) (by omega) sa.up vy (sc.le (by omega))) ?_ | (show G _ _ _ _ (WL _ _ _ _ (⟨some _, .call _, _, _, _, some _⟩ :: _)); refine G.gC ?_ (by first | (refine gi ?_; intros; exact LT.ce (rnode_P a y c (n := n + 1) (by omega) sa.up vy (sc.le (by omega)))) | fail) rfl rfl) | refine GD.cW (rnode_P a y c (n := n + 1) (by omega) sa.up vy (sc.le (by omega))) ?_ | (show GD _ _ _ _ _ _ _ _ _ _ (⟨some _, .call _, _, _, _, some _⟩ :: _); refine GD.gC ?_ (by first | (refine gi ?_; intros; exact LT.ce (rnode_P a y c (n := n + 1) (by omega) sa.up vy (sc.le (by omega)))) | fail) rfl rfl) | refine G.cW (rnode_P d x r (n := n + 1) (by omega) (sd.le (by omega)) hx hr) ?_ | (show G _ _ _ _ (WL _ _ _ _ (⟨some _, .call _, _, _, _, some _⟩ :: _)); refine G.gC ?_ (by first | (refine gi ?_; intros; exact LT.ce (rnode_P d x r (n := n + 1) (by omega) (sd.le (by omega)) hx hr)) | fail) rfl rfl) | refine GD.cW (rnode_P d x r (n := n + 1) (by omega) (sd.le (by omega)) hx hr) ?_ | (show GD _ _ _ _ _ _ _ _ _ _ (⟨some _, .call _, _, _, _, some _⟩ :: _); refine GD.gC ?_ (by first | (refine gi ?_; intros; exact LT.ce (rnode_P d x r (n := n + 1) (by omega) (sd.le (by omega)) hx hr)) | fail) rfl rfl) | refine G.cW (rnode_P (.N a y c) z (.N d x r) (n := n + 2) (by omega) ((sb.nd sa.up vy sc.up).le (by omega)) vz ((sb.nd sd.up hx hr).le (by omega))) ?_ | (show G _ _ _ _ (WL _ _ _ _ (⟨some _, .call _, _, _, _, some _⟩ :: _)); refine G.gC ?_ (by first | (refine gi ?_; intros; exact LT.ce (rnode_P (.N a y c) z (.N d x r) (n := n + 2) (by omega) ((sb.nd sa.up vy sc.up).le (by omega)) vz ((sb.nd sd.up hx hr).le (by omega)))) | fail) rfl rfl) | refine GD.cW (rnode_P (.N a y c) z (.N d x r) (n := n + 2) (by omega) ((sb.nd sa.up vy sc.up).le (by omega)) vz ((sb.nd sd.up hx hr).le (by omega))) ?_ | (show GD _ _ _ _ _ _ _ _ _ _ (⟨some _, .call _, _, _, _, some _⟩ :: _); refine GD.gC ?_ (by first | (refine gi ?_; intros; exact LT.ce (rnode_P (.N a y c) z (.N d x r) (n := n + 2) (by omega) ((sb.nd sa.up vy sc.up).le (by omega)) vz ((sb.nd sd.up hx hr).le (by omega)))) | fail) rfl rfl) | ((repeat (revert hK; revert K)); refine wk ?_; repeat intro K hK) | refine wkg ?_))
          refine G.fin1 (by first | exact rvOk.tmp | exact rvOk.cellS | exact rvOk.cell1 | fail) rfl ?_
          rfl
  · have e1 : ¬ r.ht + 1 < l.ht := h1
    by_cases h2 : l.td.h + 1 < r.td.h
    · have e2 : l.ht + 1 < r.ht := h2
      cases r with
      | E => simp only [PT.ht] at e2; omega
      | N b y c =>
        obtain ⟨sb', vy, sc⟩ := hr.N
        by_cases h3 : b.td.h ≤ c.td.h
        · have e3 : b.ht ≤ c.ht := h3
          have ej : joinP l x (.N b y c) = .N (.N l x b) y c := by unfold joinP; rw [if_neg e1, if_pos e2]; simp only [if_pos e3]
          rw [ej]
          refine Fn.of Try.func49 Try.ntmps49 rfl (by kernel_rfl) (fun w o => ?_)
          (repeat (first | refine G.cW (rnode_P l x b (n := n + 1) (by omega) hl hx sb'.up) ?_ | (show G _ _ _ _ (WL _ _ _ _ (⟨some _, .call _, _, _, _, some _⟩ :: _)); refine G.gC ?_ (by first | (refine gi ?_; intros; exact LT.ce (rnode_P l x b (n := n + 1) (by omega) hl hx sb'.up)) | fail) rfl rfl) | refine GD.cW (rnode_P l x b (n := n + 1) (by omega) hl hx sb'.up) ?_ | (show GD _ _ _ _ _ _ _ _ _ _ (⟨some _, .call _, _, _, _, some _⟩ :: _); refine GD.gC ?_ (by first | (refine gi ?_; intros; exact LT.ce (rnode_P l x b (n := n + 1) (by omega) hl hx sb'.up)) | fail) rfl rfl) | refine G.cW (rnode_P (.N l x b) y c (n := n + 2) (by omega) ((sb.nd hl hx sb'.up).le (by omega)) vy (sc.le (by omega))) ?_ | (show G _ _ _ _ (WL _ _ _ _ (⟨some _, .call _, _, _, _, some _⟩ :: _)); refine G.gC ?_ (by first | (refine gi ?_; intros; exact LT.ce (rnode_P (.N l x b) y c (n := n + 2) (by omega) ((sb.nd hl hx sb'.up).le (by omega)) vy (sc.le (by omega)))) | fail) rfl rfl) | refine GD.cW (rnode_P (.N l x b) y c (n := n + 2) (by omega) ((sb.nd hl hx sb'.up).le (by omega)) vy (sc.le (by omega))) ?_ | (show GD _ _ _ _ _ _ _ _ _ _ (⟨some _, .call _, _, _, _, some _⟩ :: _); refine GD.gC ?_ (by first | (refine gi ?_; intros; exact LT.ce (rnode_P (.N l x b) y c (n := n + 2) (by omega) ((sb.nd hl hx sb'.up).le (by omega)) vy (sc.le (by omega)))) | fail) rfl rfl) | ((repeat (revert hK; revert K)); refine wk ?_; repeat intro K hK) | refine wkg ?_))
          refine G.fin1 (by first | exact rvOk.tmp | exact rvOk.cellS | exact rvOk.cell1 | fail) rfl ?_
          rfl
        · have e3 : ¬ b.ht ≤ c.ht := h3
          cases b with
          | E => have := c.ht_nn; simp only [PT.ht] at e3; omega
          | N d z e =>
            obtain ⟨sd, vz, se⟩ := (sb'.up).N
            have ej : joinP l x (.N (.N d z e) y c) = .N (.N l x d) z (.N e y c) := by unfold joinP; rw [if_neg e1, if_pos e2]; simp only [if_neg e3]
            rw [ej]
            refine Fn.of Try.func49 Try.ntmps49 rfl (by kernel_rfl) (fun w o => ?_)
            (repeat (first | refine G.cW (rnode_P l x d (n := n + 1) (by omega) hl hx sd.up) ?_ | (show G _ _ _ _ (WL _ _ _ _ (⟨some _, .call _, _, _, _, some _⟩ :: _)); refine G.gC ?_ (by first | (refine gi ?_; intros; exact LT.ce (rnode_P l x d (n := n + 1) (by omega) hl hx sd.up)) | fail) rfl rfl) | refine GD.cW (rnode_P l x d (n := n + 1) (by omega) hl hx sd.up) ?_ | (show GD _ _ _ _ _ _ _ _ _ _ (⟨some _, .call _, _, _, _, some _⟩ :: _); refine GD.gC ?_ (by first | (refine gi ?_; intros; exact LT.ce (rnode_P l x d (n := n + 1) (by omega) hl hx sd.up)) | fail) rfl rfl) | refine G.cW (rnode_P e y c (n := n + 1) (by omega) se.up vy sc.up) ?_ | (show G _ _ _ _ (WL _ _ _ _ (⟨some _, .call _, _, _, _, some _⟩ :: _)); refine G.gC ?_ (by first | (refine gi ?_; intros; exact LT.ce (rnode_P e y c (n := n + 1) (by omega) se.up vy sc.up)) | fail) rfl rfl) | refine GD.cW (rnode_P e y c (n := n + 1) (by omega) se.up vy sc.up) ?_ | (show GD _ _ _ _ _ _ _ _ _ _ (⟨some _, .call _, _, _, _, some _⟩ :: _); refine GD.gC ?_ (by first | (refine gi ?_; intros; exact LT.ce (rnode_P e y c (n := n + 1) (by omega) se.up vy sc.up)) | fail) rfl rfl) | refine G.cW (rnode_P (.N l x d) z (.N e y c) (n := n + 2) (by omega) ((sb.nd hl hx sd.up).le (by omega)) vz ((sb.nd se.up vy sc.up).le (by omega))) ?_ | (show G _ _ _ _ (WL _ _ _ _ (⟨some _, .call _, _, _, _, some _⟩ :: _)); refine G.gC ?_ (by first | (refine gi ?_; intros; exact LT.ce (rnode_P (.N l x d) z (.N e y c) (n := n + 2) (by omega) ((sb.nd hl hx sd.up).le (by omega)) vz ((sb.nd se.up vy sc.up).le (by omega)))) | fail) rfl rfl) | refine GD.cW (rnode_P (.N l x d) z (.N e y c) (n := n + 2) (by omega) ((sb.nd hl hx sd.up).le (by omega)) vz ((sb.nd se.up vy sc.up).le (by omega))) ?_ | (show GD _ _ _ _ _ _ _ _ _ _ (⟨some _, .call _, _, _, _, some _⟩ :: _); refine GD.gC ?_ (by first | (refine gi ?_; intros; exact LT.ce (rnode_P (.N l x d) z (.N e y c) (n := n + 2) (by omega) ((sb.nd hl hx sd.up).le (by omega)) vz ((sb.nd se.up vy sc.up).le (by omega)))) | fail) rfl rfl) | ((repeat (revert hK; revert K)); refine wk ?_; repeat intro K hK) | refine wkg ?_))
            refine G.fin1 (by first | exact rvOk.tmp | exact rvOk.cellS | exact rvOk.cell1 | fail) rfl ?_
            rfl
    · have e2 : ¬ l.ht + 1 < r.ht := h2
      have ej : joinP l x r = .N l x r := by unfold joinP; rw [if_neg e1, if_neg e2]
      rw [ej]
      refine Fn.of Try.func49 Try.ntmps49 rfl (by kernel_rfl) (fun w o => ?_)
      (repeat (first | refine G.cW (rnode_P l x r (n := n + 1) (by omega) hl hx hr) ?_ | (show G _ _ _ _ (WL _ _ _ _ (⟨some _, .call _, _, _, _, some _⟩ :: _)); refine G.gC ?_ (by first | (refine gi ?_; intros; exact LT.ce (rnode_P l x r (n := n + 1) (by omega) hl hx hr)) | fail) rfl rfl) | refine GD.cW (rnode_P l x r (n := n + 1) (by omega) hl hx hr) ?_ | (show GD _ _ _ _ _ _ _ _ _ _ (⟨some _, .call _, _, _, _, some _⟩ :: _); refine GD.gC ?_ (by first | (refine gi ?_; intros; exact LT.ce (rnode_P l x r (n := n + 1) (by omega) hl hx hr)) | fail) rfl rfl) | ((repeat (revert hK; revert K)); refine wk ?_; repeat intro K hK) | refine wkg ?_))
      refine G.fin1 (by first | exact rvOk.tmp | exact rvOk.cellS | exact rvOk.cell1 | fail) rfl ?_
      rfl

end Go.Proofs.Ytmajkjkakciaiaa
