/- Trees of regions: the reference's insert; Build on both sides. -/
/- Trees of regions: Build on both sides. -/
/- Trees of regions, plain: what gap and Gap find: the lowest free place. -/
import Derived.Test.YtmajkjkakciaiaaUaM
import Derived.Test.YtmajkjkakciaiaaQe
set_option linter.unusedSimpArgs false
set_option linter.unusedVariables false
namespace Go.Proofs.Ytmajkjkakciaiaa
open Go.RowKit

theorem ins_mem : ∀ (t : PT) (r y : RV), y ∈ (insP t r).flat → y = r ∨ y ∈ t.flat
  | .E, r, y, h => by simpa [insP, PT.flat] using h
  | .N a x b, r, y, h => by
    simp only [insP] at h
    split at h
    · rw [join_flat] at h
      simp only [List.mem_append, List.mem_cons, PT.flat] at h ⊢
      rcases h with h | h | h
      · rcases ins_mem a r y h with h | h
        · exact .inl h
        · exact .inr (.inl h)
      · exact .inr (.inr (.inl h))
      · exact .inr (.inr (.inr h))
    · rw [join_flat] at h
      simp only [List.mem_append, List.mem_cons, PT.flat] at h ⊢
      rcases h with h | h | h
      · exact .inr (.inl h)
      · exact .inr (.inr (.inl h))
      · rcases ins_mem b r y h with h | h
        · exact .inl h
        · exact .inr (.inr (.inr h))
theorem ins_sb {t : PT} {r : RV} {n : Int} (hb : t.bal) (h : sb t n) (hr : vld r) : sb (insP t r) (n + 1) := by
  have := (ins_bal t r hb).2.2
  have := h.h
  refine ⟨fun y hy => ?_, by omega⟩
  rcases ins_mem t r y hy with rfl | hy
  · exact hr
  · exact h.v y hy
theorem sb.bdd {t : PT} {n : Int} (h : sb t n) (hn : n ≤ 100000) : t.bdd := bdd_of t h.v (by have := h.h; omega)
theorem join_sb {l r : PT} {x : RV} {n : Int} (h1 : sb l n) (hx : vld x) (h2 : sb r n) : sb (joinP l x r) (n + 3) := by
  have nl := PT.ht_nn l
  have nr := PT.ht_nn r
  have a1 := h1.h
  have a2 := h2.h
  refine ⟨fun y hy => ?_, ?_⟩
  · rw [join_flat] at hy
    simp only [List.mem_append, List.mem_cons] at hy
    rcases hy with hy | rfl | hy
    · exact h1.v y hy
    · exact hx
    · exact h2.v y hy
  · unfold joinP
    (repeat' split) <;> simp only [PT.ht] at * <;> omega
theorem insB_of : ∀ {t : PT} {r : RV} {n : Int}, t.bal → sb t n → n ≤ 2000 → vld r → insB t r
  | .E, _, _, _, _, _, _ => trivial
  | .N a x b, r, n, hb, hs, hn, hr => by
    obtain ⟨ba, bb, _, _⟩ := hb
    obtain ⟨sa, vx, sb'⟩ := (show sb (.N a x b) (n - 1 + 1) from by rw [Int.sub_add_cancel]; exact hs).N
    unfold insB
    split
    · exact ⟨insB_of ba sa (by omega) hr, (ins_sb ba sa hr).bdd (by omega), (join_sb (ins_sb ba sa hr) vx (sb'.le (by omega))).bdd (by omega)⟩
    · exact ⟨insB_of bb sb' (by omega) hr, (ins_sb bb sb' hr).bdd (by omega), (join_sb (sa.le (by omega)) vx (ins_sb bb sb' hr)).bdd (by omega)⟩
theorem le_EL : DL.le [.s (.int .i64 0), .s (.int .i64 0), .s (.int .i64 0), .s (.int .i64 0), .s (.int .i64 0), .s (.int .i64 0), .s (.int .i64 0), .s (.int .i64 0), .s (.int .i64 0), .s (.int .i64 0), .s (.slice none 0 0)] PT.E.td.row :=
  .cons (.refl _) (.cons (.refl _) (.cons (.refl _) (.cons (.refl _) (.cons (.refl _) (.cons (.refl _) (.cons (.refl _) (.cons (.refl _) (.cons (.refl _) (.cons (.refl _) (.cons .nil (fun _ _ _ h => h)))))))))))
theorem snoc_ind {α : Type} {P : List α → Prop} (h0 : P []) (hs : ∀ l x, P l → P (l ++ [x])) (l : List α) : P l := by
  have key : ∀ l : List α, P l.reverse := by
    intro l
    induction l with
    | nil => exact h0
    | cons x l ih => rw [List.reverse_cons]; exact hs _ _ ih
  have := key l.reverse
  rwa [List.reverse_reverse] at this
/-- The tree of the insertions. -/
def bldT (l : List RV) : PT := l.foldl insP .E
theorem bldT_snoc (l : List RV) (x : RV) : bldT (l ++ [x]) = insP (bldT l) x := by simp [bldT]
theorem bldT_good : ∀ (l : List RV), ord l → good (bldT l) ∧ (bldT l).flat = l ∧ (bldT l).ht ≤ l.length := by
  intro l
  refine snoc_ind (P := fun l => ord l → good (bldT l) ∧ (bldT l).flat = l ∧ (bldT l).ht ≤ l.length) ?_ ?_ l
  · intro _; exact ⟨⟨trivial, by simpa [bldT, PT.flat] using (⟨by simp, .nil⟩ : ord [])⟩, rfl, by simp [bldT, PT.ht]⟩
  · intro l x ih h
    obtain ⟨h1, h2, h3⟩ := ord_append h
    obtain ⟨g1, g2, g3⟩ := ih h1
    have hx : vld x := h.v x (by simp)
    have hin : ∀ y ∈ l, apart y x := fun y hy => h3 y hy x (by simp)
    have e : insL l x = l ++ [x] := by
      have := insL_right l [] x (fun y hy => by
        have h4 := hin y hy
        have h5 := (h.v y (by simp [hy])).2.1
        unfold apart RV.e at h4
        omega)
      simpa [insL] using this
    have hg := ins_good (r := x) g1 hx (fun y hy => by
      rw [g2] at hy
      have h4 := hin y hy
      intro h5
      unfold meets at h5
      unfold apart at h4
      omega)
    rw [bldT_snoc]
    refine ⟨hg, ?_, ?_⟩
    · rw [ins_flat _ _ g1.o, g2, e]
    · have := (ins_bal (bldT l) x g1.b).2.2
      simp only [List.length_append, List.length_cons, List.length_nil]
      omega
theorem ord_take {l : List RV} (h : ord l) (i : Nat) : ord (l.take i) := by
  have := ord_append (A := l.take i) (B := l.drop i) (by rw [List.take_append_drop]; exact h)
  exact this.1
theorem ord_le {l : List RV} (h : ord l) : l.length ≤ 512 := by
  have := ord_len l 0 h (fun x hx => (h.v x hx).1) (by omega) (by omega)
  omega
theorem bldT_sb {l : List RV} (h : ord l) : sb (bldT l) 512 := by
  obtain ⟨g1, g2, g3⟩ := bldT_good l h
  have := ord_le h
  exact ⟨g1.o.v, by omega⟩

attribute [local irreducible] Wp WL WO fin finB rnd Exit.then Exit.inBlock G GD LT Rd Fn FnB FvB Iter
attribute [local go_sem] RV.row TD.row
set_option maxHeartbeats 4000000 in
theorem rins_P (r : RV) (hr : vld r) : ∀ (t : PT) (n : Int), t.bal → sb t n → 0 ≤ n → n ≤ 800 → Fn Try.prog 22 [.st t.td.row, .st r.row] (· = .st (insP t r).td.row)
  | .E, n, _, _, h0, hn => by
    refine Fn.of Try.func22 Try.ntmps22 rfl (by kernel_rfl) (fun w o => ?_)
    (repeat (first | ((repeat (revert hK; revert K)); refine wk ?_; repeat intro K hK) | refine wkg ?_))
    refine G.le 8 (.st PT.E.td.row) le_E ?_
    refine G.le 10 (.st PT.E.td.row) le_E ?_
    (repeat (first | refine G.cW (rnode_P .E r .E (n := 0) (by omega) ⟨by simp [PT.flat], by simp [PT.ht]⟩ hr ⟨by simp [PT.flat], by simp [PT.ht]⟩) ?_ | (show G _ _ _ _ (WL _ _ _ _ (⟨some _, .call _, _, _, _, some _⟩ :: _)); refine G.gC ?_ (by first | (refine gi ?_; intros; exact LT.ce (rnode_P .E r .E (n := 0) (by omega) ⟨by simp [PT.flat], by simp [PT.ht]⟩ hr ⟨by simp [PT.flat], by simp [PT.ht]⟩)) | fail) rfl rfl) | refine GD.cW (rnode_P .E r .E (n := 0) (by omega) ⟨by simp [PT.flat], by simp [PT.ht]⟩ hr ⟨by simp [PT.flat], by simp [PT.ht]⟩) ?_ | (show GD _ _ _ _ _ _ _ _ _ _ (⟨some _, .call _, _, _, _, some _⟩ :: _); refine GD.gC ?_ (by first | (refine gi ?_; intros; exact LT.ce (rnode_P .E r .E (n := 0) (by omega) ⟨by simp [PT.flat], by simp [PT.ht]⟩ hr ⟨by simp [PT.flat], by simp [PT.ht]⟩)) | fail) rfl rfl) | ((repeat (revert hK; revert K)); refine wk ?_; repeat intro K hK) | refine wkg ?_))
    refine G.fin1 (by first | exact rvOk.tmp | exact rvOk.cellS | exact rvOk.cell1 | fail) rfl ?_
    rfl
  | .N a x b, n, ⟨ba, bb, _, _⟩, hs, h0, hn => by
    have hh0 : 0 < (PT.N a x b).td.h := PT.ht_pos a x b
    obtain ⟨sa, vx, sb'⟩ := (show sb (.N a x b) (n - 1 + 1) from by rw [Int.sub_add_cancel]; exact hs).N
    have n1 : 1 ≤ n := by have := hs.h; have := PT.ht_pos a x b; omega
    have hh1 : ((PT.N a x b).td.h == 0) = false := by simp; omega
    by_cases h' : r.s < (PT.N a x b).td.x.s
    · have h : r.s < x.s := h'
      have e : insP (.N a x b) r = joinP (insP a r) x b := by simp only [insP, if_pos h]
      have ih := rins_P r hr a (n - 1) ba sa (by omega) (by omega)
      have hj := rbal_P (insP a r) x b (n := n) h0 (by omega) ((ins_sb ba sa hr).le (by omega)) vx (sb'.le (by omega))
      rw [e]
      refine Fn.of Try.func22 Try.ntmps22 rfl (by kernel_rfl) (fun w o => ?_)
      (repeat (first | refine G.cW (ih) ?_ | refine G.cgW (ih) ?_ | refine GD.cW (ih) ?_ | refine GD.cgW (ih) ?_ | refine G.cW (hj) ?_ | refine G.cgW (hj) ?_ | refine GD.cW (hj) ?_ | refine GD.cgW (hj) ?_ | ((repeat (revert hK; revert K)); refine wk ?_; repeat intro K hK) | refine wkg ?_))
      refine G.fin1 (by first | exact rvOk.tmp | exact rvOk.cellS | exact rvOk.cell1 | fail) rfl ?_
      rfl
    · have h : ¬ r.s < x.s := h'
      have e : insP (.N a x b) r = joinP a x (insP b r) := by simp only [insP, if_neg h]
      have ih := rins_P r hr b (n - 1) bb sb' (by omega) (by omega)
      have hj := rbal_P a x (insP b r) (n := n) h0 (by omega) (sa.le (by omega)) vx ((ins_sb bb sb' hr).le (by omega))
      rw [e]
      refine Fn.of Try.func22 Try.ntmps22 rfl (by kernel_rfl) (fun w o => ?_)
      (repeat (first | refine G.cW (ih) ?_ | refine G.cgW (ih) ?_ | refine GD.cW (ih) ?_ | refine GD.cgW (ih) ?_ | refine G.cW (hj) ?_ | refine G.cgW (hj) ?_ | refine GD.cW (hj) ?_ | refine GD.cgW (hj) ?_ | ((repeat (revert hK; revert K)); refine wk ?_; repeat intro K hK) | refine wkg ?_))
      refine G.fin1 (by first | exact rvOk.tmp | exact rvOk.cellS | exact rvOk.cell1 | fail) rfl ?_
      rfl

end Go.Proofs.Ytmajkjkakciaiaa

set_option linter.unusedSimpArgs false
set_option linter.unusedVariables false
namespace Go.Proofs.Ytmajkjkakciaiaa
open Go.RowKit

theorem take_get {α : Type} {l : List α} {i : Nat} (h : i < l.length) : l.take (i + 1) = l.take i ++ [l[i]] := take_snoc (List.getElem?_eq_getElem h)
attribute [local irreducible] Wp WL WO fin finB rnd Exit.then Exit.inBlock G GD LT Rd Fn FnB FvB Iter
attribute [local go_sem] RV.row TD.row
def zT : List AV := [.d (.s (.int .i64 0)), .d (.s (.int .i64 0)), .d (.s (.int .i64 0)), .d (.s (.int .i64 0)), .d (.s (.int .i64 0)), .d (.s (.int .i64 0)), .d (.s (.int .i64 0)), .d (.s (.int .i64 0)), .d (.s (.int .i64 0)), .d (.s (.int .i64 0)), .d (.s (.slice none 0 0))]
def rbI (l : List RV) (i : Nat) : List (Nat × AV) × Bs := ([(6, .d (.s (.int .i64 (i : Int)))), (5, .p 1 0), (2, .p 0 0), (0, .d (.l (rws l)))], [(1, some (26, (bldT (l.take i)).td.row.map .d)), (0, some (26, zT))])
theorem rbuild_P (l : List RV) (hl : ord l) : Fn Try.prog 7 [.l (rws l)] (· = .tup [.st (bldT l).td.row, .s (.int .i64 0)]) := by
  have hlen : ((rws l).length : Int) = l.length := by rw [rws_len]
  have h512 := ord_le hl
  have hli := listed_F l (by omega)
  have e0 : lisV l = 0 := by
    have h3 : l.all vldV = true := List.all_eq_true.2 (fun x hx => (vldV_iff x).2 (hl.v x hx))
    simp [lisV, h3, ordV_of _ hl.o]
  rw [e0] at hli
  refine Fn.of Try.func7 Try.ntmps7 rfl (by kernel_rfl) (fun w o => ?_)
  (repeat (first | refine G.cW (hli) ?_ | refine G.cgW (hli) ?_ | refine GD.cW (hli) ?_ | refine GD.cgW (hli) ?_ | ((repeat (revert hK; revert K)); refine wk ?_; repeat intro K hK) | refine wkg ?_))
  refine G.leB 1 PT.E.td.row le_EL ?_
  refine G.loop (rbI l) (fun i => i ≤ l.length) (fun i => l.length - i) ?_ ?_
  · exact G.at 0 [(1, 1), (0, 0)] (Nat.zero_le _) (by repeat (first | exact trivial | refine ⟨⟨rfl, rfl⟩, ?_⟩)) (by repeat (first | exact trivial | refine ⟨⟨rfl, rfl, rfl⟩, ?_⟩ | refine ⟨⟨rfl, by rw [renL_d]; rfl, kbL_d _ _⟩, ?_⟩ | refine ⟨rfl, ?_⟩)) (by decide)
  · intro i hi
    dsimp only [rbI]
    by_cases h : i < l.length
    · have hr := rws_get l i h
      have hx : vld l[i] := hl.v _ (List.getElem_mem h)
      have ot := ord_take hl i
      have gt := (bldT_good _ ot).1
      have hin := rins_P l[i] hx (bldT (l.take i)) 512 gt.b (bldT_sb ot) (by omega) (by omega)
      have e : insP (bldT (l.take i)) l[i] = bldT (l.take (i + 1)) := by rw [take_get h, bldT_snoc]
      rw [e] at hin
      (repeat (first | refine G.cW (hin) ?_ | refine G.cgW (hin) ?_ | refine GD.cW (hin) ?_ | refine GD.cgW (hin) ?_ | (show G _ _ _ _ (WL _ _ _ _ (⟨some _, .indexAddr _ _ _, _, _, _, none⟩ :: _)); refine G.w1 ?_ (by first | exact LT.rd (Rd.ixv i (hr)) rfl | fail)) | (show G _ _ _ _ (WL _ _ _ _ (⟨some _, .indexAddr _ _ _, _, _, _, some _⟩ :: _)); refine G.gC ?_ (by first | (refine gi ?_; intros; exact LT.rd (Rd.ixv i (hr)) rfl) | fail) rfl rfl) | (show GD _ _ _ _ _ _ _ _ _ _ (⟨some _, .indexAddr _ _ _, _, _, _, none⟩ :: _); refine GD.w1 ?_ (by first | exact LT.rd (Rd.ixv i (hr)) rfl | fail)) | (show GD _ _ _ _ _ _ _ _ _ _ (⟨some _, .indexAddr _ _ _, _, _, _, some _⟩ :: _); refine GD.gC ?_ (by first | (refine gi ?_; intros; exact LT.rd (Rd.ixv i (hr)) rfl) | fail) rfl rfl) | ((repeat (revert hK; revert K)); refine wk ?_; repeat intro K hK) | refine wkg ?_))
      refine G.at (i + 1) [(1, 1), (0, 0)] ⟨by omega, by omega⟩ (by repeat (first | exact trivial | refine ⟨⟨rfl, rfl⟩, ?_⟩)) (by repeat (first | exact trivial | refine ⟨⟨rfl, rfl, rfl⟩, ?_⟩ | refine ⟨⟨rfl, by rw [renL_d]; rfl, kbL_d _ _⟩, ?_⟩ | refine ⟨rfl, ?_⟩)) (by decide)
    · (repeat (first | ((repeat (revert hK; revert K)); refine wk ?_; repeat intro K hK) | refine wkg ?_))
      refine G.fin2 (by first | exact rvOk.tmp | exact rvOk.cellS | exact rvOk.cell1 | fail) (by first | exact rvOk.tmp | exact rvOk.cellS | exact rvOk.cell1 | fail) rfl ?_
      have : l.take i = l := List.take_of_length_le (by omega)
      rw [this]
def pbI (l : List RV) (i : Nat) : List (Nat × AV) × Bs := ([(12, .d (.s (.int .i64 (i : Int)))), (11, .d (.s (.int .i64 (rws l).length))), (10, .d (.l (rws l))), (4, .d (.s (.int .i64 0))), (3, .d (.s (.int .i64 0))), (2, .p 0 0), (0, .d (.l (rws l)))], [(0, some (26, zT))])
def pcI (l : List RV) (i : Nat) : List (Nat × AV) × Bs := ([(23, .d (.s (.int .i64 (i : Int)))), (22, .d (.s (.int .i64 (rws l).length))), (21, .d (.l (rws l))), (4, .d (.s (.int .i64 (match l.take i |>.getLast? with | some x => x.s + x.p | none => 0)))), (7, .p 1 0), (3, .d (.s (.int .i64 0))), (2, .p 0 0)], [(1, some (26, (bldT (l.take i)).td.row.map .d)), (0, some (26, zT))])
set_option maxHeartbeats 1000000 in
theorem pbuild_P (l : List RV) (hl : ord l) : Fn Try.prog 58 [.l (rws l)] (· = .tup [.st (bldT l).td.row, .s (.int .i64 0)]) := by
  have hlen : ((rws l).length : Int) = l.length := by rw [rws_len]
  have h512 := ord_le hl
  refine Fn.of Try.func58 Try.ntmps58 rfl (by kernel_rfl) (fun w o => ?_)
  (repeat (first | ((repeat (revert hK; revert K)); refine wk ?_; repeat intro K hK) | refine wkg ?_))
  refine G.loop (pbI l) (fun i => i ≤ l.length) (fun i => l.length - i) ?_ ?_
  · exact G.at 0 [(0, 0)] (Nat.zero_le _) (by repeat (first | exact trivial | refine ⟨⟨rfl, rfl⟩, ?_⟩)) (by repeat (first | exact trivial | refine ⟨⟨rfl, rfl, rfl⟩, ?_⟩ | refine ⟨⟨rfl, by rw [renL_d]; rfl, kbL_d _ _⟩, ?_⟩ | refine ⟨rfl, ?_⟩)) (by decide)
  · intro i hi
    dsimp only [pbI]
    by_cases h : i < l.length
    · have hr := rws_get l i h
      have hx : vldV l[i] = true := (vldV_iff _).2 (hl.v _ (List.getElem_mem h))
      have hv := valid_F l[i]
      rw [hx] at hv
      (repeat (first | refine G.cW (hv) ?_ | refine G.cgW (hv) ?_ | refine GD.cW (hv) ?_ | refine GD.cgW (hv) ?_ | (show G _ _ _ _ (WL _ _ _ _ (⟨some _, .indexAddr _ _ _, _, _, _, none⟩ :: _)); refine G.w1 ?_ (by first | exact LT.rd (Rd.ixv i (hr)) rfl | fail)) | (show G _ _ _ _ (WL _ _ _ _ (⟨some _, .indexAddr _ _ _, _, _, _, some _⟩ :: _)); refine G.gC ?_ (by first | (refine gi ?_; intros; exact LT.rd (Rd.ixv i (hr)) rfl) | fail) rfl rfl) | (show GD _ _ _ _ _ _ _ _ _ _ (⟨some _, .indexAddr _ _ _, _, _, _, none⟩ :: _); refine GD.w1 ?_ (by first | exact LT.rd (Rd.ixv i (hr)) rfl | fail)) | (show GD _ _ _ _ _ _ _ _ _ _ (⟨some _, .indexAddr _ _ _, _, _, _, some _⟩ :: _); refine GD.gC ?_ (by first | (refine gi ?_; intros; exact LT.rd (Rd.ixv i (hr)) rfl) | fail) rfl rfl) | ((repeat (revert hK; revert K)); refine wk ?_; repeat intro K hK) | refine wkg ?_))
      refine G.at (i + 1) [(0, 0)] ⟨by omega, by omega⟩ (by repeat (first | exact trivial | refine ⟨⟨rfl, rfl⟩, ?_⟩)) (by repeat (first | exact trivial | refine ⟨⟨rfl, rfl, rfl⟩, ?_⟩ | refine ⟨⟨rfl, by rw [renL_d]; rfl, kbL_d _ _⟩, ?_⟩ | refine ⟨rfl, ?_⟩)) (by decide)
    · (repeat (first | ((repeat (revert hK; revert K)); refine wk ?_; repeat intro K hK) | refine wkg ?_))
      refine G.leB 1 PT.E.td.row le_EL ?_
      (repeat (first | ((repeat (revert hK; revert K)); refine wk ?_; repeat intro K hK) | refine wkg ?_))
      refine G.loop (pcI l) (fun i => i ≤ l.length) (fun i => l.length - i) ?_ ?_
      · exact G.at 0 [(1, 1), (0, 0)] (Nat.zero_le _) (by repeat (first | exact trivial | refine ⟨⟨rfl, rfl⟩, ?_⟩)) (by repeat (first | exact trivial | refine ⟨⟨rfl, rfl, rfl⟩, ?_⟩ | refine ⟨⟨rfl, by rw [renL_d]; rfl, kbL_d _ _⟩, ?_⟩ | refine ⟨rfl, ?_⟩)) (by decide)
      · intro i hi
        dsimp only [pcI]
        by_cases h : i < l.length
        · have hr := rws_get l i h
          have hx : vld l[i] := hl.v _ (List.getElem_mem h)
          have ot := ord_take hl i
          have gt := (bldT_good _ ot).1
          have sbt := bldT_sb ot
          have hin := insert_P l[i] (vld_sm hx) (bldT (l.take i)) (sbt.bdd (by omega)) (insB_of gt.b sbt (by omega) hx)
          have e : insP (bldT (l.take i)) l[i] = bldT (l.take (i + 1)) := by rw [take_get h, bldT_snoc]
          have he := tend_F l[i] (vld_sm hx)
          have el : (match (l.take (i + 1)).getLast? with | some x => x.s + x.p | none => 0) = l[i].s + l[i].p := by rw [take_get h, List.getLast?_concat]
          have hle : (match (l.take i).getLast? with | some x => x.s + x.p | none => 0) ≤ l[i].s := by
            cases hq : (l.take i).getLast? with
            | none => exact hx.1
            | some y =>
              have ho := (ord_take hl (i + 1)).o
              rw [take_get h] at ho
              have := (List.pairwise_append.1 ho).2.2 y (List.mem_of_getLast? hq) l[i] (by simp)
              exact this
          rw [e] at hin
          generalize (match (l.take i).getLast? with | some x => x.s + x.p | none => (0 : Int)) = m at hle ⊢
          (repeat (first | refine G.cW (hin) ?_ | refine G.cgW (hin) ?_ | refine GD.cW (hin) ?_ | refine GD.cgW (hin) ?_ | refine G.cW (he) ?_ | refine G.cgW (he) ?_ | refine GD.cW (he) ?_ | refine GD.cgW (he) ?_ | (show G _ _ _ _ (WL _ _ _ _ (⟨some _, .indexAddr _ _ _, _, _, _, none⟩ :: _)); refine G.w1 ?_ (by first | exact LT.rd (Rd.ixv i (hr)) rfl | fail)) | (show G _ _ _ _ (WL _ _ _ _ (⟨some _, .indexAddr _ _ _, _, _, _, some _⟩ :: _)); refine G.gC ?_ (by first | (refine gi ?_; intros; exact LT.rd (Rd.ixv i (hr)) rfl) | fail) rfl rfl) | (show GD _ _ _ _ _ _ _ _ _ _ (⟨some _, .indexAddr _ _ _, _, _, _, none⟩ :: _); refine GD.w1 ?_ (by first | exact LT.rd (Rd.ixv i (hr)) rfl | fail)) | (show GD _ _ _ _ _ _ _ _ _ _ (⟨some _, .indexAddr _ _ _, _, _, _, some _⟩ :: _); refine GD.gC ?_ (by first | (refine gi ?_; intros; exact LT.rd (Rd.ixv i (hr)) rfl) | fail) rfl rfl) | ((repeat (revert hK; revert K)); refine wk ?_; repeat intro K hK) | refine wkg ?_))
          refine G.at (i + 1) [(1, 1), (0, 0)] ⟨by omega, by omega⟩ (by dsimp only [pcI]; rw [el]; exact (by repeat (first | exact trivial | refine ⟨⟨rfl, rfl⟩, ?_⟩))) (by repeat (first | exact trivial | refine ⟨⟨rfl, rfl, rfl⟩, ?_⟩ | refine ⟨⟨rfl, by rw [renL_d]; rfl, kbL_d _ _⟩, ?_⟩ | refine ⟨rfl, ?_⟩)) (by decide)
        · (repeat (first | ((repeat (revert hK; revert K)); refine wk ?_; repeat intro K hK) | refine wkg ?_))
          refine G.fin2 (by first | exact rvOk.tmp | exact rvOk.cellS | exact rvOk.cell1 | fail) (by first | exact rvOk.tmp | exact rvOk.cellS | exact rvOk.cell1 | fail) rfl ?_
          have : l.take i = l := List.take_of_length_le (by omega)
          rw [this]

end Go.Proofs.Ytmajkjkakciaiaa

set_option linter.unusedSimpArgs false
set_option linter.unusedVariables false
namespace Go.Proofs.Ytmajkjkakciaiaa
open Go.RowKit

def mx (a b : Int) : Int := if a < b then b else a
theorem mx_max (a b : Int) : mx a b = max a b := by unfold mx; split <;> omega
def gapB (s lo n h g f fr l : Int) : Bool := decide (n ≤ s - lo) && (((h == 0 || decide (n ≤ g)) || decide (n ≤ f - fr)) || decide (n ≤ s - l))
def gap0 (fr tt lo n : Int) : Int := if n ≤ tt - mx fr lo then mx fr lo else -1
def gapP : PT → Int → Int → Int → Int → Int
  | .E, fr, tt, lo, n => gap0 fr tt lo n
  | .N a x b, fr, tt, lo, n => if tt - lo < n then gap0 fr tt lo n else if gapB x.s lo n a.ht a.gp a.fst fr a.lst = true ∧ 0 ≤ gapP a fr x.s lo n then gapP a fr x.s lo n else gapP b x.e tt lo n
/-- The bounds of a search. -/
structure GI (fr tt lo n : Int) : Prop where
  f0 : 0 ≤ fr
  f1 : fr ≤ 512
  t0 : 0 ≤ tt
  t1 : tt ≤ 512
  l0 : 0 ≤ lo
  l1 : lo ≤ 512
  n0 : 1 ≤ n
  n1 : n ≤ 512
theorem gapB_eq (s lo n h g f fr l : Int) : gapB s lo n h g f fr l = (decide (n ≤ s - lo) && (((h == 0 || decide (n ≤ g)) || decide (n ≤ f - fr)) || decide (n ≤ s - l))) := rfl
def gapBad (lo hi n : Int) : Bool := (((decide (lo < 0) || decide (hi < lo)) || decide (512 < hi)) || decide (n < 1)) || decide (512 < n)
def GapF (p : PT) (lo hi n : Int) : Int := if gapBad lo hi n = true then -1 else if (decide (gapP p 0 512 lo n < 0) || decide (hi - n < gapP p 0 512 lo n)) = true then -1 else gapP p 0 512 lo n
def freeR (s n : Int) (r : RV) : Bool := decide (r.e ≤ s) || decide (s + n ≤ r.s)
def freeL (l : List RV) (s n : Int) : Bool := l.all (freeR s n)
theorem freeR_iff {s n : Int} {r : RV} : freeR s n r = true ↔ r.e ≤ s ∨ s + n ≤ r.s := by simp [freeR]
theorem freeL_app (a b : List RV) (s n : Int) : freeL (a ++ b) s n = (freeL a s n && freeL b s n) := List.all_append
theorem freeL_cons (x : RV) (b : List RV) (s n : Int) : freeL (x :: b) s n = (freeR s n x && freeL b s n) := rfl
theorem freeL_below {l : List RV} {s n : Int} (h : ∀ x ∈ l, s + n ≤ x.s) : freeL l s n = true :=
  List.all_eq_true.2 fun x hx => freeR_iff.2 (.inr (h x hx))
theorem freeL_above {l : List RV} {s n : Int} (h : ∀ x ∈ l, x.e ≤ s) : freeL l s n = true :=
  List.all_eq_true.2 fun x hx => freeR_iff.2 (.inl (h x hx))
/-- Where n free pages can lie. -/
theorem free_where : ∀ (l : List RV) (s n : Int), l ≠ [] → freeL l s n = true → s + n ≤ fstL l ∨ lstL l ≤ s ∨ n ≤ gapL l
  | [], _, _, h, _ => absurd rfl h
  | [x], s, n, _, h => by
    rw [freeL_cons, Bool.and_eq_true, freeR_iff] at h
    rcases h.1 with h | h
    · exact .inr (.inl h)
    · exact .inl h
  | x :: y :: l, s, n, _, h => by
    rw [freeL_cons, Bool.and_eq_true, freeR_iff] at h
    obtain ⟨h1, h2⟩ := h
    rcases h1 with h1 | h1
    · rcases free_where (y :: l) s n (by simp) h2 with h3 | h3 | h3
      · right; right
        simp only [fstL] at h3
        simp only [gapL]
        omega
      · exact .inr (.inl h3)
      · right; right
        simp only [gapL]
        omega
    · exact .inl h1
/-- s is the lowest place of n free pages between fr and tt, at lo or above; or there is none, and s is -1. -/
def IsGap (l : List RV) (fr tt lo n s : Int) : Prop :=
  (s = -1 ∧ ∀ q, fr ≤ q → lo ≤ q → q + n ≤ tt → freeL l q n = false) ∨
  (fr ≤ s ∧ lo ≤ s ∧ s + n ≤ tt ∧ freeL l s n = true ∧ ∀ q, fr ≤ q → lo ≤ q → q < s → freeL l q n = false)
theorem gap0_is {fr tt lo n : Int} : IsGap [] fr tt lo n (gap0 fr tt lo n) := by
  unfold gap0 mx
  by_cases c : n ≤ tt - (if fr < lo then lo else fr)
  · rw [if_pos c]
    right
    split at c <;> rename_i h <;> simp only [h, if_true, if_false] <;> refine ⟨by omega, by omega, by omega, rfl, fun q h1 h2 h3 => ?_⟩ <;> omega
  · rw [if_neg c]
    left
    refine ⟨rfl, fun q h1 h2 h3 => ?_⟩
    split at c <;> omega
theorem gapP_is : ∀ (p : PT) (fr tt lo n : Int), ord p.flat → (∀ x ∈ p.flat, fr ≤ x.s ∧ x.e ≤ tt) → 0 ≤ fr → 0 ≤ lo → 1 ≤ n → IsGap p.flat fr tt lo n (gapP p fr tt lo n)
  | .E, fr, tt, lo, n, _, _, _, _, _ => gap0_is
  | .N a x b, fr, tt, lo, n, ho, hb, h0, hl0, hn => by
    obtain ⟨oa, vx, ob, ax, xb⟩ := ord_node ho
    have hx := hb x (by simp [PT.flat])
    have hv := vx
    obtain ⟨v1, v2, v3, v4⟩ := hv
    have hbx : ∀ y ∈ b.flat, x.e ≤ y.s := fun y hy => xb y hy
    have hax : ∀ y ∈ a.flat, y.e ≤ x.s := fun y hy => ax y hy
    have hall : ∀ q, freeL (PT.N a x b).flat q n = (freeL a.flat q n && (freeR q n x && freeL b.flat q n)) := fun q => by
      show freeL (a.flat ++ x :: b.flat) q n = _
      rw [freeL_app, freeL_cons]
    unfold gapP
    by_cases c1 : tt - lo < n
    · rw [if_pos c1]
      left
      refine ⟨?_, fun q h1 h2 h3 => by omega⟩
      unfold gap0 mx
      rw [if_neg]
      split <;> omega
    · rw [if_neg c1]
      have ia := gapP_is a fr x.s lo n oa (fun y hy => ⟨(hb y (by simp [PT.flat, hy])).1, hax y hy⟩) h0 hl0 hn
      have ib := gapP_is b x.e tt lo n ob (fun y hy => ⟨hbx y hy, (hb y (by simp [PT.flat, hy])).2⟩) (by unfold RV.e; omega) hl0 hn
      -- behind x: the same as in b
      have right : (∀ q, fr ≤ q → lo ≤ q → q + n ≤ x.s → freeL a.flat q n = false) → IsGap (PT.N a x b).flat fr tt lo n (gapP b x.e tt lo n) := fun hno => by
        have low : ∀ q, fr ≤ q → lo ≤ q → q < x.e → freeL (PT.N a x b).flat q n = false := fun q h1 h2 h3 => by
          rw [hall]
          by_cases c : q + n ≤ x.s
          · rw [hno q h1 h2 c]; rfl
          · have : freeR q n x = false := by
              rw [← Bool.not_eq_true, freeR_iff]
              omega
            rw [this]; simp
        have high : ∀ q, x.e ≤ q → freeL (PT.N a x b).flat q n = freeL b.flat q n := fun q h => by
          rw [hall, freeL_above (l := a.flat) (fun y hy => by have := hax y hy; unfold RV.e at *; omega), freeR_iff.2 (.inl h)]
          rfl
        rcases ib with ⟨h1, h2⟩ | ⟨h1, h2, h3, h4, h5⟩
        · left
          refine ⟨h1, fun q g1 g2 g3 => ?_⟩
          by_cases c : q < x.e
          · exact low q g1 g2 c
          · rw [high q (by omega)]; exact h2 q (by omega) g2 g3
        · refine .inr ⟨?_, h2, h3, by rw [high _ h1]; exact h4, fun q g1 g2 g3 => ?_⟩
          · have e : x.e = x.s + x.p := rfl
            omega
          by_cases c : q < x.e
          · exact low q g1 g2 c
          · rw [high q (by omega)]; exact h5 q (by omega) g2 g3
      by_cases c2 : gapB x.s lo n a.ht a.gp a.fst fr a.lst = true ∧ 0 ≤ gapP a fr x.s lo n
      · rw [if_pos c2]
        rcases ia with ⟨h1, h2⟩ | ⟨h1, h2, h3, h4, h5⟩
        · have := c2.2; omega
        · refine .inr ⟨h1, h2, by unfold RV.e at hx; omega, ?_, fun q g1 g2 g3 => by rw [hall, h5 q g1 g2 g3]; rfl⟩
          rw [hall, h4, freeR_iff.2 (.inr h3), freeL_below (l := b.flat) (fun y hy => by have := hbx y hy; unfold RV.e at *; omega)]
          rfl
      · rw [if_neg c2]
        refine right (fun q g1 g2 g3 => ?_)
        rcases ia with ⟨h1, h2⟩ | ⟨h1, h2, h3, h4, h5⟩
        · exact h2 q g1 g2 g3
        · -- then the look ahead said no
          have hB : ¬ gapB x.s lo n a.ht a.gp a.fst fr a.lst = true := fun h => c2 ⟨h, by omega⟩
          rw [gapB_eq] at hB
          simp only [Bool.and_eq_true, Bool.or_eq_true, decide_eq_true_eq, beq_iff_eq] at hB
          rw [← Bool.not_eq_true]
          intro hf
          apply hB
          refine ⟨by omega, ?_⟩
          by_cases hz : a.ht = 0
          · exact .inl (.inl (.inl hz))
          · have hne : a.flat ≠ [] := by
              cases a with
              | E => exact absurd rfl hz
              | N l y r => exact flat_ne l y r
            rw [fst_flat, lst_flat, gap_flat]
            rcases free_where a.flat q n hne hf with h | h | h
            · exact .inl (.inr (by omega))
            · exact .inr (by omega)
            · exact .inl (.inl (.inr h))
theorem gap_all {p : PT} (hp : good p) {lo n : Int} (hl : 0 ≤ lo) (hn : 1 ≤ n) : IsGap p.flat 0 512 lo n (gapP p 0 512 lo n) :=
  gapP_is p 0 512 lo n hp.o (fun x hx => by obtain ⟨v1, v2, v3, v4⟩ := hp.o.v x hx; unfold RV.e; omega) (by omega) hl hn
theorem GapF_bad {p : PT} {lo hi n : Int} (h : gapBad lo hi n = true) : GapF p lo hi n = -1 := by
  unfold GapF
  rw [if_pos h]
theorem gapBad_ok {lo hi n : Int} (h0 : 0 ≤ lo) (h1 : lo ≤ hi) (h2 : hi ≤ 512) (h3 : 1 ≤ n) (h4 : n ≤ 512) : gapBad lo hi n = false := by
  unfold gapBad
  rw [decide_eq_false (by omega), decide_eq_false (by omega), decide_eq_false (by omega), decide_eq_false (by omega), decide_eq_false (by omega)]
  rfl
theorem GapF_first {p : PT} (hp : good p) {lo hi n s : Int} (h0 : 0 ≤ lo) (h1 : lo ≤ hi) (h2 : hi ≤ 512) (h3 : 1 ≤ n) (hs : lo ≤ s) (hs2 : s ≤ hi - n) (hf : freeL p.flat s n = true) (hno : ∀ q, lo ≤ q → q < s → freeL p.flat q n = false) : GapF p lo hi n = s := by
  unfold GapF
  rw [if_neg (by rw [gapBad_ok h0 h1 h2 h3 (by omega)]; decide)]
  have e : gapP p 0 512 lo n = s := by
    rcases gap_all hp h0 h3 with ⟨g1, g2⟩ | ⟨g1, g2, g3, g4, g5⟩
    · rw [g2 s (by omega) hs (by omega)] at hf; cases hf
    · by_cases c : gapP p 0 512 lo n < s
      · rw [hno _ g2 c] at g4; cases g4
      · by_cases c2 : s < gapP p 0 512 lo n
        · rw [g5 s (by omega) hs c2] at hf; cases hf
        · omega
  rw [e, if_neg]
  rw [Bool.or_eq_true, decide_eq_true_eq, decide_eq_true_eq]
  omega
theorem GapF_none {p : PT} (hp : good p) {lo hi n : Int} (h0 : 0 ≤ lo) (h1 : lo ≤ hi) (h2 : hi ≤ 512) (h3 : 1 ≤ n) (hno : ∀ q, lo ≤ q → q ≤ hi - n → freeL p.flat q n = false) : GapF p lo hi n = -1 := by
  by_cases h4 : n ≤ 512
  · unfold GapF
    rw [if_neg (by rw [gapBad_ok h0 h1 h2 h3 h4]; decide), if_pos]
    rw [Bool.or_eq_true, decide_eq_true_eq, decide_eq_true_eq]
    rcases gap_all hp h0 h3 with ⟨g1, g2⟩ | ⟨g1, g2, g3, g4, g5⟩
    · omega
    · by_cases c : gapP p 0 512 lo n ≤ hi - n
      · rw [hno _ g2 c] at g4; cases g4
      · omega
  · refine GapF_bad ?_
    unfold gapBad
    rw [decide_eq_true (show 512 < n by omega), Bool.or_true]

end Go.Proofs.Ytmajkjkakciaiaa
