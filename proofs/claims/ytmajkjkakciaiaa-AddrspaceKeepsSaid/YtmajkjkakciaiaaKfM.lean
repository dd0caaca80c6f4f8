/- The law AddrspaceKeeps as a contract. -/
import Derived.Test.YtmajkjkakciaiaaKeM
import Derived.Test.YtmajkjkakciaiaaVbM
set_option linter.unusedSimpArgs false
set_option linter.unusedVariables false
namespace Go.Proofs.Ytmajkjkakciaiaa
open Go.RowKit

theorem Fn.leR {P : Program} {K : Nat} {ds : List D} {x y : D} (h : Fn P K ds (· = x)) (hl : D.le x y) : Fn P K ds (· = y) :=
  ⟨h.1, fun own W vs ho hv => (h.2 own W vs ho hv).mono fun e W' ⟨v, z, h1, h2, h3, h4⟩ => ⟨v, y, h1, rfl, h3, by subst h2; exact hl _ _ _ h4⟩⟩
attribute [local irreducible] Wp WL WO fin finB rnd Exit.then Exit.inBlock G GD LT Rd Fn FnB FvB Iter
attribute [local go_sem] RV.row TD.row OV.row
/-- The regions that the reference lists, the tree that it builds of them. -/
theorem list_any {t : GT} (h : TOK t.td) : ∃ l, ord l ∧ Fn Try.prog 6 [.st t.td.row] (· = .l (rws l)) := by
  cases h with
  | bad e he h1 h2 => exact ⟨[], ⟨fun x hx => (List.not_mem_nil hx).elim, List.Pairwise.nil⟩, Fn.leR (rlist_bad t.td e he h2) D.le.nil⟩
  | ok p hp h =>
    rw [← h]
    exact ⟨p.flat, hp.o, rlist_P hp⟩
/-- A call on what is no address space. -/
theorem do_bad {t : TD} {e : Int} (he : e ≠ 0) (hc : Fn Try.prog 25 [.st t.row] (· = .s (.int .i64 e))) (o : OV) : ∃ e, e ≠ 0 ∧ Fn Try.prog 8 [.st t.row, .st o.row] (· = .tup [.st t.row, .s (.int .i64 e)]) := by
  have fin : ∀ q : TD, Fn Try.prog 8 [.st t.row, .st o.row] (· = .tup [.st (if e = 0 then q else t).row, .s (.int .i64 e)]) → ∃ e, e ≠ 0 ∧ Fn Try.prog 8 [.st t.row, .st o.row] (· = .tup [.st t.row, .s (.int .i64 e)]) := fun q h => by
    rw [if_neg he] at h
    exact ⟨e, he, h⟩
  by_cases h0 : o.k = 0
  · exact fin _ (do_0 t PT.E.td o h0 e (map_E he hc o.r))
  · by_cases h1 : o.k = 1
    · exact fin _ (do_1 t PT.E.td o h1 e (unmap_E he hc o.g o.c))
    · by_cases h2 : o.k = 2
      · exact fin _ (do_2 t PT.E.td o h2 e (protect_E he hc o.g o.c o.n))
      · by_cases h3 : o.k = 3
        · exact fin _ (do_3 t PT.E.td o h3 e (lock_E he hc o.g o.c (o.n == 1)))
        · by_cases h4 : o.k = 4
          · exact fin _ (do_4 t PT.E.td o h4 e (grow_E he hc o.g))
          · exact ⟨6, by decide, do_n t o ⟨h0, h1, h2, h3, h4⟩⟩
/-- What a call does: it fails and gives the tree back; it leaves the empty tree; it leaves a tree whose kids are new. -/
inductive DoK (q : TD) (o : OV) : Prop
  | bad (e : Int) (he : e ≠ 0) (h : Fn Try.prog 8 [.st q.row, .st o.row] (· = .tup [.st q.row, .s (.int .i64 e)]))
  | emp (h : Fn Try.prog 8 [.st q.row, .st o.row] (· = .tup [.st PT.E.td.row, .s (.int .i64 0)]))
  | new (a : PT) (x : RV) (b : PT) (hk : 0 ≤ o.k ∧ o.k ≤ 4) (h : FnB Try.prog CT 8 [.d (.st q.row), .d (.st o.row)] [(101, none)] (.tup [.st (oC 101 (PT.N a x b).td), .d (.s (.int .i64 0))]) (oB (PT.N a x b).td))
theorem do_K {l : List RV} (hl : ord l) (o : OV) : DoK (bldT l).td o := by
  obtain ⟨g1, g2, _⟩ := bldT_good l hl
  by_cases hc : chkL (bldT l).flat = 0
  · have hp : ASP (bldT l) := ⟨g1, hc⟩
    generalize bldT l = p at *
    have hd := do_P hp o
    unfold resD doT at hd
    by_cases h0 : (askT p o).2 = 0
    · have hO := do_O hp o h0
      rw [if_pos h0] at hd
      have hk : 0 ≤ o.k ∧ o.k ≤ 4 := by
        refine Classical.byContradiction fun hk => ?_
        unfold askT at h0
        rw [if_neg (by omega), if_neg (by omega), if_neg (by omega), if_neg (by omega), if_neg (by omega)] at h0
        cases h0
      cases ha : (askT p o).1 with
      | E => rw [ha] at hd; exact .emp hd
      | N a x b => rw [ha] at hO; exact .new a x b hk hO
    · rw [if_neg h0] at hd
      exact .bad _ h0 hd
  · obtain ⟨e, he, h⟩ := do_bad hc (acheck_ok g1) o
    exact .bad e he h
set_option maxHeartbeats 2000000 in
theorem law_keeps (t : GT) (o : OV) : Fn Try.prog 3 [.st t.td.row, .st o.row] (· = .s (.bool true)) := by
  have hfw := few_F t (few_G t)
  cases hf : fewG t with
  | false =>
    rw [hf] at hfw
    refine Fn.of Try.func3 Try.ntmps3 rfl (by kernel_rfl) (fun w o => ?_)
    (repeat (first | refine G.cW (hfw) ?_ | refine G.cgW (hfw) ?_ | refine GD.cW (hfw) ?_ | refine GD.cgW (hfw) ?_ | refine G.cW (awake_F) ?_ | refine G.cgW (awake_F) ?_ | refine GD.cW (awake_F) ?_ | refine GD.cgW (awake_F) ?_ | ((repeat (revert hK; revert K)); refine wk ?_; repeat intro K hK) | refine wkg ?_))
    refine G.fin1 (by first | exact rvOk.tmp | exact rvOk.cellS | exact rvOk.cell1 | fail) rfl ?_
    rfl
  | true =>
    rw [hf] at hfw
    obtain ⟨l, hl, hli⟩ := list_any (tok_of t hf)
    have hbl := rbuild_P l hl
    have sm := psame_P (bldT l)
    have hdo := do_K hl o
    generalize (bldT l).td = q at *
    cases hdo with
    | bad e he hd =>
      have he0 : (e == 0) = false := by simpa using he
      cases hb : ((decide (0 ≤ o.k) && decide (o.k ≤ 4)) && ((q.k.length : Int) == 2)) with
      | true =>
        refine Fn.of Try.func3 Try.ntmps3 rfl (by kernel_rfl) (fun w o => ?_)
        (repeat (first | refine G.cW (hfw) ?_ | refine G.cgW (hfw) ?_ | refine GD.cW (hfw) ?_ | refine GD.cgW (hfw) ?_ | refine G.cW (hli) ?_ | refine G.cgW (hli) ?_ | refine GD.cW (hli) ?_ | refine GD.cgW (hli) ?_ | refine G.cW (hbl) ?_ | refine G.cgW (hbl) ?_ | refine GD.cW (hbl) ?_ | refine GD.cgW (hbl) ?_ | refine G.cW (hd) ?_ | refine G.cgW (hd) ?_ | refine GD.cW (hd) ?_ | refine GD.cgW (hd) ?_ | refine G.cW (sm) ?_ | refine G.cgW (sm) ?_ | refine GD.cW (sm) ?_ | refine GD.cgW (sm) ?_ | refine G.cW (awake_F) ?_ | refine G.cgW (awake_F) ?_ | refine GD.cW (awake_F) ?_ | refine GD.cgW (awake_F) ?_ | ((repeat (revert hK; revert K)); refine wk ?_; repeat intro K hK) | refine wkg ?_))
        refine G.fin1 (by first | exact rvOk.tmp | exact rvOk.cellS | exact rvOk.cell1 | fail) rfl ?_
        simp
      | false =>
        refine Fn.of Try.func3 Try.ntmps3 rfl (by kernel_rfl) (fun w o => ?_)
        (repeat (first | refine G.cW (hfw) ?_ | refine G.cgW (hfw) ?_ | refine GD.cW (hfw) ?_ | refine GD.cgW (hfw) ?_ | refine G.cW (hli) ?_ | refine G.cgW (hli) ?_ | refine GD.cW (hli) ?_ | refine GD.cgW (hli) ?_ | refine G.cW (hbl) ?_ | refine G.cgW (hbl) ?_ | refine GD.cW (hbl) ?_ | refine GD.cgW (hbl) ?_ | refine G.cW (hd) ?_ | refine G.cgW (hd) ?_ | refine GD.cW (hd) ?_ | refine GD.cgW (hd) ?_ | refine G.cW (sm) ?_ | refine G.cgW (sm) ?_ | refine GD.cW (sm) ?_ | refine GD.cgW (sm) ?_ | refine G.cW (awake_F) ?_ | refine G.cgW (awake_F) ?_ | refine GD.cW (awake_F) ?_ | refine GD.cgW (awake_F) ?_ | ((repeat (revert hK; revert K)); refine wk ?_; repeat intro K hK) | refine wkg ?_))
        refine G.fin1 (by first | exact rvOk.tmp | exact rvOk.cellS | exact rvOk.cell1 | fail) rfl ?_
        simp
    | emp hd =>
      cases hb : ((decide (0 ≤ o.k) && decide (o.k ≤ 4)) && ((0 : Int) == 2)) with
      | true => simp at hb
      | false =>
        refine Fn.of Try.func3 Try.ntmps3 rfl (by kernel_rfl) (fun w o => ?_)
        (repeat (first | refine G.cW (hfw) ?_ | refine G.cgW (hfw) ?_ | refine GD.cW (hfw) ?_ | refine GD.cgW (hfw) ?_ | refine G.cW (hli) ?_ | refine G.cgW (hli) ?_ | refine GD.cW (hli) ?_ | refine GD.cgW (hli) ?_ | refine G.cW (hbl) ?_ | refine G.cgW (hbl) ?_ | refine GD.cW (hbl) ?_ | refine GD.cgW (hbl) ?_ | refine G.cW (hd) ?_ | refine G.cgW (hd) ?_ | refine GD.cW (hd) ?_ | refine GD.cgW (hd) ?_ | refine G.cW (sm) ?_ | refine G.cgW (sm) ?_ | refine GD.cW (sm) ?_ | refine GD.cgW (sm) ?_ | refine G.cW (awake_F) ?_ | refine G.cgW (awake_F) ?_ | refine GD.cW (awake_F) ?_ | refine GD.cgW (awake_F) ?_ | ((repeat (revert hK; revert K)); refine wk ?_; repeat intro K hK) | refine wkg ?_))
        refine G.fin1 (by first | exact rvOk.tmp | exact rvOk.cellS | exact rvOk.cell1 | fail) rfl ?_
        simp
    | new a x b hk hd =>
      have hk1 : decide (0 ≤ o.k) = true := by simpa using hk.1
      have hk2 : decide (o.k ≤ 4) = true := by simpa using hk.2
      unfold oB oC at hd
      have j0 : 0 < (PT.N a x b).td.k.length := (by decide : 0 < 2)
      have m0 := kids_row (PT.N a x b)
      have j1 : 1 < ((PT.N a x b).td.k.set 0 [.s (.int .i64 9), .s (.int .i64 0), .s (.int .i64 0), .s (.int .i64 0), .s (.int .i64 0), .s (.int .i64 0), .s (.int .i64 0), .s (.int .i64 0), .s (.int .i64 0), .s (.int .i64 0), .s (.slice none 0 0)]).length := by rw [List.length_set]; exact (by decide : 1 < 2)
      have m1 : ∀ r ∈ (PT.N a x b).td.k.set 0 [.s (.int .i64 9), .s (.int .i64 0), .s (.int .i64 0), .s (.int .i64 0), .s (.int .i64 0), .s (.int .i64 0), .s (.int .i64 0), .s (.int .i64 0), .s (.int .i64 0), .s (.int .i64 0), .s (.slice none 0 0)], r.length = 11 := fun r hr => by
        rcases List.mem_or_eq_of_mem_set hr with h | rfl
        · exact m0 r h
        · rfl
      refine Fn.of Try.func3 Try.ntmps3 rfl (by kernel_rfl) (fun w o => ?_)
      (repeat (first | refine G.cW (hfw) ?_ | refine G.cgW (hfw) ?_ | refine GD.cW (hfw) ?_ | refine GD.cgW (hfw) ?_ | refine G.cW (hli) ?_ | refine G.cgW (hli) ?_ | refine GD.cW (hli) ?_ | refine GD.cgW (hli) ?_ | refine G.cW (hbl) ?_ | refine G.cgW (hbl) ?_ | refine GD.cW (hbl) ?_ | refine GD.cgW (hbl) ?_ | refine G.cW (sm) ?_ | refine G.cgW (sm) ?_ | refine GD.cW (sm) ?_ | refine GD.cgW (sm) ?_ | refine G.cW (awake_F) ?_ | refine G.cgW (awake_F) ?_ | refine GD.cW (awake_F) ?_ | refine GD.cgW (awake_F) ?_ | (show G _ _ _ _ (WL _ _ _ _ (⟨some _, .call _, _, _, _, none⟩ :: _)); refine G.w2 ?_ (by first | exact LT.cvK (hd) (by first | ((repeat (first | exact EvL.nil | (apply EvL.cons; exact ⟨_, rfl, by (try (apply Und.gd; assumption; try (apply Und.gd; assumption; try (apply Und.gd; assumption)))); exact Und.refl _⟩))); done) | fail) inferInstance (by simp only [List.length_cons, List.length_nil, Nat.reduceAdd]; rfl) (by rfl) (by (simp only [AV.ren, AV.renL, lk_self, Option.getD_some] <;> rfl)) (by rfl) (by rfl) rfl | fail)) | (show GD _ _ _ _ _ _ _ _ _ _ (⟨some _, .call _, _, _, _, none⟩ :: _); refine GD.w2 ?_ (by first | exact LT.cvK (hd) (by first | ((repeat (first | exact EvL.nil | (apply EvL.cons; exact ⟨_, rfl, by (try (apply Und.gd; assumption; try (apply Und.gd; assumption; try (apply Und.gd; assumption)))); exact Und.refl _⟩))); done) | fail) inferInstance (by simp only [List.length_cons, List.length_nil, Nat.reduceAdd]; rfl) (by rfl) (by (simp only [AV.ren, AV.renL, lk_self, Option.getD_some] <;> rfl)) (by rfl) (by rfl) rfl | fail)) | (show G _ _ _ _ (WL _ _ _ _ (⟨some _, .indexAddr _ _ _, _, _, _, none⟩ :: _)); refine G.w1 ?_ (by first | exact LT.rd (Rd.ixov 0 (j0)) rfl | fail)) | (show G _ _ _ _ (WL _ _ _ _ (⟨some _, .indexAddr _ _ _, _, _, _, some _⟩ :: _)); refine G.gC ?_ (by first | (refine gi ?_; intros; exact LT.rd (Rd.ixov 0 (j0)) rfl) | fail) rfl rfl) | (show GD _ _ _ _ _ _ _ _ _ _ (⟨some _, .indexAddr _ _ _, _, _, _, none⟩ :: _); refine GD.w1 ?_ (by first | exact LT.rd (Rd.ixov 0 (j0)) rfl | fail)) | (show GD _ _ _ _ _ _ _ _ _ _ (⟨some _, .indexAddr _ _ _, _, _, _, some _⟩ :: _); refine GD.gC ?_ (by first | (refine gi ?_; intros; exact LT.rd (Rd.ixov 0 (j0)) rfl) | fail) rfl rfl) | (show G _ _ _ _ (WL _ _ _ _ (⟨some _, .indexAddr _ _ _, _, _, _, none⟩ :: _)); refine G.w1 ?_ (by first | exact LT.rd (Rd.ixov 1 (j1)) rfl | fail)) | (show G _ _ _ _ (WL _ _ _ _ (⟨some _, .indexAddr _ _ _, _, _, _, some _⟩ :: _)); refine G.gC ?_ (by first | (refine gi ?_; intros; exact LT.rd (Rd.ixov 1 (j1)) rfl) | fail) rfl rfl) | (show GD _ _ _ _ _ _ _ _ _ _ (⟨some _, .indexAddr _ _ _, _, _, _, none⟩ :: _); refine GD.w1 ?_ (by first | exact LT.rd (Rd.ixov 1 (j1)) rfl | fail)) | (show GD _ _ _ _ _ _ _ _ _ _ (⟨some _, .indexAddr _ _ _, _, _, _, some _⟩ :: _); refine GD.gC ?_ (by first | (refine gi ?_; intros; exact LT.rd (Rd.ixov 1 (j1)) rfl) | fail) rfl rfl) | (show G _ _ _ _ (WL _ _ _ _ (⟨none, .store _ _ _, _, _, _, none⟩ :: _)); refine G.w0 ?_ (by first | exact LT.stRv 0 (m0) (j0) | fail)) | (show GD _ _ _ _ _ _ _ _ _ _ (⟨none, .store _ _ _, _, _, _, none⟩ :: _); refine GD.w0 ?_ (by first | exact LT.stRv 0 (m0) (j0) | fail)) | (show G _ _ _ _ (WL _ _ _ _ (⟨none, .store _ _ _, _, _, _, none⟩ :: _)); refine G.w0 ?_ (by first | exact LT.stRv 1 (m1) (j1) | fail)) | (show GD _ _ _ _ _ _ _ _ _ _ (⟨none, .store _ _ _, _, _, _, none⟩ :: _); refine GD.w0 ?_ (by first | exact LT.stRv 1 (m1) (j1) | fail)) | ((repeat (revert hK; revert K)); refine wk ?_; repeat intro K hK) | refine wkg ?_))
      refine G.fin1 (by first | exact rvOk.tmp | exact rvOk.cellS | exact rvOk.cell1 | fail) rfl ?_
      simp

end Go.Proofs.Ytmajkjkakciaiaa
