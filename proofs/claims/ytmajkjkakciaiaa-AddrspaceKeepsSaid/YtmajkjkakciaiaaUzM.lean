/- Address spaces, the program's side: Map. -/
import Derived.Test.YtmajkjkakciaiaaQn
set_option linter.unusedSimpArgs false
set_option linter.unusedVariables false
namespace Go.Proofs.Ytmajkjkakciaiaa
open Go.RowKit

/-- Where Map puts a region: behind the last one that begins lower. -/
def atI (l : List RV) (s : Int) : Nat → Nat
  | 0 => 0
  | i + 1 => if (l[i]?.getD RV.z).s < s then i + 1 else atI l s i
theorem atI_le (l : List RV) (s : Int) : ∀ i, atI l s i ≤ i
  | 0 => Nat.le_refl _
  | i + 1 => by
    unfold atI
    split
    · exact Nat.le_refl _
    · exact Nat.le_succ_of_le (atI_le l s i)
theorem atI_hi {l : List RV} {s : Int} : ∀ {i j : Nat}, atI l s i ≤ j → j < i → ¬ (l[j]?.getD RV.z).s < s
  | i + 1, j, h, hj => by
    unfold atI at h
    by_cases hc : (l[i]?.getD RV.z).s < s
    · rw [if_pos hc] at h; omega
    · rw [if_neg hc] at h
      by_cases e : j = i
      · subst e; exact hc
      · exact atI_hi h (by omega)
theorem atI_lo {l : List RV} {s : Int} : ∀ {i : Nat}, 0 < atI l s i → (l[atI l s i - 1]?.getD RV.z).s < s
  | 0, h => by simp [atI] at h
  | i + 1, h => by
    unfold atI at h ⊢
    by_cases hc : (l[i]?.getD RV.z).s < s
    · rw [if_pos hc] at h ⊢
      exact hc
    · rw [if_neg hc] at h ⊢
      exact atI_lo h
theorem sorted_get {l : List RV} (h : okl l) {i j : Nat} {x y : RV} (hi : l[i]? = some x) (hj : l[j]? = some y) (hij : i < j) : x.s + x.p ≤ y.s := by
  have hp := List.pairwise_iff_getElem.1 h.o i j (List.getElem?_eq_some_iff.1 hi).1 (List.getElem?_eq_some_iff.1 hj).1 hij
  rw [(List.getElem?_eq_some_iff.1 hi).2, (List.getElem?_eq_some_iff.1 hj).2] at hp
  exact hp
theorem ovl_iff {a b : RV} (ha : chkV a = 0) (hb : chkV b = 0) : ovlV a b = true ↔ a.s < b.s + b.p ∧ b.s < a.s + a.p := by
  simp [ovlV, ha, hb, endV_ok ha, endV_ok hb]
theorem insAt_ok {l : List RV} {r : RV} (h : okl l) (hr : chkV r = 0) (hno : ∀ x ∈ l, ovlV x r = false) : okl (insAt l (atI l r.s l.length) r) := by
  obtain ⟨at0, hat⟩ : ∃ k, k = atI l r.s l.length := ⟨_, rfl⟩
  have hle := atI_le l r.s l.length
  have br := chkV_bd hr
  have hl : ∀ x ∈ l.take at0, x.s + x.p ≤ r.s := fun x hx => by
    obtain ⟨j, hj⟩ := List.mem_iff_getElem?.1 hx
    have hj2 : j < at0 := by have := (List.getElem?_eq_some_iff.1 hj).1; rw [List.length_take] at this; omega
    rw [List.getElem?_take_of_lt hj2] at hj
    have hm := List.mem_of_getElem? hj
    have hlo := atI_lo (l := l) (s := r.s) (i := l.length) (by omega)
    rw [← hat] at hlo hle
    have hg : l[at0 - 1]? = some l[at0 - 1] := List.getElem?_eq_getElem (by omega)
    rw [hg, Option.getD_some] at hlo
    have hxs : x.s < r.s := by
      by_cases e : j = at0 - 1
      · subst e; rw [hg] at hj; cases hj; exact hlo
      · have := sorted_get h hj hg (by omega)
        have := chkV_bd (h.c x hm)
        omega
    have := hno x hm
    rw [← Bool.not_eq_true, ovl_iff (h.c x hm) hr] at this
    omega
  have hh : ∀ y ∈ l.drop at0, r.s + r.p ≤ y.s := fun y hy => by
    obtain ⟨j, hj⟩ := List.mem_iff_getElem?.1 hy
    rw [List.getElem?_drop] at hj
    have hm := List.mem_of_getElem? hj
    have hhi := atI_hi (l := l) (s := r.s) (i := l.length) (j := at0 + j) (by omega) (List.getElem?_eq_some_iff.1 hj).1
    rw [hj, Option.getD_some] at hhi
    have := hno y hm
    rw [← Bool.not_eq_true, ovl_iff (h.c y hm) hr] at this
    have := chkV_bd (h.c y hm)
    omega
  rw [← hat]
  have hspl : okl (l.take at0 ++ l.drop at0) := by rw [List.take_append_drop]; exact h
  obtain ⟨k1, k2, k3⟩ := hspl.app1
  refine k1.app (l := l.take at0) (m := r :: l.drop at0) ((okl.one hr).app (m := l.drop at0) k2 (fun a ha b hb => ?_)) (fun a ha b hb => ?_)
  · simp at ha; subst ha
    exact hh b hb
  · rcases List.mem_cons.1 hb with rfl | hb
    · exact hl a ha
    · exact k3 a ha b hb
/-- What Map answers. -/
def mapT (p : PT) (r : RV) : PT × Int := if chkV r = 0 then (if p.flat.any (fun x => ovlV x r) = true then (.E, 7) else resT (insAt p.flat (atI p.flat r.s p.flat.length) r)) else (.E, chkV r)

attribute [local irreducible] Wp WL WO fin finB rnd Exit.then Exit.inBlock G GD LT Rd Fn FnB FvB Iter
attribute [local go_sem] RV.row TD.row
theorem map_bad {p : PT} (hp : ASP p) (r : RV) (hr : ¬ chkV r = 0) : Fn Try.prog 11 [.st p.td.row, .st r.row] (· = resD (.E, chkV r)) := by
  have hc := acheck_P hp
  have hb : (chkV r != 0) = true := by simp [hr]
  refine Fn.of Try.func11 Try.ntmps11 rfl (by kernel_rfl) (fun w o => ?_)
  (repeat (first | refine G.cW (hc) ?_ | refine G.cgW (hc) ?_ | refine GD.cW (hc) ?_ | refine GD.cgW (hc) ?_ | refine G.cW (chk_F _) ?_ | refine G.cgW (chk_F _) ?_ | refine GD.cW (chk_F _) ?_ | refine GD.cgW (chk_F _) ?_ | ((repeat (revert hK; revert K)); refine wk ?_; repeat intro K hK) | refine wkg ?_))
  refine G.leB 2 PT.E.td.row le_EL ?_
  refine G.fin2 (by first | exact rvOk.tmp | exact rvOk.cellS | exact rvOk.cell1 | fail) (by first | exact rvOk.tmp | exact rvOk.cellS | exact rvOk.cell1 | fail) rfl ?_
  rfl
theorem map_E {t : TD} {e : Int} (he : e ≠ 0) (hc : Fn Try.prog 25 [.st t.row] (· = .s (.int .i64 e))) (r : RV) : Fn Try.prog 11 [.st t.row, .st r.row] (· = resD (.E, e)) := by
  have hb : (e != 0) = true := by simpa using he
  refine Fn.of Try.func11 Try.ntmps11 rfl (by kernel_rfl) (fun w o => ?_)
  (repeat (first | refine G.cW (hc) ?_ | refine G.cgW (hc) ?_ | refine GD.cW (hc) ?_ | refine GD.cgW (hc) ?_ | ((repeat (revert hK; revert K)); refine wk ?_; repeat intro K hK) | refine wkg ?_))
  refine G.leB 2 PT.E.td.row le_EL ?_
  refine G.fin2 (by first | exact rvOk.tmp | exact rvOk.cellS | exact rvOk.cell1 | fail) (by first | exact rvOk.tmp | exact rvOk.cellS | exact rvOk.cell1 | fail) rfl ?_
  rfl
def mpI (l : List RV) (r : RV) (z : Nat × Nat) : List (Nat × AV) × Bs := ([(28, .d (.s (.int .i64 (z.1 : Int)))), (27, .d (.s (.int .i64 (rws l).length))), (26, .o 101 (rws l).length), (8, .o 101 (rws l).length), (9, .d (.s (.int .i64 (z.2 : Int)))), (3, .p 1 0), (4, .p 2 0)], [(101, some (23, (rws l).flatten.map .d)), (2, some (26, zDs.map .d)), (1, some (23, r.row.map .d))])
set_option maxHeartbeats 2000000 in
theorem map_P {p : PT} (hp : ASP p) (r : RV) (hr : chkV r = 0) : Fn Try.prog 11 [.st p.td.row, .st r.row] (· = resD (mapT p r)) := by
  have hc := acheck_P hp
  have hck := chk_F r
  rw [hr] at hck
  have hlo := FnB.v0 (plist_O hp.g)
  have h12 := hp.n
  have hlen : ((rws p.flat).length : Int) = p.flat.length := by rw [rws_len]
  refine Fn.of Try.func11 Try.ntmps11 rfl (by kernel_rfl) (fun w o => ?_)
  (repeat (first | refine G.cW (hc) ?_ | refine G.cgW (hc) ?_ | refine GD.cW (hc) ?_ | refine GD.cgW (hc) ?_ | refine G.cW (hck) ?_ | refine G.cgW (hck) ?_ | refine GD.cW (hck) ?_ | refine GD.cgW (hck) ?_ | (show G _ _ _ _ (WL _ _ _ _ (⟨some _, .call _, _, _, _, none⟩ :: _)); refine G.cvW (hlo) ?_) | ((repeat (revert hK; revert K)); refine wkT ?_; repeat intro K hK) | refine wkg ?_))
  refine G.loop (mpI p.flat r) (fun z => (z.1 ≤ p.flat.length ∧ ∀ j x, j < z.1 → p.flat[j]? = some x → ovlV x r = false) ∧ z.2 = atI p.flat r.s z.1) (fun z => p.flat.length - z.1) ?_ ?_
  · exact G.atR (0, 0) ⟨⟨Nat.zero_le _, fun j x h => absurd h (Nat.not_lt_zero _)⟩, rfl⟩ (by first | ((repeat (first | exact trivial | refine ⟨.inl rfl, ?_⟩ | refine ⟨.inr rfl, ?_⟩)); done) | fail) (ClB.d (ClB.d (ClB.d trivial))) rfl (by first | ((repeat (first | exact trivial | refine ⟨⟨rfl, by first | rfl | assumption | fail⟩, ?_⟩)); done) | fail)
  · rintro ⟨i, a⟩ ⟨⟨hi, hno⟩, hat⟩
    dsimp only [mpI]
    dsimp only at hi hno hat
    by_cases h : i < p.flat.length
    · have hrw := rws_get p.flat i h
      have hil : i < (rws p.flat).length := by rw [rws_len]; exact h
      have hg : p.flat[i]? = some p.flat[i] := List.getElem?_eq_getElem h
      have hov := ovl_F p.flat[i] r
      cases ho : ovlV p.flat[i] r with
      | true =>
        rw [ho] at hov
        have ha : p.flat.any (fun x => ovlV x r) = true := List.any_eq_true.2 ⟨_, List.mem_of_getElem? hg, ho⟩
        rw [show mapT p r = (.E, 7) by unfold mapT; rw [if_pos hr, if_pos ha]]
        (repeat (first | refine G.cW (hov) ?_ | refine G.cgW (hov) ?_ | refine GD.cW (hov) ?_ | refine GD.cgW (hov) ?_ | (show G _ _ _ _ (WL _ _ _ _ (⟨some _, .indexAddr _ _ _, _, _, _, none⟩ :: _)); refine G.w1 ?_ (by first | exact LT.rd (Rd.ixov i (hil)) rfl | fail)) | (show G _ _ _ _ (WL _ _ _ _ (⟨some _, .indexAddr _ _ _, _, _, _, some _⟩ :: _)); refine G.gC ?_ (by first | (refine gi ?_; intros; exact LT.rd (Rd.ixov i (hil)) rfl) | fail) rfl rfl) | (show GD _ _ _ _ _ _ _ _ _ _ (⟨some _, .indexAddr _ _ _, _, _, _, none⟩ :: _); refine GD.w1 ?_ (by first | exact LT.rd (Rd.ixov i (hil)) rfl | fail)) | (show GD _ _ _ _ _ _ _ _ _ _ (⟨some _, .indexAddr _ _ _, _, _, _, some _⟩ :: _); refine GD.gC ?_ (by first | (refine gi ?_; intros; exact LT.rd (Rd.ixov i (hil)) rfl) | fail) rfl rfl) | (show G _ _ _ _ (WL _ _ _ _ (⟨some _, .load _ _, _, _, _, none⟩ :: _)); refine G.w1 ?_ (by first | exact LT.rd (Rd.ldR i (hrw) (rws_row)) rfl | fail)) | (show G _ _ _ _ (WL _ _ _ _ (⟨some _, .load _ _, _, _, _, some _⟩ :: _)); refine G.gC ?_ (by first | (refine gi ?_; intros; exact LT.rd (Rd.ldR i (hrw) (rws_row)) rfl) | fail) rfl rfl) | (show GD _ _ _ _ _ _ _ _ _ _ (⟨some _, .load _ _, _, _, _, none⟩ :: _); refine GD.w1 ?_ (by first | exact LT.rd (Rd.ldR i (hrw) (rws_row)) rfl | fail)) | (show GD _ _ _ _ _ _ _ _ _ _ (⟨some _, .load _ _, _, _, _, some _⟩ :: _); refine GD.gC ?_ (by first | (refine gi ?_; intros; exact LT.rd (Rd.ldR i (hrw) (rws_row)) rfl) | fail) rfl rfl) | ((repeat (revert hK; revert K)); refine wk ?_; repeat intro K hK) | refine wkg ?_))
        refine G.leB 2 PT.E.td.row le_EL ?_
        refine G.fin2 (by first | exact rvOk.tmp | exact rvOk.cellS | exact rvOk.cell1 | fail) (by first | exact rvOk.tmp | exact rvOk.cellS | exact rvOk.cell1 | fail) rfl ?_
        rfl
      | false =>
        rw [ho] at hov
        have hno' : ∀ j x, j < i + 1 → p.flat[j]? = some x → ovlV x r = false := fun j x hj hx => by
          by_cases e : j = i
          · subst e; rw [hg] at hx; cases hx; exact ho
          · exact hno j x (by omega) hx
        by_cases hs : p.flat[i].s < r.s
        · have hb : decide (p.flat[i].s < r.s) = true := by simpa using hs
          have e : atI p.flat r.s (i + 1) = i + 1 := by unfold atI; rw [hg, Option.getD_some, if_pos hs]
          (repeat (first | refine G.cW (hov) ?_ | refine G.cgW (hov) ?_ | refine GD.cW (hov) ?_ | refine GD.cgW (hov) ?_ | (show G _ _ _ _ (WL _ _ _ _ (⟨some _, .indexAddr _ _ _, _, _, _, none⟩ :: _)); refine G.w1 ?_ (by first | exact LT.rd (Rd.ixov i (hil)) rfl | fail)) | (show G _ _ _ _ (WL _ _ _ _ (⟨some _, .indexAddr _ _ _, _, _, _, some _⟩ :: _)); refine G.gC ?_ (by first | (refine gi ?_; intros; exact LT.rd (Rd.ixov i (hil)) rfl) | fail) rfl rfl) | (show GD _ _ _ _ _ _ _ _ _ _ (⟨some _, .indexAddr _ _ _, _, _, _, none⟩ :: _); refine GD.w1 ?_ (by first | exact LT.rd (Rd.ixov i (hil)) rfl | fail)) | (show GD _ _ _ _ _ _ _ _ _ _ (⟨some _, .indexAddr _ _ _, _, _, _, some _⟩ :: _); refine GD.gC ?_ (by first | (refine gi ?_; intros; exact LT.rd (Rd.ixov i (hil)) rfl) | fail) rfl rfl) | (show G _ _ _ _ (WL _ _ _ _ (⟨some _, .load _ _, _, _, _, none⟩ :: _)); refine G.w1 ?_ (by first | exact LT.rd (Rd.ldR i (hrw) (rws_row)) rfl | fail)) | (show G _ _ _ _ (WL _ _ _ _ (⟨some _, .load _ _, _, _, _, some _⟩ :: _)); refine G.gC ?_ (by first | (refine gi ?_; intros; exact LT.rd (Rd.ldR i (hrw) (rws_row)) rfl) | fail) rfl rfl) | (show GD _ _ _ _ _ _ _ _ _ _ (⟨some _, .load _ _, _, _, _, none⟩ :: _); refine GD.w1 ?_ (by first | exact LT.rd (Rd.ldR i (hrw) (rws_row)) rfl | fail)) | (show GD _ _ _ _ _ _ _ _ _ _ (⟨some _, .load _ _, _, _, _, some _⟩ :: _); refine GD.gC ?_ (by first | (refine gi ?_; intros; exact LT.rd (Rd.ldR i (hrw) (rws_row)) rfl) | fail) rfl rfl) | ((repeat (revert hK; revert K)); refine wk ?_; repeat intro K hK) | refine wkg ?_))
          refine G.atR (i + 1, i + 1) ⟨⟨⟨h, hno'⟩, e.symm⟩, by simp only; omega⟩ (by first | ((repeat (first | exact trivial | refine ⟨.inl rfl, ?_⟩ | refine ⟨.inr rfl, ?_⟩)); done) | fail) (ClB.d (ClB.d (ClB.d trivial))) rfl (by first | ((repeat (first | exact trivial | refine ⟨⟨rfl, by first | rfl | assumption | fail⟩, ?_⟩)); done) | fail)
        · have hb : decide (p.flat[i].s < r.s) = false := by simpa using hs
          have e : atI p.flat r.s (i + 1) = atI p.flat r.s i := by
            conv => lhs; unfold atI
            rw [hg, Option.getD_some, if_neg hs]
          (repeat (first | refine G.cW (hov) ?_ | refine G.cgW (hov) ?_ | refine GD.cW (hov) ?_ | refine GD.cgW (hov) ?_ | (show G _ _ _ _ (WL _ _ _ _ (⟨some _, .indexAddr _ _ _, _, _, _, none⟩ :: _)); refine G.w1 ?_ (by first | exact LT.rd (Rd.ixov i (hil)) rfl | fail)) | (show G _ _ _ _ (WL _ _ _ _ (⟨some _, .indexAddr _ _ _, _, _, _, some _⟩ :: _)); refine G.gC ?_ (by first | (refine gi ?_; intros; exact LT.rd (Rd.ixov i (hil)) rfl) | fail) rfl rfl) | (show GD _ _ _ _ _ _ _ _ _ _ (⟨some _, .indexAddr _ _ _, _, _, _, none⟩ :: _); refine GD.w1 ?_ (by first | exact LT.rd (Rd.ixov i (hil)) rfl | fail)) | (show GD _ _ _ _ _ _ _ _ _ _ (⟨some _, .indexAddr _ _ _, _, _, _, some _⟩ :: _); refine GD.gC ?_ (by first | (refine gi ?_; intros; exact LT.rd (Rd.ixov i (hil)) rfl) | fail) rfl rfl) | (show G _ _ _ _ (WL _ _ _ _ (⟨some _, .load _ _, _, _, _, none⟩ :: _)); refine G.w1 ?_ (by first | exact LT.rd (Rd.ldR i (hrw) (rws_row)) rfl | fail)) | (show G _ _ _ _ (WL _ _ _ _ (⟨some _, .load _ _, _, _, _, some _⟩ :: _)); refine G.gC ?_ (by first | (refine gi ?_; intros; exact LT.rd (Rd.ldR i (hrw) (rws_row)) rfl) | fail) rfl rfl) | (show GD _ _ _ _ _ _ _ _ _ _ (⟨some _, .load _ _, _, _, _, none⟩ :: _); refine GD.w1 ?_ (by first | exact LT.rd (Rd.ldR i (hrw) (rws_row)) rfl | fail)) | (show GD _ _ _ _ _ _ _ _ _ _ (⟨some _, .load _ _, _, _, _, some _⟩ :: _); refine GD.gC ?_ (by first | (refine gi ?_; intros; exact LT.rd (Rd.ldR i (hrw) (rws_row)) rfl) | fail) rfl rfl) | ((repeat (revert hK; revert K)); refine wk ?_; repeat intro K hK) | refine wkg ?_))
          refine G.atR (i + 1, a) ⟨⟨⟨h, hno'⟩, hat.trans e.symm⟩, by simp only; omega⟩ (by first | ((repeat (first | exact trivial | refine ⟨.inl rfl, ?_⟩ | refine ⟨.inr rfl, ?_⟩)); done) | fail) (ClB.d (ClB.d (ClB.d trivial))) rfl (by first | ((repeat (first | exact trivial | refine ⟨⟨rfl, by first | rfl | assumption | fail⟩, ?_⟩)); done) | fail)
    · have e : i = p.flat.length := by omega
      subst e
      have ha : ¬ p.flat.any (fun x => ovlV x r) = true := by
        rw [List.any_eq_true]
        rintro ⟨x, hx, hx2⟩
        obtain ⟨j, hj⟩ := List.mem_iff_getElem?.1 hx
        rw [hno j x (List.getElem?_eq_some_iff.1 hj).1 hj] at hx2
        cases hx2
      rw [show mapT p r = resT (insAt p.flat (atI p.flat r.s p.flat.length) r) by unfold mapT; rw [if_pos hr, if_neg ha]]
      have hno2 : ∀ x ∈ p.flat, ovlV x r = false := fun x hx => by
        obtain ⟨j, hj⟩ := List.mem_iff_getElem?.1 hx
        exact hno j x (List.getElem?_eq_some_iff.1 hj).1 hj
      have hok := insAt_ok hp.l hr hno2
      rw [← hat] at hok ⊢
      have hal : a ≤ p.flat.length := by rw [hat]; exact atI_le _ _ _
      have hin := FnB.v0 (ins_F p.flat a r (by omega) hal)
      have hl3 := hok.le
      have hva := values_F (rws (insAt p.flat a r))
      have hn := normal_F _ _ (insAt p.flat a r) (by omega) ⟨_, _, rfl, by kernel_rfl⟩ (values_I (insAt p.flat a r) (by omega))
      have hbd := build_N hok
      unfold resD at hbd
      (repeat (first | ((repeat (revert hK; revert K)); refine wkO ?_; repeat intro K hK) | refine wkg ?_))
      refine G.ren (al' := [(48, .o 103 1), (46, .d (.s (.int .i64 (a : Int)))), (45, .o 101 (rws p.flat).length), (4, .p 2 0)]) (bs' := [(103, some (23, (rws [r]).flatten.map .d)), (101, some (23, (rws p.flat).flatten.map .d)), (2, some (26, zDs.map .d))]) [(103, 3), (101, 101), (2, 2)] ?_ (by repeat (first | exact trivial | refine ⟨⟨rfl, rfl⟩, ?_⟩)) (by repeat (first | exact trivial | refine ⟨⟨rfl, rfl, rfl⟩, ?_⟩ | refine ⟨⟨rfl, by rw [renL_d]; rfl, kbL_d _ _⟩, ?_⟩ | refine ⟨rfl, ?_⟩)) (by decide) (by rfl)
      (repeat (first | (show G _ _ _ _ (WL _ _ _ _ (⟨some _, .call _, _, _, _, none⟩ :: _)); refine G.cvW (hin) ?_) | ((repeat (revert hK; revert K)); refine wkT ?_; repeat intro K hK) | refine wkg ?_))
      refine G.frz (T := 23) (m := 6) (b := 101) (k := (rws (insAt p.flat a r)).length) (rows := rws (insAt p.flat a r)) 49 ?_ rws_row rfl
      (repeat (first | refine G.cW (hva) ?_ | refine G.cgW (hva) ?_ | refine GD.cW (hva) ?_ | refine GD.cgW (hva) ?_ | refine G.cW (hn) ?_ | refine G.cgW (hn) ?_ | refine GD.cW (hn) ?_ | refine GD.cgW (hn) ?_ | refine G.cW (hbd) ?_ | refine G.cgW (hbd) ?_ | refine GD.cW (hbd) ?_ | refine GD.cgW (hbd) ?_ | ((repeat (revert hK; revert K)); refine wk ?_; repeat intro K hK) | refine wkg ?_))
      refine G.fin2 (by first | exact rvOk.tmp | exact rvOk.cellS | exact rvOk.cell1 | fail) (by first | exact rvOk.tmp | exact rvOk.cellS | exact rvOk.cell1 | fail) rfl ?_
      rw [show mapT p r = resT (insAt p.flat a r) by unfold mapT; rw [if_pos hr, if_neg ha, hat]]
      rfl

end Go.Proofs.Ytmajkjkakciaiaa
