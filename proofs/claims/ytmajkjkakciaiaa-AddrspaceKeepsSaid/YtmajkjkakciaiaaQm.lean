/- Trees of regions: List, a row of one's own; slices.Index. -/
/- Address spaces, the program's side: Grow. -/
import Derived.Test.YtmajkjkakciaiaaUrM
set_option linter.unusedSimpArgs false
set_option linter.unusedVariables false
namespace Go.Proofs.Ytmajkjkakciaiaa
open Go.RowKit

attribute [local irreducible] Wp WL WO fin finB rnd Exit.then Exit.inBlock G GD LT Rd Fn FnB FvB Iter
attribute [local go_sem] RV.row TD.row
set_option maxHeartbeats 1000000 in
theorem list_O (t : BT) (ht : t.ok) (hl : t.nodes.length ≤ 900) (hC : Fn Try.prog 52 [.st t.td.row] (· = .s (.int .i64 0))) : FnB Try.prog CT 27 [.d (.st t.td.row)] [(101, none)] (.o 101 (t.nodes.map (fun n => n.td.x.row)).length) [(101, some (23, (t.nodes.map (fun n => n.td.x.row)).flatten.map .d))] := by
  have he := FnB.v0 (each_F (.fn 56 [.p 100 0]) rfl (fun _ => rfl) (fun i => cR 31 23 ((t.nodes.take i).map (fun n => n.td.x.row))) (fun _ j => cR.cl j) t 0 ht (fun j n hj => by
    have := FnB.v (cs := [.p 100 0]) (xs := [_]) (list1_F n.td ((t.nodes.take (0 + j)).map (fun n => n.td.x.row)) (by simp; omega))
    simp only [Nat.zero_add] at this ⊢
    rw [take_snoc hj, List.map_append]
    exact this))
  rw [Nat.zero_add, List.take_length] at he
  refine FnB.of (ks := []) CT.c Try.func27 Try.ntmps27 rfl (by kernel_rfl) (fun w o m E0 hCX => ?_) (hks := kns_eq (l := [101]) rfl (by decide)); (try dsimp only [Is])
  (repeat (first | refine G.cW (hC) ?_ | refine G.cgW (hC) ?_ | refine GD.cW (hC) ?_ | refine GD.cgW (hC) ?_ | ((repeat (revert hK; revert K)); refine wk ?_; repeat intro K hK) | refine wkg ?_))
  refine G.ren (al' := [(8, .fn 56 [.p 100 0]), (7, .d (.st t.td.row)), (3, .p 100 0)]) (bs' := [(100, some (31, [.d (.s (.slice none 0 0))]))]) [(100, 2)] ?_ (by repeat (first | exact trivial | refine ⟨⟨rfl, rfl⟩, ?_⟩)) (by repeat (first | exact trivial | refine ⟨⟨rfl, rfl, rfl⟩, ?_⟩ | refine ⟨⟨rfl, by rw [renL_d]; rfl, kbL_d _ _⟩, ?_⟩ | refine ⟨rfl, ?_⟩)) (by decide) (by rfl)
  refine G.nilCell 100 101 23 ?_
  (repeat (first | (show G _ _ _ _ (WL _ _ _ _ (⟨some _, .call _, _, _, _, none⟩ :: _)); refine G.cvW ( he) ?_) | ((repeat (revert hK; revert K)); refine wkT ?_; repeat intro K hK) | refine wkg ?_))
  refine G.finB1 rfl rfl (by rfl) (by first | ((repeat (first | exact trivial | refine ⟨.inl rfl, ?_⟩ | refine ⟨.inr rfl, ?_⟩)); done) | fail) (by first | exact Is.cl (hcl _) | exact Is.cl6 (hcl _) | ((repeat (first | exact trivial | refine ⟨ClE.some rfl, ?_⟩ | (with_reducible refine ClB.d ?_) | (with_reducible refine ⟨ClE.some (numsL_d _ _), ?_⟩) | refine ⟨ClE.none, ?_⟩)); done) | fail) (by rfl)
theorem plist_O {p : PT} (hp : good p) : FnB Try.prog CT 27 [.d (.st p.td.row)] [(101, none)] (.o 101 (rws p.flat).length) [(101, some (23, (rws p.flat).flatten.map .d))] := by
  have h := list_O p.bt (bt_ok p) (bt_len hp) (by rw [bt_td]; exact pcheck_P hp)
  have e : p.bt.nodes.map (fun n => n.td.x.row) = rws p.flat := by rw [← bt_regs]; exact regR_rws _
  rw [e, bt_td] at h
  exact h
def ixI (l : List RV) (x : RV) (i : Nat) : List (Nat × AV) × Bs := ([(8, .d (.s (.int .i64 (i : Int)))), (7, .d (.s (.int .i64 (rws l).length))), (0, .o 100 (rws l).length), (3, .p 1 0)], [(100, some (23, (rws l).flatten.map .d)), (1, some (23, x.row.map .d))])
theorem index_F (l : List RV) (x : RV) (j : Nat) (hl : l.length ≤ 90000) (hj : l[j]? = some x) (hn : ∀ i y, i < j → l[i]? = some y → y ≠ x) : FnB Try.prog CT 41 [.o 100 (rws l).length, .d (.st x.row)] [(100, some (23, (rws l).flatten.map .d))] (.d (.s (.int .i64 j))) [(100, some (23, (rws l).flatten.map .d))] := by
  have hlen : ((rws l).length : Int) = l.length := by rw [rws_len]
  have hjl : j < l.length := (List.getElem?_eq_some_iff.1 hj).1
  refine FnB.of (ks := [100]) CT.c Try.func41 Try.ntmps41 rfl (by kernel_rfl) (fun w o m E0 hCX => ?_) (hks := kns_eq (l := [100]) rfl (by decide)); (try dsimp only [Is])
  (repeat (first | ((repeat (revert hK; revert K)); refine wk ?_; repeat intro K hK) | refine wkg ?_))
  refine G.loop (ixI l x) (fun i => i ≤ j) (fun i => l.length - i) ?_ ?_
  · exact G.atR 0 (Nat.zero_le _) (by first | ((repeat (first | exact trivial | refine ⟨.inl rfl, ?_⟩ | refine ⟨.inr rfl, ?_⟩)); done) | fail) (ClB.d (ClB.d trivial)) rfl (by first | ((repeat (first | exact trivial | refine ⟨⟨rfl, by first | rfl | assumption | fail⟩, ?_⟩)); done) | fail)
  · intro i hi
    dsimp only [ixI]
    have h : i < l.length := by omega
    have hr := rws_get l i h
    have hil : i < (rws l).length := by rw [rws_len]; exact h
    have hg : l[i]? = some l[i] := List.getElem?_eq_getElem h
    by_cases he : i = j
    · subst he
      rw [hg] at hj
      cases hj
      have heq : eqR l[i] l[i] = true := (eqR_iff _ _).2 rfl
      (repeat (first | (show G _ _ _ _ (WL _ _ _ _ (⟨some _, .indexAddr _ _ _, _, _, _, none⟩ :: _)); refine G.w1 ?_ (by first | exact LT.rd (Rd.ixov i (hil)) rfl | fail)) | (show G _ _ _ _ (WL _ _ _ _ (⟨some _, .indexAddr _ _ _, _, _, _, some _⟩ :: _)); refine G.gC ?_ (by first | (refine gi ?_; intros; exact LT.rd (Rd.ixov i (hil)) rfl) | fail) rfl rfl) | (show GD _ _ _ _ _ _ _ _ _ _ (⟨some _, .indexAddr _ _ _, _, _, _, none⟩ :: _); refine GD.w1 ?_ (by first | exact LT.rd (Rd.ixov i (hil)) rfl | fail)) | (show GD _ _ _ _ _ _ _ _ _ _ (⟨some _, .indexAddr _ _ _, _, _, _, some _⟩ :: _); refine GD.gC ?_ (by first | (refine gi ?_; intros; exact LT.rd (Rd.ixov i (hil)) rfl) | fail) rfl rfl) | (show G _ _ _ _ (WL _ _ _ _ (⟨some _, .load _ _, _, _, _, none⟩ :: _)); refine G.w1 ?_ (by first | exact LT.rd (Rd.ldR i (hr) (rws_row)) rfl | fail)) | (show G _ _ _ _ (WL _ _ _ _ (⟨some _, .load _ _, _, _, _, some _⟩ :: _)); refine G.gC ?_ (by first | (refine gi ?_; intros; exact LT.rd (Rd.ldR i (hr) (rws_row)) rfl) | fail) rfl rfl) | (show GD _ _ _ _ _ _ _ _ _ _ (⟨some _, .load _ _, _, _, _, none⟩ :: _); refine GD.w1 ?_ (by first | exact LT.rd (Rd.ldR i (hr) (rws_row)) rfl | fail)) | (show GD _ _ _ _ _ _ _ _ _ _ (⟨some _, .load _ _, _, _, _, some _⟩ :: _); refine GD.gC ?_ (by first | (refine gi ?_; intros; exact LT.rd (Rd.ldR i (hr) (rws_row)) rfl) | fail) rfl rfl) | (show G _ _ _ _ (WL _ _ _ _ (⟨some _, .binOp .eql _ _ _ _, _, _, _, none⟩ :: _)); refine G.w1 ?_ (by first | exact LT.eqW (l[i]) (l[i]) | fail)) | (show G _ _ _ _ (WL _ _ _ _ (⟨some _, .binOp .eql _ _ _ _, _, _, _, some _⟩ :: _)); refine G.gC ?_ (by first | (refine gi ?_; intros; exact LT.eqW (l[i]) (l[i])) | fail) rfl rfl) | (show GD _ _ _ _ _ _ _ _ _ _ (⟨some _, .binOp .eql _ _ _ _, _, _, _, none⟩ :: _); refine GD.w1 ?_ (by first | exact LT.eqW (l[i]) (l[i]) | fail)) | (show GD _ _ _ _ _ _ _ _ _ _ (⟨some _, .binOp .eql _ _ _ _, _, _, _, some _⟩ :: _); refine GD.gC ?_ (by first | (refine gi ?_; intros; exact LT.eqW (l[i]) (l[i])) | fail) rfl rfl) | (show G _ _ _ _ (WL _ _ _ _ (⟨some _, .binOp .neq _ _ _ _, _, _, _, none⟩ :: _)); refine G.w1 ?_ (by first | exact LT.neW (l[i]) (l[i]) | fail)) | (show G _ _ _ _ (WL _ _ _ _ (⟨some _, .binOp .neq _ _ _ _, _, _, _, some _⟩ :: _)); refine G.gC ?_ (by first | (refine gi ?_; intros; exact LT.neW (l[i]) (l[i])) | fail) rfl rfl) | (show GD _ _ _ _ _ _ _ _ _ _ (⟨some _, .binOp .neq _ _ _ _, _, _, _, none⟩ :: _); refine GD.w1 ?_ (by first | exact LT.neW (l[i]) (l[i]) | fail)) | (show GD _ _ _ _ _ _ _ _ _ _ (⟨some _, .binOp .neq _ _ _ _, _, _, _, some _⟩ :: _); refine GD.gC ?_ (by first | (refine gi ?_; intros; exact LT.neW (l[i]) (l[i])) | fail) rfl rfl) | ((repeat (revert hK; revert K)); refine wk ?_; repeat intro K hK) | refine wkg ?_))
      refine G.finB1 rfl rfl (by rfl) (by first | ((repeat (first | exact trivial | refine ⟨.inl rfl, ?_⟩ | refine ⟨.inr rfl, ?_⟩)); done) | fail) (by first | exact Is.cl (hcl _) | exact Is.cl6 (hcl _) | ((repeat (first | exact trivial | refine ⟨ClE.some rfl, ?_⟩ | (with_reducible refine ClB.d ?_) | (with_reducible refine ⟨ClE.some (numsL_d _ _), ?_⟩) | refine ⟨ClE.none, ?_⟩)); done) | fail) (by rfl)
    · have hne := hn i _ (by omega) hg
      have heq : eqR x l[i] = false := by rw [← Bool.not_eq_true, eqR_iff]; exact fun e => hne e.symm
      (repeat (first | (show G _ _ _ _ (WL _ _ _ _ (⟨some _, .indexAddr _ _ _, _, _, _, none⟩ :: _)); refine G.w1 ?_ (by first | exact LT.rd (Rd.ixov i (hil)) rfl | fail)) | (show G _ _ _ _ (WL _ _ _ _ (⟨some _, .indexAddr _ _ _, _, _, _, some _⟩ :: _)); refine G.gC ?_ (by first | (refine gi ?_; intros; exact LT.rd (Rd.ixov i (hil)) rfl) | fail) rfl rfl) | (show GD _ _ _ _ _ _ _ _ _ _ (⟨some _, .indexAddr _ _ _, _, _, _, none⟩ :: _); refine GD.w1 ?_ (by first | exact LT.rd (Rd.ixov i (hil)) rfl | fail)) | (show GD _ _ _ _ _ _ _ _ _ _ (⟨some _, .indexAddr _ _ _, _, _, _, some _⟩ :: _); refine GD.gC ?_ (by first | (refine gi ?_; intros; exact LT.rd (Rd.ixov i (hil)) rfl) | fail) rfl rfl) | (show G _ _ _ _ (WL _ _ _ _ (⟨some _, .load _ _, _, _, _, none⟩ :: _)); refine G.w1 ?_ (by first | exact LT.rd (Rd.ldR i (hr) (rws_row)) rfl | fail)) | (show G _ _ _ _ (WL _ _ _ _ (⟨some _, .load _ _, _, _, _, some _⟩ :: _)); refine G.gC ?_ (by first | (refine gi ?_; intros; exact LT.rd (Rd.ldR i (hr) (rws_row)) rfl) | fail) rfl rfl) | (show GD _ _ _ _ _ _ _ _ _ _ (⟨some _, .load _ _, _, _, _, none⟩ :: _); refine GD.w1 ?_ (by first | exact LT.rd (Rd.ldR i (hr) (rws_row)) rfl | fail)) | (show GD _ _ _ _ _ _ _ _ _ _ (⟨some _, .load _ _, _, _, _, some _⟩ :: _); refine GD.gC ?_ (by first | (refine gi ?_; intros; exact LT.rd (Rd.ldR i (hr) (rws_row)) rfl) | fail) rfl rfl) | (show G _ _ _ _ (WL _ _ _ _ (⟨some _, .binOp .eql _ _ _ _, _, _, _, none⟩ :: _)); refine G.w1 ?_ (by first | exact LT.eqW (x) (l[i]) | fail)) | (show G _ _ _ _ (WL _ _ _ _ (⟨some _, .binOp .eql _ _ _ _, _, _, _, some _⟩ :: _)); refine G.gC ?_ (by first | (refine gi ?_; intros; exact LT.eqW (x) (l[i])) | fail) rfl rfl) | (show GD _ _ _ _ _ _ _ _ _ _ (⟨some _, .binOp .eql _ _ _ _, _, _, _, none⟩ :: _); refine GD.w1 ?_ (by first | exact LT.eqW (x) (l[i]) | fail)) | (show GD _ _ _ _ _ _ _ _ _ _ (⟨some _, .binOp .eql _ _ _ _, _, _, _, some _⟩ :: _); refine GD.gC ?_ (by first | (refine gi ?_; intros; exact LT.eqW (x) (l[i])) | fail) rfl rfl) | (show G _ _ _ _ (WL _ _ _ _ (⟨some _, .binOp .neq _ _ _ _, _, _, _, none⟩ :: _)); refine G.w1 ?_ (by first | exact LT.neW (x) (l[i]) | fail)) | (show G _ _ _ _ (WL _ _ _ _ (⟨some _, .binOp .neq _ _ _ _, _, _, _, some _⟩ :: _)); refine G.gC ?_ (by first | (refine gi ?_; intros; exact LT.neW (x) (l[i])) | fail) rfl rfl) | (show GD _ _ _ _ _ _ _ _ _ _ (⟨some _, .binOp .neq _ _ _ _, _, _, _, none⟩ :: _); refine GD.w1 ?_ (by first | exact LT.neW (x) (l[i]) | fail)) | (show GD _ _ _ _ _ _ _ _ _ _ (⟨some _, .binOp .neq _ _ _ _, _, _, _, some _⟩ :: _); refine GD.gC ?_ (by first | (refine gi ?_; intros; exact LT.neW (x) (l[i])) | fail) rfl rfl) | ((repeat (revert hK; revert K)); refine wk ?_; repeat intro K hK) | refine wkg ?_))
      refine G.atR (i + 1) ⟨by omega, by omega⟩ (by first | ((repeat (first | exact trivial | refine ⟨.inl rfl, ?_⟩ | refine ⟨.inr rfl, ?_⟩)); done) | fail) (ClB.d (ClB.d trivial)) rfl (by first | ((repeat (first | exact trivial | refine ⟨⟨rfl, by first | rfl | assumption | fail⟩, ?_⟩)); done) | fail)

end Go.Proofs.Ytmajkjkakciaiaa

set_option linter.unusedSimpArgs false
set_option linter.unusedVariables false
namespace Go.Proofs.Ytmajkjkakciaiaa
open Go.RowKit

/-- A region that begins at g instead. -/
def grV (x : RV) (g : Int) : RV := { x with p := x.p + (x.s - g), s := g }
def growL : List RV → Int → List RV
  | [], _ => []
  | x :: l, g => if g < x.s + x.p then grV x g :: l else x :: growL l g
theorem grow_at {g : Int} : ∀ {l : List RV}, (nextV l g).2 = true → ∃ j, l[j]? = some (nextV l g).1 ∧ (∀ i y, i < j → l[i]? = some y → ¬ g < y.s + y.p) ∧ growL l g = l.set j (grV (nextV l g).1 g)
  | [], h => by cases h
  | x :: l, h => by
    rw [nextV_cons] at h ⊢
    by_cases c : g < x.s + x.p
    · rw [if_pos c]
      exact ⟨0, rfl, fun i y hi => by omega, by simp [growL, c]⟩
    · rw [if_neg c] at h ⊢
      obtain ⟨j, h1, h2, h3⟩ := grow_at h
      refine ⟨j + 1, h1, fun i y hi hy => ?_, by simp [growL, c, h3]⟩
      cases i with
      | zero => cases hy; exact c
      | succ i => exact h2 i y (by omega) hy
theorem next_lt {g : Int} : ∀ {l : List RV}, (nextV l g).2 = true → g < (nextV l g).1.s + (nextV l g).1.p
  | [], h => by cases h
  | x :: l, h => by
    rw [nextV_cons] at h ⊢
    by_cases c : g < x.s + x.p
    · rw [if_pos c]; exact c
    · rw [if_neg c] at h ⊢; exact next_lt h
theorem rws_set1 (l : List RV) (j : Nat) (x : RV) : (rws l).set j x.row = rws (l.set j x) := by simp [rws, List.map_set]
/-- What Grow answers. -/
def growT (p : PT) (g : Int) : PT × Int :=
  if g < 0 ∨ 512 ≤ g then (.E, 2)
  else if (nextV p.flat g).2 = true ∧ (nextV p.flat g).1.s ≤ g then (.E, 7)
  else if (nextV p.flat g).2 = false ∨ bits .and .i64 (nextV p.flat g).1.f 2 = 0 ∨ (findV p.flat (g - 1)).2 = true then (.E, 13)
  else (bldT (growL p.flat g), 0)
theorem flag10 : ∀ n : Fin 16, bits .and .i64 (n.1 : Int) 2 ≠ 0 → bits .and .i64 (n.1 : Int) 10 ≠ 0 ∧ (n.1 : Int) / 2 % 2 = 1 := by decide
theorem grV_ok {x : RV} {g : Int} (hx : chkV x = 0) (hf : bits .and .i64 x.f 2 ≠ 0) (h0 : 0 ≤ g) (h1 : g < x.s) : chkV (grV x g) = 0 := by
  have h := (chk_iff x).1 hx
  obtain ⟨n, hn⟩ := nat16 h.2.2.1.1 h.2.2.1.2
  have h10 := (flag10 n (by rw [← hn]; exact hf)).1
  rw [← hn] at h10
  have hi : x.i = -1 := Classical.byContradiction fun e => h10 (h.2.2.2.2.2.1 e)
  refine (chk_iff _).2 ?_
  simp only [grV]
  exact ⟨by omega, h.2.1, h.2.2.1, h.2.2.2.1, h.2.2.2.2.1, h.2.2.2.2.2.1, h0, by omega, h.2.2.2.2.2.2.2.2.1, h.2.2.2.2.2.2.2.2.2.1, fun e => absurd hi e⟩
/-- The list that has grown: valid, in order, nothing to merge. -/
theorem growL_ok {g : Int} (h0 : 0 ≤ g) : ∀ (l : List RV), okl l → far l → (nextV l g).2 = true → g < (nextV l g).1.s → bits .and .i64 (nextV l g).1.f 2 ≠ 0 → (∀ x ∈ l, ¬ (x.s ≤ g - 1 ∧ g - 1 < x.s + x.p)) → okl (growL l g) ∧ far (growL l g) ∧ (∀ y ∈ growL l g, ∃ x ∈ l, y = x ∨ (y = grV x g ∧ g < x.s))
  | [], _, _, h, _, _, _ => by cases h
  | x :: l, hk, hf, h1, h2, h3, h4 => by
    rw [nextV_cons] at h1 h2 h3
    obtain ⟨k1, k2, k3⟩ := okl.app1 (l := [x]) (m := l) hk
    have hx := hk.c x (by simp)
    have bx := chkV_bd hx
    unfold growL
    by_cases c : g < x.s + x.p
    · rw [if_pos c] at h1 h2 h3 ⊢
      dsimp only at h2 h3
      have hg := grV_ok hx h3 h0 h2
      refine ⟨(okl.one hg).app (m := l) k2 (fun a ha b hb => ?_), ?_, fun y hy => ?_⟩
      · simp at ha; subst ha
        have := k3 x (by simp) b hb
        unfold apart RV.e grV at *
        simp only
        omega
      · cases l with
        | nil => trivial
        | cons z l =>
          refine ⟨?_, hf.2⟩
          have hz := k2.c z (by simp)
          rw [← Bool.not_eq_true, mrg_iff hg hz]
          obtain ⟨n, hn⟩ := nat16 bx.2.2.2.2.1 bx.2.2.2.2.2.1
          have h10 := (flag10 n (by rw [← hn]; exact h3)).2
          rw [← hn] at h10
          exact fun e => e.2.1 h10
      · rcases List.mem_cons.1 hy with rfl | hy
        · exact ⟨x, by simp, .inr ⟨rfl, h2⟩⟩
        · exact ⟨y, by simp [hy], .inl rfl⟩
    · rw [if_neg c] at h1 h2 h3 ⊢
      have hf2 : far l := by cases l with | nil => trivial | cons z l => exact hf.2
      obtain ⟨g1, g2, g3⟩ := growL_ok h0 l k2 hf2 h1 h2 h3 (fun y hy => h4 y (by simp [hy]))
      have hxg := h4 x (by simp)
      refine ⟨(okl.one hx).app (m := growL l g) g1 (fun a ha b hb => ?_), ?_, fun y hy => ?_⟩
      · simp at ha; subst ha
        obtain ⟨z, hz, e⟩ := g3 b hb
        rcases e with rfl | ⟨rfl, e⟩
        · exact k3 a (by simp) b hz
        · unfold apart RV.e grV
          simp only
          omega
      · cases l with
        | nil => cases h1
        | cons z l =>
          have hz := k2.c z (by simp)
          show far (x :: growL (z :: l) g)
          unfold growL at g1 g2 ⊢
          by_cases d : g < z.s + z.p
          · rw [if_pos d] at g1 g2 ⊢
            refine ⟨?_, g2⟩
            rw [← Bool.not_eq_true, mrg_iff hx (g1.c _ (by simp))]
            rintro ⟨e, _⟩
            simp only [grV] at e
            omega
          · rw [if_neg d] at g1 g2 ⊢
            exact ⟨hf.1, g2⟩
      · rcases List.mem_cons.1 hy with rfl | hy
        · exact ⟨y, by simp, .inl rfl⟩
        · obtain ⟨z, hz, e⟩ := g3 y hy
          exact ⟨z, by simp [hz], e⟩
theorem growL_len (g : Int) : ∀ l : List RV, (growL l g).length = l.length
  | [] => rfl
  | x :: l => by
    unfold growL
    split
    · rfl
    · simp [growL_len g l]

attribute [local irreducible] Wp WL WO fin finB rnd Exit.then Exit.inBlock G GD LT Rd Fn FnB FvB Iter
attribute [local go_sem] RV.row TD.row
set_option maxHeartbeats 1000000 in
theorem grow_P {p : PT} (hp : ASP p) (g : Int) : Fn Try.prog 15 [.st p.td.row, .s (.int .i64 g)] (· = resD (growT p g)) := by
  have hc := acheck_P hp
  by_cases h1 : g < 0 ∨ 512 ≤ g
  · have hb : (decide (g < 0) || decide (512 ≤ g)) = true := by simpa using h1
    rw [show growT p g = (.E, 2) by unfold growT; rw [if_pos h1]]
    refine Fn.of Try.func15 Try.ntmps15 rfl (by kernel_rfl) (fun w o => ?_)
    (repeat (first | refine G.cW (hc) ?_ | refine G.cgW (hc) ?_ | refine GD.cW (hc) ?_ | refine GD.cgW (hc) ?_ | ((repeat (revert hK; revert K)); refine wk ?_; repeat intro K hK) | refine wkg ?_))
    refine G.leB 1 PT.E.td.row le_EL ?_
    refine G.fin2 (by first | exact rvOk.tmp | exact rvOk.cellS | exact rvOk.cell1 | fail) (by first | exact rvOk.tmp | exact rvOk.cellS | exact rvOk.cell1 | fail) rfl ?_
    rfl
  · have hb : (decide (g < 0) || decide (512 ≤ g)) = false := by simpa using h1
    have hnx := pnext_P hp.g g
    have hfd := pfind_P hp.g (g - 1)
    cases hq : (nextV p.flat g).2 with
    | false =>
      rw [hq] at hnx
      rw [show growT p g = (.E, 13) by unfold growT; rw [if_neg h1, if_neg (by rw [hq]; simp), if_pos (.inl hq)]]
      refine Fn.of Try.func15 Try.ntmps15 rfl (by kernel_rfl) (fun w o => ?_)
      (repeat (first | refine G.cW (hc) ?_ | refine G.cgW (hc) ?_ | refine GD.cW (hc) ?_ | refine GD.cgW (hc) ?_ | refine G.cW (hnx) ?_ | refine G.cgW (hnx) ?_ | refine GD.cW (hnx) ?_ | refine GD.cgW (hnx) ?_ | refine G.cW (hfd) ?_ | refine G.cgW (hfd) ?_ | refine GD.cW (hfd) ?_ | refine GD.cgW (hfd) ?_ | ((repeat (revert hK; revert K)); refine wk ?_; repeat intro K hK) | refine wkg ?_))
      refine G.leB 1 PT.E.td.row le_EL ?_
      refine G.fin2 (by first | exact rvOk.tmp | exact rvOk.cellS | exact rvOk.cell1 | fail) (by first | exact rvOk.tmp | exact rvOk.cellS | exact rvOk.cell1 | fail) rfl ?_
      rfl
    | true =>
      rw [hq] at hnx
      by_cases h2 : (nextV p.flat g).1.s ≤ g
      · have hb2 : (true && decide ((nextV p.flat g).1.s ≤ g)) = true := by simpa using h2
        rw [show growT p g = (.E, 7) by unfold growT; rw [if_neg h1, if_pos ⟨hq, h2⟩]]
        refine Fn.of Try.func15 Try.ntmps15 rfl (by kernel_rfl) (fun w o => ?_)
        (repeat (first | refine GD.ctW (hc) ?_ | refine G.cW (hc) ?_ | refine G.cgW (hc) ?_ | refine GD.cW (hc) ?_ | refine GD.cgW (hc) ?_ | refine GD.ctW (hnx) ?_ | refine G.cW (hnx) ?_ | refine G.cgW (hnx) ?_ | refine GD.cW (hnx) ?_ | refine GD.cgW (hnx) ?_ | refine GD.ctW (hfd) ?_ | refine G.cW (hfd) ?_ | refine G.cgW (hfd) ?_ | refine GD.cW (hfd) ?_ | refine GD.cgW (hfd) ?_ | ((repeat (revert hK; revert K)); refine wkG ?_; repeat intro K hK) | refine wkg ?_))
        refine G.leB 1 PT.E.td.row le_EL ?_
        refine G.fin2 (by first | exact rvOk.tmp | exact rvOk.cellS | exact rvOk.cell1 | fail) (by first | exact rvOk.tmp | exact rvOk.cellS | exact rvOk.cell1 | fail) rfl ?_
        rfl
      · have hb2 : (true && decide ((nextV p.flat g).1.s ≤ g)) = false := by simpa using h2
        by_cases h3 : bits .and .i64 (nextV p.flat g).1.f 2 = 0 ∨ (findV p.flat (g - 1)).2 = true
        · have hb3 : (((!true) || (bits .and .i64 (nextV p.flat g).1.f 2 == 0)) || (findV p.flat (g - 1)).2) = true := by simpa using h3
          rw [show growT p g = (.E, 13) by unfold growT; rw [if_neg h1, if_neg (fun e => h2 e.2), if_pos (.inr h3)]]
          refine Fn.of Try.func15 Try.ntmps15 rfl (by kernel_rfl) (fun w o => ?_)
          (repeat (first | refine GD.ctW (hc) ?_ | refine G.cW (hc) ?_ | refine G.cgW (hc) ?_ | refine GD.cW (hc) ?_ | refine GD.cgW (hc) ?_ | refine GD.ctW (hnx) ?_ | refine G.cW (hnx) ?_ | refine G.cgW (hnx) ?_ | refine GD.cW (hnx) ?_ | refine GD.cgW (hnx) ?_ | refine GD.ctW (hfd) ?_ | refine G.cW (hfd) ?_ | refine G.cgW (hfd) ?_ | refine GD.cW (hfd) ?_ | refine GD.cgW (hfd) ?_ | ((repeat (revert hK; revert K)); refine wkG ?_; repeat intro K hK) | refine wkg ?_))
          refine G.leB 1 PT.E.td.row le_EL ?_
          refine G.fin2 (by first | exact rvOk.tmp | exact rvOk.cellS | exact rvOk.cell1 | fail) (by first | exact rvOk.tmp | exact rvOk.cellS | exact rvOk.cell1 | fail) rfl ?_
          rfl
        · have hb3 : (((!true) || (bits .and .i64 (nextV p.flat g).1.f 2 == 0)) || (findV p.flat (g - 1)).2) = false := by simpa using h3
          rw [show growT p g = (bldT (growL p.flat g), 0) by unfold growT; rw [if_neg h1, if_neg (fun e => h2 e.2), if_neg (by rw [hq]; simpa using h3)]]
          have hlo := FnB.v0 (plist_O hp.g)
          obtain ⟨j, j1, j2, j3⟩ := grow_at hq
          have hng := next_lt hq
          have hmem := List.mem_of_getElem? j1
          have hbd := chkV_bd (hp.l.c _ hmem)
          have hgo := growL_ok (by omega) p.flat hp.l hp.f hq (by omega) (fun e => h3 (.inl e)) (fun x hx e => h3 (.inr ((find_iff hp.l (g - 1)).2 ⟨x, hx, e⟩)))
          have hbl := build_P (growL p.flat g) hgo.1.ord (by rw [growL_len]; exact hp.n)
          rw [j3] at hbl ⊢
          generalize (nextV p.flat g).1 = x at *
          have hne : ∀ i y, i < j → p.flat[i]? = some y → y ≠ x := fun i y hi hy e => by subst e; exact j2 i y hi hy hng
          have h12 := hp.n
          have hix := FnB.v0 (index_F p.flat x j (by omega) j1 hne)
          have hjl : j < p.flat.length := (List.getElem?_eq_some_iff.1 j1).1
          have hjr : j < (rws p.flat).length := by rw [rws_len]; exact hjl
          have hrow : (rws p.flat)[j]? = some x.row := by simp [rws, j1]
          refine Fn.of Try.func15 Try.ntmps15 rfl (by kernel_rfl) (fun w o => ?_)
          (repeat (first | refine G.cW (hc) ?_ | refine G.cgW (hc) ?_ | refine GD.cW (hc) ?_ | refine GD.cgW (hc) ?_ | refine G.cW (hnx) ?_ | refine G.cgW (hnx) ?_ | refine GD.cW (hnx) ?_ | refine GD.cgW (hnx) ?_ | refine G.cW (hfd) ?_ | refine G.cgW (hfd) ?_ | refine GD.cW (hfd) ?_ | refine GD.cgW (hfd) ?_ | (show G _ _ _ _ (WL _ _ _ _ (⟨some _, .call _, _, _, _, none⟩ :: _)); refine G.cvW (hlo) ?_) | ((repeat (revert hK; revert K)); refine wkT ?_; repeat intro K hK) | refine wkg ?_))
          refine G.ren (al' := [(62, .d (.st x.row)), (61, .o 100 (rws p.flat).length), (11, .o 100 (rws p.flat).length), (4, .p 1 0), (1, .d (.s (.int .i64 g)))]) (bs' := [(100, some (23, (rws p.flat).flatten.map .d)), (1, some (26, zDs.map .d))]) [(100, 101), (1, 1)] ?_ (by repeat (first | exact trivial | refine ⟨⟨rfl, rfl⟩, ?_⟩)) (by repeat (first | exact trivial | refine ⟨⟨rfl, rfl, rfl⟩, ?_⟩ | refine ⟨⟨rfl, by rw [renL_d]; rfl, kbL_d _ _⟩, ?_⟩ | refine ⟨rfl, ?_⟩)) (by decide) (by rfl)
          have hrow2 : ((rws p.flat).set j (x.row.set 1 (.s (.int .i64 (x.p + (x.s - g))))))[j]? = some (x.row.set 1 (.s (.int .i64 (x.p + (x.s - g))))) := List.getElem?_set_self hjr
          have hm2 : ∀ r ∈ (rws p.flat).set j (x.row.set 1 (.s (.int .i64 (x.p + (x.s - g))))), r.length = 6 := by
            rw [show x.row.set 1 (.s (.int .i64 (x.p + (x.s - g)))) = ({ x with p := x.p + (x.s - g) } : RV).row from rfl, rws_set1]
            exact rws_row
          (repeat (first | (show G _ _ _ _ (WL _ _ _ _ (⟨some _, .indexAddr _ _ _, _, _, _, none⟩ :: _)); refine G.w1 ?_ (by first | exact LT.rd (Rd.ixov j (hjr)) rfl | fail)) | (show G _ _ _ _ (WL _ _ _ _ (⟨some _, .indexAddr _ _ _, _, _, _, some _⟩ :: _)); refine G.gC ?_ (by first | (refine gi ?_; intros; exact LT.rd (Rd.ixov j (hjr)) rfl) | fail) rfl rfl) | (show GD _ _ _ _ _ _ _ _ _ _ (⟨some _, .indexAddr _ _ _, _, _, _, none⟩ :: _); refine GD.w1 ?_ (by first | exact LT.rd (Rd.ixov j (hjr)) rfl | fail)) | (show GD _ _ _ _ _ _ _ _ _ _ (⟨some _, .indexAddr _ _ _, _, _, _, some _⟩ :: _); refine GD.gC ?_ (by first | (refine gi ?_; intros; exact LT.rd (Rd.ixov j (hjr)) rfl) | fail) rfl rfl) | (show G _ _ _ _ (WL _ _ _ _ (⟨some _, .load _ _, _, _, _, none⟩ :: _)); refine G.w1 ?_ (by first | exact LT.rd (Rd.ldF j 0 (hrow) (rws_row)) rfl | fail)) | (show G _ _ _ _ (WL _ _ _ _ (⟨some _, .load _ _, _, _, _, some _⟩ :: _)); refine G.gC ?_ (by first | (refine gi ?_; intros; exact LT.rd (Rd.ldF j 0 (hrow) (rws_row)) rfl) | fail) rfl rfl) | (show GD _ _ _ _ _ _ _ _ _ _ (⟨some _, .load _ _, _, _, _, none⟩ :: _); refine GD.w1 ?_ (by first | exact LT.rd (Rd.ldF j 0 (hrow) (rws_row)) rfl | fail)) | (show GD _ _ _ _ _ _ _ _ _ _ (⟨some _, .load _ _, _, _, _, some _⟩ :: _); refine GD.gC ?_ (by first | (refine gi ?_; intros; exact LT.rd (Rd.ldF j 0 (hrow) (rws_row)) rfl) | fail) rfl rfl) | (show G _ _ _ _ (WL _ _ _ _ (⟨some _, .load _ _, _, _, _, none⟩ :: _)); refine G.w1 ?_ (by first | exact LT.rd (Rd.ldF j 1 (hrow) (rws_row)) rfl | fail)) | (show G _ _ _ _ (WL _ _ _ _ (⟨some _, .load _ _, _, _, _, some _⟩ :: _)); refine G.gC ?_ (by first | (refine gi ?_; intros; exact LT.rd (Rd.ldF j 1 (hrow) (rws_row)) rfl) | fail) rfl rfl) | (show GD _ _ _ _ _ _ _ _ _ _ (⟨some _, .load _ _, _, _, _, none⟩ :: _); refine GD.w1 ?_ (by first | exact LT.rd (Rd.ldF j 1 (hrow) (rws_row)) rfl | fail)) | (show GD _ _ _ _ _ _ _ _ _ _ (⟨some _, .load _ _, _, _, _, some _⟩ :: _); refine GD.gC ?_ (by first | (refine gi ?_; intros; exact LT.rd (Rd.ldF j 1 (hrow) (rws_row)) rfl) | fail) rfl rfl) | (show G _ _ _ _ (WL _ _ _ _ (⟨none, .store _ _ _, _, _, _, none⟩ :: _)); refine G.w0 ?_ (by first | exact LT.stF j 1 (hrow) (rws_row) | fail)) | (show GD _ _ _ _ _ _ _ _ _ _ (⟨none, .store _ _ _, _, _, _, none⟩ :: _); refine GD.w0 ?_ (by first | exact LT.stF j 1 (hrow) (rws_row) | fail)) | (show G _ _ _ _ (WL _ _ _ _ (⟨none, .store _ _ _, _, _, _, none⟩ :: _)); refine G.w0 ?_ (by first | exact LT.stF j 0 (hrow2) (hm2) | fail)) | (show GD _ _ _ _ _ _ _ _ _ _ (⟨none, .store _ _ _, _, _, _, none⟩ :: _); refine GD.w0 ?_ (by first | exact LT.stF j 0 (hrow2) (hm2) | fail)) | (show G _ _ _ _ (WL _ _ _ _ (⟨some _, .call _, _, _, _, none⟩ :: _)); refine G.cvW (hix) ?_) | ((repeat (revert hK; revert K)); refine wkT ?_; repeat intro K hK) | refine wkg ?_))
          have e : ((rws p.flat).set j (x.row.set 1 (.s (.int .i64 (x.p + (x.s - g)))))).set j ((x.row.set 1 (.s (.int .i64 (x.p + (x.s - g))))).set 0 (.s (.int .i64 g))) = rws (p.flat.set j (grV x g)) := by
            rw [List.set_set, ← rws_set1]
            rfl
          rw [e]
          refine G.frz (T := 23) (m := 6) (b := 100) (k := (rws p.flat).length) (rows := rws (p.flat.set j (grV x g))) 84 ?_ rws_row (by simp [rws])
          (repeat (first | refine G.cW (hbl) ?_ | refine G.cgW (hbl) ?_ | refine GD.cW (hbl) ?_ | refine GD.cgW (hbl) ?_ | ((repeat (revert hK; revert K)); refine wk ?_; repeat intro K hK) | refine wkg ?_))
          refine G.fin2 (by first | exact rvOk.tmp | exact rvOk.cellS | exact rvOk.cell1 | fail) (by first | exact rvOk.tmp | exact rvOk.cellS | exact rvOk.cell1 | fail) rfl ?_
          rfl
theorem grow_E {t : TD} {e : Int} (he : e ≠ 0) (hc : Fn Try.prog 25 [.st t.row] (· = .s (.int .i64 e))) (g : Int) : Fn Try.prog 15 [.st t.row, .s (.int .i64 g)] (· = resD (.E, e)) := by
  have hb : (e != 0) = true := by simpa using he
  refine Fn.of Try.func15 Try.ntmps15 rfl (by kernel_rfl) (fun w o => ?_)
  (repeat (first | refine G.cW (hc) ?_ | refine G.cgW (hc) ?_ | refine GD.cW (hc) ?_ | refine GD.cgW (hc) ?_ | ((repeat (revert hK; revert K)); refine wk ?_; repeat intro K hK) | refine wkg ?_))
  refine G.leB 1 PT.E.td.row le_EL ?_
  refine G.fin2 (by first | exact rvOk.tmp | exact rvOk.cellS | exact rvOk.cell1 | fail) (by first | exact rvOk.tmp | exact rvOk.cellS | exact rvOk.cell1 | fail) rfl ?_
  rfl

end Go.Proofs.Ytmajkjkakciaiaa
