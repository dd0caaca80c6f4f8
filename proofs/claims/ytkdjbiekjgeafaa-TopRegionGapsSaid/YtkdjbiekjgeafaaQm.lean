/- Trees of regions: List, a row of one's own; slices.Index. -/
/- Address spaces, the program's side: Grow. -/
import Derived.Test.YtkdjbiekjgeafaaUrM
set_option linter.unusedSimpArgs false
set_option linter.unusedVariables false
namespace Go.Proofs.Ytkdjbiekjgeafaa
open Go.RowKit

attribute [local irreducible] Wp WL WO fin finB rnd Exit.then Exit.inBlock G GD LT Rd Fn FnB FvB Iter
attribute [local go_sem] RV.row TD.row
set_option maxHeartbeats 1000000 in
theorem list_O (t : BT) (ht : t.ok) (hl : t.nodes.length ≤ 900) (hC : Fn Try.prog 25 [.st t.td.row] (· = .s (.int .i64 0))) : FnB Try.prog CT 20 [.d (.st t.td.row)] [(101, none)] (.o 101 (t.nodes.map (fun n => n.td.x.row)).length) [(101, some (25, (t.nodes.map (fun n => n.td.x.row)).flatten.map .d))] := by
  have he := FnB.v0 (each_F (.fn 44 [.p 100 0]) rfl (fun _ => rfl) (fun i => cR 55 25 ((t.nodes.take i).map (fun n => n.td.x.row))) (fun _ j => cR.cl j) t 0 ht (fun j n hj => by
    have := FnB.v (cs := [.p 100 0]) (xs := [_]) (list1_F n.td ((t.nodes.take (0 + j)).map (fun n => n.td.x.row)) (by simp; omega))
    simp only [Nat.zero_add] at this ⊢
    rw [take_snoc hj, List.map_append]
    exact this))
  rw [Nat.zero_add, List.take_length] at he
  refine FnB.of (ks := []) CT.c Try.func20 Try.ntmps20 rfl (by kernel_rfl) (fun w o m E0 hCX => ?_) (hks := kns_eq (l := [101]) rfl (by decide)); (try dsimp only [Is])
  (repeat (first | refine G.cW (hC) ?_ | refine G.cgW (hC) ?_ | refine GD.cW (hC) ?_ | refine GD.cgW (hC) ?_ | ((repeat (revert hK; revert K)); refine wk ?_; repeat intro K hK) | refine wkg ?_))
  refine G.ren (al' := [(8, .fn 44 [.p 100 0]), (7, .d (.st t.td.row)), (3, .p 100 0)]) (bs' := [(100, some (55, [.d (.s (.slice none 0 0))]))]) [(100, 2)] ?_ (by repeat (first | exact trivial | refine ⟨⟨rfl, rfl⟩, ?_⟩)) (by repeat (first | exact trivial | refine ⟨⟨rfl, rfl, rfl⟩, ?_⟩ | refine ⟨⟨rfl, by rw [renL_d]; rfl, kbL_d _ _⟩, ?_⟩ | refine ⟨rfl, ?_⟩)) (by decide) (by rfl)
  refine G.nilCell 100 101 25 ?_
  (repeat (first | (show G _ _ _ _ (WL _ _ _ _ (⟨some _, .call _, _, _, _, none⟩ :: _)); refine G.cvW ( he) ?_) | ((repeat (revert hK; revert K)); refine wkT ?_; repeat intro K hK) | refine wkg ?_))
  refine G.finB1 rfl rfl (by rfl) (by first | ((repeat (first | exact trivial | refine ⟨.inl rfl, ?_⟩ | refine ⟨.inr rfl, ?_⟩)); done) | fail) (by first | exact Is.cl (hcl _) | exact Is.cl6 (hcl _) | ((repeat (first | exact trivial | refine ⟨ClE.some rfl, ?_⟩ | (with_reducible refine ClB.d ?_) | (with_reducible refine ⟨ClE.some (numsL_d _ _), ?_⟩) | refine ⟨ClE.none, ?_⟩)); done) | fail) (by rfl)
theorem plist_O {p : PT} (hp : good p) : FnB Try.prog CT 20 [.d (.st p.td.row)] [(101, none)] (.o 101 (rws p.flat).length) [(101, some (25, (rws p.flat).flatten.map .d))] := by
  have h := list_O p.bt (bt_ok p) (bt_len hp) (by rw [bt_td]; exact pcheck_P hp)
  have e : p.bt.nodes.map (fun n => n.td.x.row) = rws p.flat := by rw [← bt_regs]; exact regR_rws _
  rw [e, bt_td] at h
  exact h
def ixI (l : List RV) (x : RV) (i : Nat) : List (Nat × AV) × Bs := ([(8, .d (.s (.int .i64 (i : Int)))), (7, .d (.s (.int .i64 (rws l).length))), (0, .o 100 (rws l).length), (3, .p 1 0)], [(100, some (25, (rws l).flatten.map .d)), (1, some (25, x.row.map .d))])
end Go.Proofs.Ytkdjbiekjgeafaa

set_option linter.unusedSimpArgs false
set_option linter.unusedVariables false
namespace Go.Proofs.Ytkdjbiekjgeafaa
open Go.RowKit

/-- A region that begins at g instead. -/
def grV (x : RV) (g : Int) : RV := { x with p := x.p + (x.s - g), s := g }
def growL : List RV → Int → List RV
  | [], _ => []
  | x :: l, g => if g < x.s + x.p then grV x g :: l else x :: growL l g
theorem grow_at {g : Int} : ∀ {l : List RV}, (nextV l g).2 = true → ∃ j, l[j]? = some (nextV l g).1 ∧ (∀ i y, i < j → l[i]? = some y → ¬ g < y.s + y.p) ∧ growL l g = l.set j (grV (nextV l g).1 g)
  | [], h => by cases h
  | x :: l, h => by
    rw [nextV_cons] at h ⊢
    by_cases c : g < x.s + x.p
    · rw [if_pos c]
      exact ⟨0, rfl, fun i y hi => by omega, by simp [growL, c]⟩
    · rw [if_neg c] at h ⊢
      obtain ⟨j, h1, h2, h3⟩ := grow_at h
      refine ⟨j + 1, h1, fun i y hi hy => ?_, by simp [growL, c, h3]⟩
      cases i with
      | zero => cases hy; exact c
      | succ i => exact h2 i y (by omega) hy
theorem next_lt {g : Int} : ∀ {l : List RV}, (nextV l g).2 = true → g < (nextV l g).1.s + (nextV l g).1.p
  | [], h => by cases h
  | x :: l, h => by
    rw [nextV_cons] at h ⊢
    by_cases c : g < x.s + x.p
    · rw [if_pos c]; exact c
    · rw [if_neg c] at h ⊢; exact next_lt h
theorem rws_set1 (l : List RV) (j : Nat) (x : RV) : (rws l).set j x.row = rws (l.set j x) := by simp [rws, List.map_set]
/-- What Grow answers. -/
def growT (p : PT) (g : Int) : PT × Int :=
  if g < 0 ∨ 512 ≤ g then (.E, 2)
  else if (nextV p.flat g).2 = true ∧ (nextV p.flat g).1.s ≤ g then (.E, 7)
  else if (nextV p.flat g).2 = false ∨ bits .and .i64 (nextV p.flat g).1.f 2 = 0 ∨ (findV p.flat (g - 1)).2 = true then (.E, 13)
  else (bldT (growL p.flat g), 0)
theorem flag10 : ∀ n : Fin 16, bits .and .i64 (n.1 : Int) 2 ≠ 0 → bits .and .i64 (n.1 : Int) 10 ≠ 0 ∧ (n.1 : Int) / 2 % 2 = 1 := by decide
theorem grV_ok {x : RV} {g : Int} (hx : chkV x = 0) (hf : bits .and .i64 x.f 2 ≠ 0) (h0 : 0 ≤ g) (h1 : g < x.s) : chkV (grV x g) = 0 := by
  have h := (chk_iff x).1 hx
  obtain ⟨n, hn⟩ := nat16 h.2.2.1.1 h.2.2.1.2
  have h10 := (flag10 n (by rw [← hn]; exact hf)).1
  rw [← hn] at h10
  have hi : x.i = -1 := Classical.byContradiction fun e => h10 (h.2.2.2.2.2.1 e)
  refine (chk_iff _).2 ?_
  simp only [grV]
  exact ⟨by omega, h.2.1, h.2.2.1, h.2.2.2.1, h.2.2.2.2.1, h.2.2.2.2.2.1, h0, by omega, h.2.2.2.2.2.2.2.2.1, h.2.2.2.2.2.2.2.2.2.1, fun e => absurd hi e⟩
/-- The list that has grown: valid, in order, nothing to merge. -/
theorem growL_ok {g : Int} (h0 : 0 ≤ g) : ∀ (l : List RV), okl l → far l → (nextV l g).2 = true → g < (nextV l g).1.s → bits .and .i64 (nextV l g).1.f 2 ≠ 0 → (∀ x ∈ l, ¬ (x.s ≤ g - 1 ∧ g - 1 < x.s + x.p)) → okl (growL l g) ∧ far (growL l g) ∧ (∀ y ∈ growL l g, ∃ x ∈ l, y = x ∨ (y = grV x g ∧ g < x.s))
  | [], _, _, h, _, _, _ => by cases h
  | x :: l, hk, hf, h1, h2, h3, h4 => by
    rw [nextV_cons] at h1 h2 h3
    obtain ⟨k1, k2, k3⟩ := okl.app1 (l := [x]) (m := l) hk
    have hx := hk.c x (by simp)
    have bx := chkV_bd hx
    unfold growL
    by_cases c : g < x.s + x.p
    · rw [if_pos c] at h1 h2 h3 ⊢
      dsimp only at h2 h3
      have hg := grV_ok hx h3 h0 h2
      refine ⟨(okl.one hg).app (m := l) k2 (fun a ha b hb => ?_), ?_, fun y hy => ?_⟩
      · simp at ha; subst ha
        have := k3 x (by simp) b hb
        unfold apart RV.e grV at *
        simp only
        omega
      · cases l with
        | nil => trivial
        | cons z l =>
          refine ⟨?_, hf.2⟩
          have hz := k2.c z (by simp)
          rw [← Bool.not_eq_true, mrg_iff hg hz]
          obtain ⟨n, hn⟩ := nat16 bx.2.2.2.2.1 bx.2.2.2.2.2.1
          have h10 := (flag10 n (by rw [← hn]; exact h3)).2
          rw [← hn] at h10
          exact fun e => e.2.1 h10
      · rcases List.mem_cons.1 hy with rfl | hy
        · exact ⟨x, by simp, .inr ⟨rfl, h2⟩⟩
        · exact ⟨y, by simp [hy], .inl rfl⟩
    · rw [if_neg c] at h1 h2 h3 ⊢
      have hf2 : far l := by cases l with | nil => trivial | cons z l => exact hf.2
      obtain ⟨g1, g2, g3⟩ := growL_ok h0 l k2 hf2 h1 h2 h3 (fun y hy => h4 y (by simp [hy]))
      have hxg := h4 x (by simp)
      refine ⟨(okl.one hx).app (m := growL l g) g1 (fun a ha b hb => ?_), ?_, fun y hy => ?_⟩
      · simp at ha; subst ha
        obtain ⟨z, hz, e⟩ := g3 b hb
        rcases e with rfl | ⟨rfl, e⟩
        · exact k3 a (by simp) b hz
        · unfold apart RV.e grV
          simp only
          omega
      · cases l with
        | nil => cases h1
        | cons z l =>
          have hz := k2.c z (by simp)
          show far (x :: growL (z :: l) g)
          unfold growL at g1 g2 ⊢
          by_cases d : g < z.s + z.p
          · rw [if_pos d] at g1 g2 ⊢
            refine ⟨?_, g2⟩
            rw [← Bool.not_eq_true, mrg_iff hx (g1.c _ (by simp))]
            rintro ⟨e, _⟩
            simp only [grV] at e
            omega
          · rw [if_neg d] at g1 g2 ⊢
            exact ⟨hf.1, g2⟩
      · rcases List.mem_cons.1 hy with rfl | hy
        · exact ⟨y, by simp, .inl rfl⟩
        · obtain ⟨z, hz, e⟩ := g3 y hy
          exact ⟨z, by simp [hz], e⟩
theorem growL_len (g : Int) : ∀ l : List RV, (growL l g).length = l.length
  | [] => rfl
  | x :: l => by
    unfold growL
    split
    · rfl
    · simp [growL_len g l]

attribute [local irreducible] Wp WL WO fin finB rnd Exit.then Exit.inBlock G GD LT Rd Fn FnB FvB Iter
attribute [local go_sem] RV.row TD.row
end Go.Proofs.Ytkdjbiekjgeafaa
