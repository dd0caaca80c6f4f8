/- Address spaces, the reference's side: Grow. -/
import Derived.Test.YtjdpignfdncebaaQp
set_option linter.unusedSimpArgs false
set_option linter.unusedVariables false
namespace Go.Proofs.Ytjdpignfdncebaa
open Go.RowKit

theorem flag2 : ∀ n : Fin 16, ((n.1 : Int) / 2 % 2 == 0) = (bits .and .i64 (n.1 : Int) 2 == 0) := by decide
theorem find2_iff (l : List RV) (g : Int) : (findV l g).2 = true ↔ (nextV l g).2 = true ∧ (nextV l g).1.s ≤ g := by
  unfold findV
  cases h : (nextV l g).2 with
  | false => simp
  | true =>
    by_cases c : g < (nextV l g).1.s
    · simp [c]
    · simp [c]; omega
/-- The first region that does not begin below g, and the one that ends above it. -/
theorem next_first {g : Int} : ∀ (l : List RV) (i : Nat) (x : RV), l[i]? = some x → (∀ j y, j < i → l[j]? = some y → ¬ g < y.s + y.p) → g < x.s + x.p → nextV l g = (x, true)
  | [], i, x, h, _, _ => by simp at h
  | z :: l, 0, x, h, _, hg => by
    cases h
    rw [nextV_cons, if_pos hg]
  | z :: l, i + 1, x, h, hn, hg => by
    rw [nextV_cons, if_neg (hn 0 z (by omega) rfl)]
    exact next_first l i x h (fun j y hj hy => hn (j + 1) y (by omega) hy) hg
theorem next_none {g : Int} : ∀ (l : List RV), (∀ y ∈ l, ¬ g < y.s + y.p) → (nextV l g).2 = false
  | [], _ => rfl
  | z :: l, h => by
    rw [nextV_cons, if_neg (h z (by simp))]
    exact next_none l (fun y hy => h y (by simp [hy]))
/-- An empty literal: a row of one's own. -/
theorem LT.bs0 {P : Program} {X : Cx} {al : List (Nat × AV)} {bs : Bs} {t e size bytes d k : Nat} [hT : TAp P t e size bytes] (hk : bs.length = k := by simp only [List.length_cons, List.length_nil, Nat.reduceAdd]; rfl) (hf : lk bs k = none := by rfl) (hd : Nat.blt d X.N = true := by rfl) :
    LT P X al bs (.buildSlice t 0 #[]) (some d) [k] [(d, .o k 0)] [(k, some (e, ([] : List (List D)).flatten.map .d))] := fun ro al2 bs2 hL hB E a W hh o ho hdst K Q hK => by
  have hf2 : lk bs2 k = none := (hB k (List.mem_cons_self ..)).trans hf
  obtain ⟨i0, z, hu, hie, hz, hsz, hbs, hzs, hpos⟩ := hT.h
  have hh' := hh.alloc (T := e) (n := 0) (m := size) (vs := []) (cs := []) hf2 .nil (by rw [hie, Option.map_some, hsz]) (by simp) (by decide)
  have hrun : (Instr.buildSlice t 0 #[]).run P W = .ok (.slice (some ⟨W.heap.size, 0, none⟩) 0 0) (W.alloc (.cells #[] e)) := by
    simp [Instr.buildSlice, run_underlying hu, sizeOf, typeInfo, hie, newRow, newObj, Instr.fill, Sem.run]
    rw [show Array.map (fun _ => (default : Value)) (Array.range 0) = #[] from Array.eq_empty_of_size_eq_zero (by simp)]
  refine WO.of (by rw [ho]; intro c h; cases h) ?_
  unfold execOp
  simp only [ho, Sem.run_bind, List.map_toArray, List.map_nil, Array.map_empty, hrun, Result.andThen_ok, Sem.run_pure]
  dsimp only [Oper.uponIn]
  rw [hdst]
  exact hK _ _ _ (hh'.put (.o ⟨_, lk_self _ _ _⟩ (by rw [Env.set_V])) (by simpa using hd))

attribute [local irreducible] Wp WL WO fin finB rnd Exit.then Exit.inBlock G GD LT Rd Fn FnB FvB Iter
attribute [local go_sem] RV.row TD.row
theorem rgrow_E {t : TD} {e : Int} (he : e ≠ 0) (hc : Fn Try.prog 27 [.st t.row] (· = .s (.int .i64 e))) (g : Int) : Fn Try.prog 23 [.st t.row, .s (.int .i64 g)] (· = resD (.E, e)) := by
  have hb : (e != 0) = true := by simpa using he
  refine Fn.of Try.func23 Try.ntmps23 rfl (by kernel_rfl) (fun w o => ?_)
  (repeat (first | refine G.cW (hc) ?_ | refine G.cgW (hc) ?_ | refine GD.cW (hc) ?_ | refine GD.cgW (hc) ?_ | ((repeat (revert hK; revert K)); refine wk ?_; repeat intro K hK) | refine wkg ?_))
  refine G.leB 1 PT.E.td.row le_EL ?_
  refine G.fin2 (by first | exact rvOk.tmp | exact rvOk.cellS | exact rvOk.cell1 | fail) (by first | exact rvOk.tmp | exact rvOk.cellS | exact rvOk.cell1 | fail) rfl ?_
  rfl
def rgI (p : PT) (g : Int) (i : Nat) : List (Nat × AV) × Bs := ([(12, .d (.s (.int .i64 (i : Int)))), (11, .o 0 (rws p.flat).length), (1, .d (.s (.int .i64 g))), (4, .p 1 0)], [(0, some (23, (rws p.flat).flatten.map .d)), (1, some (26, zDs.map .d))])
theorem rgrow_P {p : PT} (hp : ASP p) (g : Int) : Fn Try.prog 23 [.st p.td.row, .s (.int .i64 g)] (· = resD (growT p g)) := by
  have hc := bcheck_P hp
  have hl := rl_P hp
  have h12 := hp.n
  have hlen : ((rws p.flat).length : Int) = p.flat.length := by rw [rws_len]
  by_cases h1 : g < 0 ∨ 512 ≤ g
  · have hb : (decide (g < 0) || decide (512 ≤ g)) = true := by simpa using h1
    rw [show growT p g = (.E, 2) by unfold growT; rw [if_pos h1]]
    refine Fn.of Try.func23 Try.ntmps23 rfl (by kernel_rfl) (fun w o => ?_)
    (repeat (first | refine G.cW (hc) ?_ | refine G.cgW (hc) ?_ | refine GD.cW (hc) ?_ | refine GD.cgW (hc) ?_ | ((repeat (revert hK; revert K)); refine wk ?_; repeat intro K hK) | refine wkg ?_))
    refine G.leB 1 PT.E.td.row le_EL ?_
    refine G.fin2 (by first | exact rvOk.tmp | exact rvOk.cellS | exact rvOk.cell1 | fail) (by first | exact rvOk.tmp | exact rvOk.cellS | exact rvOk.cell1 | fail) rfl ?_
    rfl
  · have hb : (decide (g < 0) || decide (512 ≤ g)) = false := by simpa using h1
    have hf1 := rfind2_P hp g
    have hf2 := rfind2_P hp (g - 1)
    cases hq1 : (findV p.flat g).2 with
    | true =>
      rw [hq1] at hf1
      rw [show growT p g = (.E, 7) by unfold growT; rw [if_neg h1, if_pos ((find2_iff _ _).1 hq1)]]
      refine Fn.of Try.func23 Try.ntmps23 rfl (by kernel_rfl) (fun w o => ?_)
      (repeat (first | refine G.cW (hc) ?_ | refine G.cgW (hc) ?_ | refine GD.cW (hc) ?_ | refine GD.cgW (hc) ?_ | refine G.cW (hf1) ?_ | refine G.cgW (hf1) ?_ | refine GD.cW (hf1) ?_ | refine GD.cgW (hf1) ?_ | ((repeat (revert hK; revert K)); refine wk ?_; repeat intro K hK) | refine wkg ?_))
      refine G.leB 1 PT.E.td.row le_EL ?_
      refine G.fin2 (by first | exact rvOk.tmp | exact rvOk.cellS | exact rvOk.cell1 | fail) (by first | exact rvOk.tmp | exact rvOk.cellS | exact rvOk.cell1 | fail) rfl ?_
      rfl
    | false =>
      rw [hq1] at hf1
      have hq1' : ¬ ((nextV p.flat g).2 = true ∧ (nextV p.flat g).1.s ≤ g) := fun e => by rw [(find2_iff _ _).2 e] at hq1; cases hq1
      have hno1 := (find_spec g p.flat hp.l).2 hq1
      cases hq2 : (findV p.flat (g - 1)).2 with
      | true =>
        rw [hq2] at hf2
        rw [show growT p g = (.E, 13) by unfold growT; rw [if_neg h1, if_neg hq1', if_pos (.inr (.inr hq2))]]
        refine Fn.of Try.func23 Try.ntmps23 rfl (by kernel_rfl) (fun w o => ?_)
        (repeat (first | refine G.cW (hc) ?_ | refine G.cgW (hc) ?_ | refine GD.cW (hc) ?_ | refine GD.cgW (hc) ?_ | refine G.cW (hf1) ?_ | refine G.cgW (hf1) ?_ | refine GD.cW (hf1) ?_ | refine GD.cgW (hf1) ?_ | refine G.cW (hf2) ?_ | refine G.cgW (hf2) ?_ | refine GD.cW (hf2) ?_ | refine GD.cgW (hf2) ?_ | ((repeat (revert hK; revert K)); refine wk ?_; repeat intro K hK) | refine wkg ?_))
        refine G.leB 1 PT.E.td.row le_EL ?_
        refine G.fin2 (by first | exact rvOk.tmp | exact rvOk.cellS | exact rvOk.cell1 | fail) (by first | exact rvOk.tmp | exact rvOk.cellS | exact rvOk.cell1 | fail) rfl ?_
        rfl
      | false =>
        rw [hq2] at hf2
        have hno2 := (find_spec (g - 1) p.flat hp.l).2 hq2
        have h63 : ∀ m, ([] : List (List D)).length = m → m + p.flat.length ≤ 100000 := fun m hm => by simp at hm; omega
        refine Fn.of Try.func23 Try.ntmps23 rfl (by kernel_rfl) (fun w o => ?_)
        (repeat (first | refine G.cW (hc) ?_ | refine G.cgW (hc) ?_ | refine GD.cW (hc) ?_ | refine GD.cgW (hc) ?_ | refine G.cW (hl) ?_ | refine G.cgW (hl) ?_ | refine GD.cW (hl) ?_ | refine GD.cgW (hl) ?_ | refine G.cW (hf1) ?_ | refine G.cgW (hf1) ?_ | refine GD.cW (hf1) ?_ | refine GD.cgW (hf1) ?_ | refine G.cW (hf2) ?_ | refine G.cgW (hf2) ?_ | refine GD.cW (hf2) ?_ | refine GD.cgW (hf2) ?_ | (show G _ _ _ _ (WL _ _ _ _ (⟨some _, .buildSlice _ 0 _, _, _, _, none⟩ :: _)); refine G.w2 ?_ (by first | exact LT.bs0 | fail)) | (show G _ _ _ _ (WL _ _ _ _ (⟨some _, .call _, _, _, _, none⟩ :: _)); refine G.w3 ?_ (by first | exact LT.apR _ (h63) | fail)) | ((repeat (revert hK; revert K)); refine wk ?_; repeat intro K hK) | refine wkg ?_))
        rw [show 0 + (rws p.flat).length = (rws p.flat).length from Nat.zero_add _, List.nil_append]
        refine G.loop (rgI p g) (fun i => i ≤ p.flat.length ∧ ∀ j y, j < i → p.flat[j]? = some y → y.s < g) (fun i => p.flat.length - i) ?_ ?_
        · exact G.at 0 [(0, 7), (1, 1)] ⟨Nat.zero_le _, fun j y h => absurd h (Nat.not_lt_zero _)⟩ (by repeat (first | exact trivial | refine ⟨⟨rfl, rfl⟩, ?_⟩)) (by repeat (first | exact trivial | refine ⟨⟨rfl, rfl, rfl⟩, ?_⟩ | refine ⟨⟨rfl, by rw [renL_d]; rfl, kbL_d _ _⟩, ?_⟩ | refine ⟨rfl, ?_⟩)) (by decide)
        · rintro i ⟨hi, hlo⟩
          have hlo2 : ∀ j y, j < i → p.flat[j]? = some y → ¬ g < y.s + y.p := fun j y hj hy e => hno1 y (List.mem_of_getElem? hy) ⟨by have := hlo j y hj hy; omega, e⟩
          dsimp only [rgI]
          by_cases h : i < p.flat.length
          · have hgi : p.flat[i]? = some p.flat[i] := List.getElem?_eq_getElem h
            have hx := hp.l.c _ (List.getElem_mem h)
            have hrow := rws_get p.flat i h
            have hil : i < (rws p.flat).length := by rw [rws_len]; exact h
            have hn1 := hno1 _ (List.getElem_mem h)
            generalize p.flat[i] = x at *
            have bx := chkV_bd hx
            by_cases hs : x.s < g
            · have hbs : decide (x.s < g) = true := by simpa using hs
              (repeat (first | (show G _ _ _ _ (WL _ _ _ _ (⟨some _, .indexAddr _ _ _, _, _, _, none⟩ :: _)); refine G.w1 ?_ (by first | exact LT.rd (Rd.ixov i (hil)) rfl | fail)) | (show G _ _ _ _ (WL _ _ _ _ (⟨some _, .indexAddr _ _ _, _, _, _, some _⟩ :: _)); refine G.gC ?_ (by first | (refine gi ?_; intros; exact LT.rd (Rd.ixov i (hil)) rfl) | fail) rfl rfl) | (show GD _ _ _ _ _ _ _ _ _ _ (⟨some _, .indexAddr _ _ _, _, _, _, none⟩ :: _); refine GD.w1 ?_ (by first | exact LT.rd (Rd.ixov i (hil)) rfl | fail)) | (show GD _ _ _ _ _ _ _ _ _ _ (⟨some _, .indexAddr _ _ _, _, _, _, some _⟩ :: _); refine GD.gC ?_ (by first | (refine gi ?_; intros; exact LT.rd (Rd.ixov i (hil)) rfl) | fail) rfl rfl) | (show G _ _ _ _ (WL _ _ _ _ (⟨some _, .load _ _, _, _, _, none⟩ :: _)); refine G.w1 ?_ (by first | exact LT.rd (Rd.ldF i 0 (hrow) (rws_row)) rfl | fail)) | (show G _ _ _ _ (WL _ _ _ _ (⟨some _, .load _ _, _, _, _, some _⟩ :: _)); refine G.gC ?_ (by first | (refine gi ?_; intros; exact LT.rd (Rd.ldF i 0 (hrow) (rws_row)) rfl) | fail) rfl rfl) | (show GD _ _ _ _ _ _ _ _ _ _ (⟨some _, .load _ _, _, _, _, none⟩ :: _); refine GD.w1 ?_ (by first | exact LT.rd (Rd.ldF i 0 (hrow) (rws_row)) rfl | fail)) | (show GD _ _ _ _ _ _ _ _ _ _ (⟨some _, .load _ _, _, _, _, some _⟩ :: _); refine GD.gC ?_ (by first | (refine gi ?_; intros; exact LT.rd (Rd.ldF i 0 (hrow) (rws_row)) rfl) | fail) rfl rfl) | ((repeat (revert hK; revert K)); refine wk ?_; repeat intro K hK) | refine wkg ?_))
              refine G.at (i + 1) [(0, 0), (1, 1)] ⟨⟨by omega, fun j y hj hy => ?_⟩, by omega⟩ (by repeat (first | exact trivial | refine ⟨⟨rfl, rfl⟩, ?_⟩)) (by repeat (first | exact trivial | refine ⟨⟨rfl, rfl, rfl⟩, ?_⟩ | refine ⟨⟨rfl, by rw [renL_d]; rfl, kbL_d _ _⟩, ?_⟩ | refine ⟨rfl, ?_⟩)) (by decide)
              by_cases e : j = i
              · subst e; rw [hgi] at hy; cases hy; exact hs
              · exact hlo j y (by omega) hy
            · have hbs : decide (x.s < g) = false := by simpa using hs
              have hgx : g < x.s := by omega
              have hnx := next_first p.flat i x hgi hlo2 (by omega)
              obtain ⟨m, hm⟩ := nat16 bx.2.2.2.2.1 bx.2.2.2.2.2.1
              have hfl : (x.f / 2 % 2 == 0) = (bits .and .i64 x.f 2 == 0) := by rw [hm]; exact flag2 m
              by_cases hg : bits .and .i64 x.f 2 = 0
              · have hbg : (x.f / 2 % 2 == 0) = true := by rw [hfl]; simp [hg]
                rw [show growT p g = (.E, 13) by unfold growT; rw [if_neg h1, if_neg hq1', if_pos (.inr (.inl (by rw [hnx]; exact hg)))]]
                (repeat (first | (show G _ _ _ _ (WL _ _ _ _ (⟨some _, .indexAddr _ _ _, _, _, _, none⟩ :: _)); refine G.w1 ?_ (by first | exact LT.rd (Rd.ixov i (hil)) rfl | fail)) | (show G _ _ _ _ (WL _ _ _ _ (⟨some _, .indexAddr _ _ _, _, _, _, some _⟩ :: _)); refine G.gC ?_ (by first | (refine gi ?_; intros; exact LT.rd (Rd.ixov i (hil)) rfl) | fail) rfl rfl) | (show GD _ _ _ _ _ _ _ _ _ _ (⟨some _, .indexAddr _ _ _, _, _, _, none⟩ :: _); refine GD.w1 ?_ (by first | exact LT.rd (Rd.ixov i (hil)) rfl | fail)) | (show GD _ _ _ _ _ _ _ _ _ _ (⟨some _, .indexAddr _ _ _, _, _, _, some _⟩ :: _); refine GD.gC ?_ (by first | (refine gi ?_; intros; exact LT.rd (Rd.ixov i (hil)) rfl) | fail) rfl rfl) | (show G _ _ _ _ (WL _ _ _ _ (⟨some _, .load _ _, _, _, _, none⟩ :: _)); refine G.w1 ?_ (by first | exact LT.rd (Rd.ldF i 0 (hrow) (rws_row)) rfl | fail)) | (show G _ _ _ _ (WL _ _ _ _ (⟨some _, .load _ _, _, _, _, some _⟩ :: _)); refine G.gC ?_ (by first | (refine gi ?_; intros; exact LT.rd (Rd.ldF i 0 (hrow) (rws_row)) rfl) | fail) rfl rfl) | (show GD _ _ _ _ _ _ _ _ _ _ (⟨some _, .load _ _, _, _, _, none⟩ :: _); refine GD.w1 ?_ (by first | exact LT.rd (Rd.ldF i 0 (hrow) (rws_row)) rfl | fail)) | (show GD _ _ _ _ _ _ _ _ _ _ (⟨some _, .load _ _, _, _, _, some _⟩ :: _); refine GD.gC ?_ (by first | (refine gi ?_; intros; exact LT.rd (Rd.ldF i 0 (hrow) (rws_row)) rfl) | fail) rfl rfl) | (show G _ _ _ _ (WL _ _ _ _ (⟨some _, .load _ _, _, _, _, none⟩ :: _)); refine G.w1 ?_ (by first | exact LT.rd (Rd.ldF i 3 (hrow) (rws_row)) rfl | fail)) | (show G _ _ _ _ (WL _ _ _ _ (⟨some _, .load _ _, _, _, _, some _⟩ :: _)); refine G.gC ?_ (by first | (refine gi ?_; intros; exact LT.rd (Rd.ldF i 3 (hrow) (rws_row)) rfl) | fail) rfl rfl) | (show GD _ _ _ _ _ _ _ _ _ _ (⟨some _, .load _ _, _, _, _, none⟩ :: _); refine GD.w1 ?_ (by first | exact LT.rd (Rd.ldF i 3 (hrow) (rws_row)) rfl | fail)) | (show GD _ _ _ _ _ _ _ _ _ _ (⟨some _, .load _ _, _, _, _, some _⟩ :: _); refine GD.gC ?_ (by first | (refine gi ?_; intros; exact LT.rd (Rd.ldF i 3 (hrow) (rws_row)) rfl) | fail) rfl rfl) | ((repeat (revert hK; revert K)); refine wk ?_; repeat intro K hK) | refine wkg ?_))
                refine G.leB 1 PT.E.td.row le_EL ?_
                refine G.fin2 (by first | exact rvOk.tmp | exact rvOk.cellS | exact rvOk.cell1 | fail) (by first | exact rvOk.tmp | exact rvOk.cellS | exact rvOk.cell1 | fail) rfl ?_
                rfl
              · have hbg : (x.f / 2 % 2 == 0) = false := by rw [hfl]; simp [hg]
                have hq : (nextV p.flat g).2 = true := by rw [hnx]
                have hgo := growL_ok (by omega) p.flat hp.l hp.f hq (by rw [hnx]; exact hgx) (by rw [hnx]; exact hg) (fun x hx e => hno2 x hx e)
                obtain ⟨j, j1, j2, j3⟩ := grow_at hq
                rw [hnx] at j1 j3
                have hji : j = i := by
                  rcases Nat.lt_trichotomy j i with e | e | e
                  · exact absurd (by omega) (hlo2 j x e j1)
                  · exact e
                  · exact absurd (by omega) (j2 i x e hgi)
                subst hji
                have htr := rtree_P hgo.1
                have hrt : resT (growL p.flat g) = (bldT (growL p.flat g), 0) := by
                  unfold resT
                  rw [normL_far hgo.1 hgo.2.1, if_neg (by rw [growL_len]; omega)]
                rw [hrt] at htr
                unfold resD at htr
                rw [show growT p g = (bldT (growL p.flat g), 0) by unfold growT; rw [if_neg h1, if_neg hq1', if_neg (by rw [hnx]; simp [hg, hq2])]]
                rw [j3] at htr ⊢
                dsimp only at htr
                have hrow2 : ((rws p.flat).set j (x.row.set 1 (.s (.int .i64 (x.p + (x.s - g))))))[j]? = some (x.row.set 1 (.s (.int .i64 (x.p + (x.s - g))))) := List.getElem?_set_self hil
                have hm2 : ∀ r ∈ (rws p.flat).set j (x.row.set 1 (.s (.int .i64 (x.p + (x.s - g))))), r.length = 6 := by
                  rw [show x.row.set 1 (.s (.int .i64 (x.p + (x.s - g)))) = ({ x with p := x.p + (x.s - g) } : RV).row from rfl, rws_set1]
                  exact rws_row
                (repeat (first | (show G _ _ _ _ (WL _ _ _ _ (⟨some _, .indexAddr _ _ _, _, _, _, none⟩ :: _)); refine G.w1 ?_ (by first | exact LT.rd (Rd.ixov j (hil)) rfl | fail)) | (show G _ _ _ _ (WL _ _ _ _ (⟨some _, .indexAddr _ _ _, _, _, _, some _⟩ :: _)); refine G.gC ?_ (by first | (refine gi ?_; intros; exact LT.rd (Rd.ixov j (hil)) rfl) | fail) rfl rfl) | (show GD _ _ _ _ _ _ _ _ _ _ (⟨some _, .indexAddr _ _ _, _, _, _, none⟩ :: _); refine GD.w1 ?_ (by first | exact LT.rd (Rd.ixov j (hil)) rfl | fail)) | (show GD _ _ _ _ _ _ _ _ _ _ (⟨some _, .indexAddr _ _ _, _, _, _, some _⟩ :: _); refine GD.gC ?_ (by first | (refine gi ?_; intros; exact LT.rd (Rd.ixov j (hil)) rfl) | fail) rfl rfl) | (show G _ _ _ _ (WL _ _ _ _ (⟨some _, .load _ _, _, _, _, none⟩ :: _)); refine G.w1 ?_ (by first | exact LT.rd (Rd.ldF j 0 (hrow) (rws_row)) rfl | fail)) | (show G _ _ _ _ (WL _ _ _ _ (⟨some _, .load _ _, _, _, _, some _⟩ :: _)); refine G.gC ?_ (by first | (refine gi ?_; intros; exact LT.rd (Rd.ldF j 0 (hrow) (rws_row)) rfl) | fail) rfl rfl) | (show GD _ _ _ _ _ _ _ _ _ _ (⟨some _, .load _ _, _, _, _, none⟩ :: _); refine GD.w1 ?_ (by first | exact LT.rd (Rd.ldF j 0 (hrow) (rws_row)) rfl | fail)) | (show GD _ _ _ _ _ _ _ _ _ _ (⟨some _, .load _ _, _, _, _, some _⟩ :: _); refine GD.gC ?_ (by first | (refine gi ?_; intros; exact LT.rd (Rd.ldF j 0 (hrow) (rws_row)) rfl) | fail) rfl rfl) | (show G _ _ _ _ (WL _ _ _ _ (⟨some _, .load _ _, _, _, _, none⟩ :: _)); refine G.w1 ?_ (by first | exact LT.rd (Rd.ldF j 1 (hrow) (rws_row)) rfl | fail)) | (show G _ _ _ _ (WL _ _ _ _ (⟨some _, .load _ _, _, _, _, some _⟩ :: _)); refine G.gC ?_ (by first | (refine gi ?_; intros; exact LT.rd (Rd.ldF j 1 (hrow) (rws_row)) rfl) | fail) rfl rfl) | (show GD _ _ _ _ _ _ _ _ _ _ (⟨some _, .load _ _, _, _, _, none⟩ :: _); refine GD.w1 ?_ (by first | exact LT.rd (Rd.ldF j 1 (hrow) (rws_row)) rfl | fail)) | (show GD _ _ _ _ _ _ _ _ _ _ (⟨some _, .load _ _, _, _, _, some _⟩ :: _); refine GD.gC ?_ (by first | (refine gi ?_; intros; exact LT.rd (Rd.ldF j 1 (hrow) (rws_row)) rfl) | fail) rfl rfl) | (show G _ _ _ _ (WL _ _ _ _ (⟨some _, .load _ _, _, _, _, none⟩ :: _)); refine G.w1 ?_ (by first | exact LT.rd (Rd.ldF j 3 (hrow) (rws_row)) rfl | fail)) | (show G _ _ _ _ (WL _ _ _ _ (⟨some _, .load _ _, _, _, _, some _⟩ :: _)); refine G.gC ?_ (by first | (refine gi ?_; intros; exact LT.rd (Rd.ldF j 3 (hrow) (rws_row)) rfl) | fail) rfl rfl) | (show GD _ _ _ _ _ _ _ _ _ _ (⟨some _, .load _ _, _, _, _, none⟩ :: _); refine GD.w1 ?_ (by first | exact LT.rd (Rd.ldF j 3 (hrow) (rws_row)) rfl | fail)) | (show GD _ _ _ _ _ _ _ _ _ _ (⟨some _, .load _ _, _, _, _, some _⟩ :: _); refine GD.gC ?_ (by first | (refine gi ?_; intros; exact LT.rd (Rd.ldF j 3 (hrow) (rws_row)) rfl) | fail) rfl rfl) | (show G _ _ _ _ (WL _ _ _ _ (⟨none, .store _ _ _, _, _, _, none⟩ :: _)); refine G.w0 ?_ (by first | exact LT.stF j 1 (hrow) (rws_row) | fail)) | (show GD _ _ _ _ _ _ _ _ _ _ (⟨none, .store _ _ _, _, _, _, none⟩ :: _); refine GD.w0 ?_ (by first | exact LT.stF j 1 (hrow) (rws_row) | fail)) | (show G _ _ _ _ (WL _ _ _ _ (⟨none, .store _ _ _, _, _, _, none⟩ :: _)); refine G.w0 ?_ (by first | exact LT.stF j 0 (hrow2) (hm2) | fail)) | (show GD _ _ _ _ _ _ _ _ _ _ (⟨none, .store _ _ _, _, _, _, none⟩ :: _); refine GD.w0 ?_ (by first | exact LT.stF j 0 (hrow2) (hm2) | fail)) | ((repeat (revert hK; revert K)); refine wk ?_; repeat intro K hK) | refine wkg ?_))
                have e : ((rws p.flat).set j (x.row.set 1 (.s (.int .i64 (x.p + (x.s - g)))))).set j ((x.row.set 1 (.s (.int .i64 (x.p + (x.s - g))))).set 0 (.s (.int .i64 g))) = rws (p.flat.set j (grV x g)) := by
                  rw [List.set_set, ← rws_set1]
                  rfl
                rw [e]
                refine G.frz (T := 23) (m := 6) (b := 0) (k := (rws p.flat).length) (rows := rws (p.flat.set j (grV x g))) 89 ?_ rws_row (by simp [rws])
                (repeat (first | refine G.cW (htr) ?_ | refine G.cgW (htr) ?_ | refine GD.cW (htr) ?_ | refine GD.cgW (htr) ?_ | ((repeat (revert hK; revert K)); refine wk ?_; repeat intro K hK) | refine wkg ?_))
                refine G.fin2 (by first | exact rvOk.tmp | exact rvOk.cellS | exact rvOk.cell1 | fail) (by first | exact rvOk.tmp | exact rvOk.cellS | exact rvOk.cell1 | fail) rfl ?_
                rfl
          · have e : i = p.flat.length := by omega
            subst e
            have hq : (nextV p.flat g).2 = false := next_none p.flat (fun y hy => by
              obtain ⟨j, hj⟩ := List.mem_iff_getElem?.1 hy
              exact hlo2 j y (List.getElem?_eq_some_iff.1 hj).1 hj)
            (repeat (first | ((repeat (revert hK; revert K)); refine wk ?_; repeat intro K hK) | refine wkg ?_))
            refine G.leB 1 PT.E.td.row le_EL ?_
            refine G.fin2 (by first | exact rvOk.tmp | exact rvOk.cellS | exact rvOk.cell1 | fail) (by first | exact rvOk.tmp | exact rvOk.cellS | exact rvOk.cell1 | fail) rfl ?_
            rw [show growT p g = (.E, 13) by unfold growT; rw [if_neg h1, if_neg hq1', if_pos (.inl hq)]]
            rfl

end Go.Proofs.Ytjdpignfdncebaa
