/- The law AddrspaceCanonical as a contract. -/
import Derived.Test.YtjdpignfdncebaaVqM
import Derived.Test.YtjdpignfdncebaaVbM
set_option linter.unusedSimpArgs false
set_option linter.unusedVariables false
namespace Go.Proofs.Ytjdpignfdncebaa
open Go.RowKit

def PT.gt : PT → GT
  | .E => .mk 0 0 0 0 RV.z []
  | .N l x r => .mk (PT.N l x r).ht (PT.N l x r).fst (PT.N l x r).lst (PT.N l x r).gp x [l.gt, r.gt]
theorem gt_td : ∀ p : PT, p.gt.td = p.td
  | .E => rfl
  | .N l x r => by
    have h1 := gt_td l
    have h2 := gt_td r
    simp only [PT.gt, GT.td, GT.rows, h1, h2]
    rfl
def PT.cnt : PT → Int
  | .E => 1
  | .N l _ r => 1 + l.cnt + r.cnt
theorem cnt_pos : ∀ p : PT, 1 ≤ p.cnt
  | .E => by simp [PT.cnt]
  | .N l _ r => by have := cnt_pos l; have := cnt_pos r; simp only [PT.cnt]; omega
theorem cnt_flat : ∀ p : PT, p.cnt = 2 * p.flat.length + 1
  | .E => rfl
  | .N l x r => by
    have := cnt_flat l
    have := cnt_flat r
    simp only [PT.cnt, PT.flat, List.length_append, List.length_cons]
    omega
theorem nod_cnt : ∀ (p : PT) (lim : Int), p.cnt ≤ lim → nodG p.gt lim = p.cnt
  | .E, lim, h => by simp [PT.gt, nodG, nodL, PT.cnt]
  | .N l x r, lim, h => by
    simp only [PT.cnt] at h ⊢
    have c1 := cnt_pos l
    have c2 := cnt_pos r
    have h1 := nod_cnt l (lim - 1) (by omega)
    have h2 := nod_cnt r (lim - (1 + l.cnt)) (by omega)
    simp only [PT.gt, nodG, nodL, h1]
    rw [if_pos (by omega), if_pos (by omega), h2]
theorem few_P {p : PT} (hp : ASP p) : Fn Try.prog 13 [.st p.td.row] (· = .s (.bool true)) := by
  have h := few_F p.gt (few_G p.gt)
  have h12 := hp.n
  have hc := cnt_flat p
  have hf : fewG p.gt = true := by
    unfold fewG
    rw [nod_cnt p 200 (by omega), decide_eq_true_eq]
    omega
  rw [hf, gt_td] at h
  exact h
theorem far_get : ∀ (l : List RV) (i : Nat) (a b : RV), far l → l[i]? = some a → l[i + 1]? = some b → mrgV a b = false
  | [], i, a, b, _, h, _ => by simp at h
  | [x], i, a, b, _, _, h => by simp at h
  | x :: y :: l, 0, a, b, hf, h1, h2 => by cases h1; cases h2; exact hf.1
  | x :: y :: l, i + 1, a, b, hf, h1, h2 => far_get (y :: l) i a b hf.2 h1 h2
/-- What the law asks of neighbours. -/
def nbB (a b : RV) : Bool := decide (b.s < a.s + a.p) || (a.s + a.p == b.s && a.r == b.r && a.f == b.f && a.i == b.i && a.f / 2 % 2 == 0 && (decide (a.i < 0) || a.x + a.p == b.x))
theorem nb_no {l : List RV} (hl : okl l) (hf : far l) {i : Nat} {a b : RV} (h1 : l[i]? = some a) (h2 : l[i + 1]? = some b) : nbB a b = false := by
  have ha := hl.c a (List.mem_of_getElem? h1)
  have hb := hl.c b (List.mem_of_getElem? h2)
  have hs := sorted_get hl h1 h2 (by omega)
  have hm := far_get l i a b hf h1 h2
  rw [← Bool.not_eq_true] at hm ⊢
  rw [mrg_iff ha hb] at hm
  intro h
  apply hm
  simp only [nbB, Bool.or_eq_true, Bool.and_eq_true, decide_eq_true_eq, beq_iff_eq] at h
  have bx := chkV_bd ha
  rcases h with h | ⟨⟨⟨⟨⟨g1, g2⟩, g3⟩, g4⟩, g5⟩, g6⟩
  · omega
  · exact ⟨g1, by omega, g2, g3, g4, by omega⟩
def runT (l : List OV) (i : Nat) : PT := (l.take i).foldl (fun p o => (doT p o).1) .E
theorem runT_step {l : List OV} {i : Nat} {o : OV} (h : l[i]? = some o) : runT l (i + 1) = (doT (runT l i) o).1 := by
  unfold runT
  rw [take_snoc h, List.foldl_append]
  rfl
theorem runT_asp (l : List OV) : ∀ i, ASP (runT l i)
  | 0 => by simpa [runT] using ASP.E
  | i + 1 => by
    cases h : l[i]? with
    | some o => rw [runT_step h]; exact doT_asp (runT_asp l i) o
    | none =>
      have h1 := List.getElem?_eq_none_iff.1 h
      have : runT l (i + 1) = runT l i := by unfold runT; rw [List.take_of_length_le (by omega), List.take_of_length_le h1]
      rw [this]; exact runT_asp l i
theorem ows_get (l : List OV) (i : Nat) (h : i < l.length) : (ows l)[i]? = some l[i].row := by simp [ows, h]
theorem ows_len (l : List OV) : (ows l).length = l.length := by simp [ows]

attribute [local irreducible] Wp WL WO fin finB rnd Exit.then Exit.inBlock G GD LT Rd Fn FnB FvB Iter
attribute [local go_sem] RV.row TD.row OV.row
def cnI (l : List OV) (i : Nat) : List (Nat × AV) × Bs := ([(4, .d (.s (.int .i64 (i : Int)))), (0, .d (.l (ows l))), (3, .p 0 0)], [(0, some (26, (runT l i).td.row.map .d))])
def cmI (l : List OV) (i : Nat) (p : PT) (k : Nat) : List (Nat × AV) × Bs := ([(6, .d (.s (.int .i64 (k : Int)))), (5, .d (.l (rws p.flat))), (4, .d (.s (.int .i64 (i : Int)))), (0, .d (.l (ows l))), (3, .p 0 0)], [(0, some (26, p.td.row.map .d))])
set_option maxRecDepth 100000 in
set_option maxHeartbeats 1000000 in
theorem law_canonical (l : List OV) : Fn Try.prog 8 [.l (ows l)] (· = .s (.bool true)) := by
  have hlen : ((ows l).length : Int) = l.length := by rw [ows_len]
  by_cases h30 : 30 < l.length
  · have hb : decide (30 < ((ows l).length : Int)) = true := by rw [decide_eq_true_eq]; omega
    refine Fn.of Try.func8 Try.ntmps8 rfl (by kernel_rfl) (fun w o => ?_)
    (repeat (first | refine G.cW (awake_F) ?_ | refine G.cgW (awake_F) ?_ | refine GD.cW (awake_F) ?_ | refine GD.cgW (awake_F) ?_ | ((repeat (revert hK; revert K)); refine wk ?_; repeat intro K hK) | refine wkg ?_))
    refine G.fin1 (by first | exact rvOk.tmp | exact rvOk.cellS | exact rvOk.cell1 | fail) rfl ?_
    rfl
  · have hb : decide (30 < ((ows l).length : Int)) = false := by rw [decide_eq_false_iff_not]; omega
    refine Fn.of Try.func8 Try.ntmps8 rfl (by kernel_rfl) (fun w o => ?_)
    (repeat (first | ((repeat (revert hK; revert K)); refine wk ?_; repeat intro K hK) | refine wkg ?_))
    refine G.leB 0 PT.E.td.row le_EL ?_
    refine G.loop (cnI l) (fun i => i ≤ l.length) (fun i => l.length - i) ?_ ?_
    · exact G.at 0 [(0, 0)] (Nat.zero_le _) (by repeat (first | exact trivial | refine ⟨⟨rfl, rfl⟩, ?_⟩)) (by repeat (first | exact trivial | refine ⟨⟨rfl, rfl, rfl⟩, ?_⟩ | refine ⟨⟨rfl, by rw [renL_d]; rfl, kbL_d _ _⟩, ?_⟩ | refine ⟨rfl, ?_⟩)) (by decide)
    · intro i hi
      dsimp only [cnI]
      by_cases h : i < l.length
      · have hr := ows_get l i h
        have hd := do_P (runT_asp l i) l[i]
        have hst := runT_step (List.getElem?_eq_getElem h)
        have hp := runT_asp l (i + 1)
        have hsum : ∀ q, (doT (runT l i) l[i]).1 = q → cnI l (i + 1) = ([(4, .d (.s (.int .i64 ((i + 1 : Nat) : Int)))), (0, .d (.l (ows l))), (3, .p 0 0)], [(0, some (26, q.td.row.map .d))]) := fun q hq => by
          unfold cnI; rw [hst, hq]
        rw [hst] at hp
        unfold resD at hd
        generalize runT l i = p0 at *
        generalize doT p0 l[i] = z at *
        obtain ⟨q, e⟩ := z
        dsimp only at hd hp
        have hs2 := hsum q rfl
        have hfw := few_P hp
        have hli := rlist_P hp.g
        have hc1 := acheck_P hp
        have hc2 := rcheck_P hp.g
        have hct := count_P hp
        have h12 := hp.n
        have hql : ((rws q.flat).length : Int) = q.flat.length := by rw [rws_len]
        have hb12 : decide (12 < ((rws q.flat).length : Int)) = false := by rw [decide_eq_false_iff_not]; omega
        have hbc : ((q.flat.length : Int) != ((rws q.flat).length : Int)) = false := by simp [rws_len]
        (repeat (first | refine G.cW (hd) ?_ | refine G.cgW (hd) ?_ | refine GD.cW (hd) ?_ | refine GD.cgW (hd) ?_ | refine G.cW (hfw) ?_ | refine G.cgW (hfw) ?_ | refine GD.cW (hfw) ?_ | refine GD.cgW (hfw) ?_ | refine G.cW (hli) ?_ | refine G.cgW (hli) ?_ | refine GD.cW (hli) ?_ | refine GD.cgW (hli) ?_ | refine G.cW (hc1) ?_ | refine G.cgW (hc1) ?_ | refine GD.cW (hc1) ?_ | refine GD.cgW (hc1) ?_ | refine G.cW (hc2) ?_ | refine G.cgW (hc2) ?_ | refine GD.cW (hc2) ?_ | refine GD.cgW (hc2) ?_ | refine G.cW (hct) ?_ | refine G.cgW (hct) ?_ | refine GD.cW (hct) ?_ | refine GD.cgW (hct) ?_ | (show G _ _ _ _ (WL _ _ _ _ (⟨some _, .indexAddr _ _ _, _, _, _, none⟩ :: _)); refine G.w1 ?_ (by first | exact LT.rd (Rd.ixv i (hr)) rfl | fail)) | (show G _ _ _ _ (WL _ _ _ _ (⟨some _, .indexAddr _ _ _, _, _, _, some _⟩ :: _)); refine G.gC ?_ (by first | (refine gi ?_; intros; exact LT.rd (Rd.ixv i (hr)) rfl) | fail) rfl rfl) | (show GD _ _ _ _ _ _ _ _ _ _ (⟨some _, .indexAddr _ _ _, _, _, _, none⟩ :: _); refine GD.w1 ?_ (by first | exact LT.rd (Rd.ixv i (hr)) rfl | fail)) | (show GD _ _ _ _ _ _ _ _ _ _ (⟨some _, .indexAddr _ _ _, _, _, _, some _⟩ :: _); refine GD.gC ?_ (by first | (refine gi ?_; intros; exact LT.rd (Rd.ixv i (hr)) rfl) | fail) rfl rfl) | ((repeat (revert hK; revert K)); refine wk ?_; repeat intro K hK) | refine wkg ?_))
        refine G.loop (cmI l i q) (fun k => k ≤ q.flat.length) (fun k => q.flat.length - k) ?_ ?_
        · exact G.at 0 [(0, 0)] (Nat.zero_le _) (by repeat (first | exact trivial | refine ⟨⟨rfl, rfl⟩, ?_⟩)) (by repeat (first | exact trivial | refine ⟨⟨rfl, rfl, rfl⟩, ?_⟩ | refine ⟨⟨rfl, by rw [renL_d]; rfl, kbL_d _ _⟩, ?_⟩ | refine ⟨rfl, ?_⟩)) (by decide)
        · intro k hk
          dsimp only [cmI]
          by_cases h2 : k + 1 < q.flat.length
          · have r1 := rws_get q.flat k (by omega)
            have r2 := rws_get q.flat (k + 1) h2
            have g1 : q.flat[k]? = some q.flat[k] := List.getElem?_eq_getElem (by omega)
            have g2 : q.flat[k + 1]? = some q.flat[k + 1] := List.getElem?_eq_getElem h2
            have hnb := nb_no hp.l hp.f g1 g2
            have b1 := chkV_bd (hp.l.c _ (List.mem_of_getElem? g1))
            have b2 := chkV_bd (hp.l.c _ (List.mem_of_getElem? g2))
            generalize q.flat[k] = a at *
            generalize q.flat[k + 1] = b at *
            unfold nbB at hnb
            have hb1 : decide ((k : Int) + 1 < ((rws q.flat).length : Int)) = true := by rw [decide_eq_true_eq]; omega
            (repeat (first | (show G _ _ _ _ (WL _ _ _ _ (⟨some _, .indexAddr _ _ _, _, _, _, none⟩ :: _)); refine G.w1 ?_ (by first | exact LT.rd (Rd.ixv k (r1)) rfl | fail)) | (show G _ _ _ _ (WL _ _ _ _ (⟨some _, .indexAddr _ _ _, _, _, _, some _⟩ :: _)); refine G.gC ?_ (by first | (refine gi ?_; intros; exact LT.rd (Rd.ixv k (r1)) rfl) | fail) rfl rfl) | (show GD _ _ _ _ _ _ _ _ _ _ (⟨some _, .indexAddr _ _ _, _, _, _, none⟩ :: _); refine GD.w1 ?_ (by first | exact LT.rd (Rd.ixv k (r1)) rfl | fail)) | (show GD _ _ _ _ _ _ _ _ _ _ (⟨some _, .indexAddr _ _ _, _, _, _, some _⟩ :: _); refine GD.gC ?_ (by first | (refine gi ?_; intros; exact LT.rd (Rd.ixv k (r1)) rfl) | fail) rfl rfl) | (show G _ _ _ _ (WL _ _ _ _ (⟨some _, .indexAddr _ _ _, _, _, _, none⟩ :: _)); refine G.w1 ?_ (by first | exact LT.rd (Rd.ixv (k + 1) (r2)) rfl | fail)) | (show G _ _ _ _ (WL _ _ _ _ (⟨some _, .indexAddr _ _ _, _, _, _, some _⟩ :: _)); refine G.gC ?_ (by first | (refine gi ?_; intros; exact LT.rd (Rd.ixv (k + 1) (r2)) rfl) | fail) rfl rfl) | (show GD _ _ _ _ _ _ _ _ _ _ (⟨some _, .indexAddr _ _ _, _, _, _, none⟩ :: _); refine GD.w1 ?_ (by first | exact LT.rd (Rd.ixv (k + 1) (r2)) rfl | fail)) | (show GD _ _ _ _ _ _ _ _ _ _ (⟨some _, .indexAddr _ _ _, _, _, _, some _⟩ :: _); refine GD.gC ?_ (by first | (refine gi ?_; intros; exact LT.rd (Rd.ixv (k + 1) (r2)) rfl) | fail) rfl rfl) | ((repeat (revert hK; revert K)); refine wk ?_; repeat intro K hK) | refine wkg ?_))
            refine G.at (k + 1) [(0, 0)] ⟨by omega, by omega⟩ (by repeat (first | exact trivial | refine ⟨⟨rfl, rfl⟩, ?_⟩)) (by repeat (first | exact trivial | refine ⟨⟨rfl, rfl, rfl⟩, ?_⟩ | refine ⟨⟨rfl, by rw [renL_d]; rfl, kbL_d _ _⟩, ?_⟩ | refine ⟨rfl, ?_⟩)) (by decide)
          · have hb1 : decide ((k : Int) + 1 < ((rws q.flat).length : Int)) = false := by rw [decide_eq_false_iff_not]; omega
            (repeat (first | ((repeat (revert hK; revert K)); refine wk ?_; repeat intro K hK) | refine wkg ?_))
            refine G.at (i + 1) [(0, 0)] ⟨by omega, by omega⟩ ?_ ?_ (by decide)
            · rw [hs2]; exact (by repeat (first | exact trivial | refine ⟨⟨rfl, rfl⟩, ?_⟩))
            · rw [hs2]; exact (by repeat (first | exact trivial | refine ⟨⟨rfl, rfl, rfl⟩, ?_⟩ | refine ⟨⟨rfl, by rw [renL_d]; rfl, kbL_d _ _⟩, ?_⟩ | refine ⟨rfl, ?_⟩))
      · (repeat (first | refine G.cW (awake_F) ?_ | refine G.cgW (awake_F) ?_ | refine GD.cW (awake_F) ?_ | refine GD.cgW (awake_F) ?_ | ((repeat (revert hK; revert K)); refine wk ?_; repeat intro K hK) | refine wkg ?_))
        refine G.fin1 (by first | exact rvOk.tmp | exact rvOk.cellS | exact rvOk.cell1 | fail) rfl ?_
        rfl

end Go.Proofs.Ytjdpignfdncebaa
