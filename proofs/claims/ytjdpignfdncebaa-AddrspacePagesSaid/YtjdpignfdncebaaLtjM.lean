/- The law AddrspacePages as a contract. -/
import Derived.Test.YtjdpignfdncebaaVwM
import Derived.Test.YtjdpignfdncebaaLthM
set_option linter.unusedSimpArgs false
set_option linter.unusedVariables false
namespace Go.Proofs.Ytjdpignfdncebaa
open Go.RowKit

theorem seen_c {p : PT} (hp : ASP p) (q : Int) : 0 ≤ bits .andNot .i64 (seenV p.flat q).c 4 ∧ bits .andNot .i64 (seenV p.flat q).c 4 ≤ 15 := by
  have key : ∀ n : Fin 16, 0 ≤ bits .andNot .i64 (bits .andNot .i64 (n.1 : Int) 2) 4 ∧ bits .andNot .i64 (bits .andNot .i64 (n.1 : Int) 2) 4 ≤ 15 := by decide
  rcases seen_cases hp.l q with ⟨x, hx, _, e⟩ | ⟨_, e⟩
  · have bx := chkV_bd (hp.l.c x hx)
    obtain ⟨m, hm⟩ := nat16 bx.2.2.2.2.1 bx.2.2.2.2.2.1
    rw [e]
    unfold seenR
    rw [hm]
    exact key m
  · rw [e]
    exact key 0
theorem eq5_self (s : S5) : eq5 s s = true := (eq5_iff s s).2 rfl

attribute [local irreducible] Wp WL WO fin finB rnd Exit.then Exit.inBlock G GD LT Rd Fn FnB FvB Iter
attribute [local go_sem] RV.row TD.row OV.row S5.row
def pgI (l : List OV) (i : Nat) : List (Nat × AV) × Bs := ([(4, .d (.s (.int .i64 (i : Int)))), (0, .d (.l (ows l))), (3, .p 0 0)], [(0, some (26, (runT l i).td.row.map .d))])
def pjI (l : List OV) (i : Nat) (p q : PT) (e : Int) (k : Nat) : List (Nat × AV) × Bs := ([(7, .d (.s (.int .i64 (k : Int)))), (6, .d (.s (.int .i64 e))), (5, .p 1 0), (4, .d (.s (.int .i64 (i : Int)))), (0, .d (.l (ows l))), (3, .p 0 0)], [(0, some (26, p.td.row.map .d)), (1, some (26, q.td.row.map .d))])
set_option maxRecDepth 100000 in
set_option maxHeartbeats 1000000 in
theorem law_pages (l : List OV) : Fn Try.prog 12 [.l (ows l)] (· = .s (.bool true)) := by
  have hlen : ((ows l).length : Int) = l.length := by rw [ows_len]
  by_cases h20 : 20 < l.length
  · have hb : decide (20 < ((ows l).length : Int)) = true := by rw [decide_eq_true_eq]; omega
    refine Fn.of Try.func12 Try.ntmps12 rfl (by kernel_rfl) (fun w o => ?_)
    (repeat (first | refine G.cW (awake_F) ?_ | refine G.cgW (awake_F) ?_ | refine GD.cW (awake_F) ?_ | refine GD.cgW (awake_F) ?_ | ((repeat (revert hK; revert K)); refine wk ?_; repeat intro K hK) | refine wkg ?_))
    refine G.fin1 (by first | exact rvOk.tmp | exact rvOk.cellS | exact rvOk.cell1 | fail) rfl ?_
    rfl
  · have hb : decide (20 < ((ows l).length : Int)) = false := by rw [decide_eq_false_iff_not]; omega
    refine Fn.of Try.func12 Try.ntmps12 rfl (by kernel_rfl) (fun w o => ?_)
    (repeat (first | ((repeat (revert hK; revert K)); refine wk ?_; repeat intro K hK) | refine wkg ?_))
    refine G.leB 0 PT.E.td.row le_EL ?_
    refine G.loop (pgI l) (fun i => i ≤ l.length) (fun i => l.length - i) ?_ ?_
    · exact G.at 0 [(0, 0)] (Nat.zero_le _) (by repeat (first | exact trivial | refine ⟨⟨rfl, rfl⟩, ?_⟩)) (by repeat (first | exact trivial | refine ⟨⟨rfl, rfl, rfl⟩, ?_⟩ | refine ⟨⟨rfl, by rw [renL_d]; rfl, kbL_d _ _⟩, ?_⟩ | refine ⟨rfl, ?_⟩)) (by decide)
    · intro i hi
      dsimp only [pgI]
      by_cases h : i < l.length
      · have hr := ows_get l i h
        have hp := runT_asp l i
        have hd := do_P hp l[i]
        have hst := runT_step (List.getElem?_eq_getElem h)
        have hp2 := runT_asp l (i + 1)
        have hsd := fun (hk : l[i].k ≠ 4) (q : Int) => seen_do hp hk q
        have hak := fun (hk : l[i].k ≠ 4) => ask_ok (p := runT l i) hk
        have hsum : ∀ q, (doT (runT l i) l[i]).1 = q → pgI l (i + 1) = ([(4, .d (.s (.int .i64 ((i + 1 : Nat) : Int)))), (0, .d (.l (ows l))), (3, .p 0 0)], [(0, some (26, q.td.row.map .d))]) := fun q hq => by
          unfold pgI; rw [hst, hq]
        rw [hst] at hp2
        unfold resD at hd
        generalize runT l i = p0 at *
        generalize l[i] = o at *
        generalize doT p0 o = z at *
        obtain ⟨q, e⟩ := z
        dsimp only at hd hp2 hsd hak
        have hs2 := hsum q rfl
        (repeat (first | refine G.cW (hd) ?_ | refine G.cgW (hd) ?_ | refine GD.cW (hd) ?_ | refine GD.cgW (hd) ?_ | (show G _ _ _ _ (WL _ _ _ _ (⟨some _, .indexAddr _ _ _, _, _, _, none⟩ :: _)); refine G.w1 ?_ (by first | exact LT.rd (Rd.ixv i (hr)) rfl | fail)) | (show G _ _ _ _ (WL _ _ _ _ (⟨some _, .indexAddr _ _ _, _, _, _, some _⟩ :: _)); refine G.gC ?_ (by first | (refine gi ?_; intros; exact LT.rd (Rd.ixv i (hr)) rfl) | fail) rfl rfl) | (show GD _ _ _ _ _ _ _ _ _ _ (⟨some _, .indexAddr _ _ _, _, _, _, none⟩ :: _); refine GD.w1 ?_ (by first | exact LT.rd (Rd.ixv i (hr)) rfl | fail)) | (show GD _ _ _ _ _ _ _ _ _ _ (⟨some _, .indexAddr _ _ _, _, _, _, some _⟩ :: _); refine GD.gC ?_ (by first | (refine gi ?_; intros; exact LT.rd (Rd.ixv i (hr)) rfl) | fail) rfl rfl) | ((repeat (revert hK; revert K)); refine wk ?_; repeat intro K hK) | refine wkg ?_))
        refine G.loop (pjI l i p0 q e) (fun k => k ≤ 512) (fun k => 512 - k) ?_ ?_
        · exact G.at 0 [(0, 0), (1, 1)] (Nat.zero_le _) (by repeat (first | exact trivial | refine ⟨⟨rfl, rfl⟩, ?_⟩)) (by repeat (first | exact trivial | refine ⟨⟨rfl, rfl, rfl⟩, ?_⟩ | refine ⟨⟨rfl, by rw [renL_d]; rfl, kbL_d _ _⟩, ?_⟩ | refine ⟨rfl, ?_⟩)) (by decide)
        · intro k hk
          dsimp only [pjI]
          by_cases h2 : k < 512 ∧ o.k ≠ 4
          · have hb1 : (decide ((k : Int) < 512) && o.k != 4) = true := by simp; omega
            have sn := seen_P hp (k : Int)
            have sx := seen_P hp2 (k : Int)
            have hc := seen_c hp (k : Int)
            have hsd := hsd h2.2 (k : Int)
            rw [hsd] at sx
            by_cases he : e = 0
            · have hbe : (e == 0) = true := by simpa using he
              rw [if_pos he] at sx
              have hw : Fn Try.prog 39 [.st (seenV p0.flat k).row, .st o.row, .s (.int .i64 k)] (· = .st (wantV (seenV p0.flat k) o k).row) := by
                rcases hak h2.2 he with ⟨a1, a2⟩ | ⟨a1, a2⟩
                · exact wanted_0 _ o k a1 a2 (by omega)
                · have := rngV_ok a2
                  exact wanted_1 _ o k a1 (by omega) (by omega) hc
              generalize wantV (seenV p0.flat k) o k = s2 at *
              generalize seenV p0.flat k = s1 at *
              have hq5 := eq5_self s2
              (repeat (first | refine G.cW (sn) ?_ | refine G.cgW (sn) ?_ | refine GD.cW (sn) ?_ | refine GD.cgW (sn) ?_ | refine G.cW (sx) ?_ | refine G.cgW (sx) ?_ | refine GD.cW (sx) ?_ | refine GD.cgW (sx) ?_ | refine G.cW (hw) ?_ | refine G.cgW (hw) ?_ | refine GD.cW (hw) ?_ | refine GD.cgW (hw) ?_ | (show G _ _ _ _ (WL _ _ _ _ (⟨some _, .build _ _, _, _, _, none⟩ :: _)); refine G.w1 ?_ (by first | exact LT.arB | fail)) | (show G _ _ _ _ (WL _ _ _ _ (⟨some _, .build _ _, _, _, _, some _⟩ :: _)); refine G.gC ?_ (by first | (refine gi ?_; intros; exact LT.arB) | fail) rfl rfl) | (show GD _ _ _ _ _ _ _ _ _ _ (⟨some _, .build _ _, _, _, _, none⟩ :: _); refine GD.w1 ?_ (by first | exact LT.arB | fail)) | (show GD _ _ _ _ _ _ _ _ _ _ (⟨some _, .build _ _, _, _, _, some _⟩ :: _); refine GD.gC ?_ (by first | (refine gi ?_; intros; exact LT.arB) | fail) rfl rfl) | (show G _ _ _ _ (WL _ _ _ _ (⟨some _, .indexAddr _ _ _, _, _, _, none⟩ :: _)); refine G.w1 ?_ (by first | exact LT.arI | fail)) | (show G _ _ _ _ (WL _ _ _ _ (⟨some _, .indexAddr _ _ _, _, _, _, some _⟩ :: _)); refine G.gC ?_ (by first | (refine gi ?_; intros; exact LT.arI) | fail) rfl rfl) | (show GD _ _ _ _ _ _ _ _ _ _ (⟨some _, .indexAddr _ _ _, _, _, _, none⟩ :: _); refine GD.w1 ?_ (by first | exact LT.arI | fail)) | (show GD _ _ _ _ _ _ _ _ _ _ (⟨some _, .indexAddr _ _ _, _, _, _, some _⟩ :: _); refine GD.gC ?_ (by first | (refine gi ?_; intros; exact LT.arI) | fail) rfl rfl) | (show G _ _ _ _ (WL _ _ _ _ (⟨some _, .index _ _ _, _, _, _, none⟩ :: _)); refine G.w1 ?_ (by first | exact LT.arE | fail)) | (show G _ _ _ _ (WL _ _ _ _ (⟨some _, .index _ _ _, _, _, _, some _⟩ :: _)); refine G.gC ?_ (by first | (refine gi ?_; intros; exact LT.arE) | fail) rfl rfl) | (show GD _ _ _ _ _ _ _ _ _ _ (⟨some _, .index _ _ _, _, _, _, none⟩ :: _); refine GD.w1 ?_ (by first | exact LT.arE | fail)) | (show GD _ _ _ _ _ _ _ _ _ _ (⟨some _, .index _ _ _, _, _, _, some _⟩ :: _); refine GD.gC ?_ (by first | (refine gi ?_; intros; exact LT.arE) | fail) rfl rfl) | (show G _ _ _ _ (WL _ _ _ _ (⟨some _, .indexAddr _ _ _, _, _, _, none⟩ :: _)); refine G.w1 ?_ (by first | exact LT.rd (Rd.ixv i (hr)) rfl | fail)) | (show G _ _ _ _ (WL _ _ _ _ (⟨some _, .indexAddr _ _ _, _, _, _, some _⟩ :: _)); refine G.gC ?_ (by first | (refine gi ?_; intros; exact LT.rd (Rd.ixv i (hr)) rfl) | fail) rfl rfl) | (show GD _ _ _ _ _ _ _ _ _ _ (⟨some _, .indexAddr _ _ _, _, _, _, none⟩ :: _); refine GD.w1 ?_ (by first | exact LT.rd (Rd.ixv i (hr)) rfl | fail)) | (show GD _ _ _ _ _ _ _ _ _ _ (⟨some _, .indexAddr _ _ _, _, _, _, some _⟩ :: _); refine GD.gC ?_ (by first | (refine gi ?_; intros; exact LT.rd (Rd.ixv i (hr)) rfl) | fail) rfl rfl) | (show G _ _ _ _ (WL _ _ _ _ (⟨some _, .binOp .neq _ _ _ _, _, _, _, none⟩ :: _)); refine G.w1 ?_ (by first | exact LT.neA (s2) (s2) | fail)) | (show G _ _ _ _ (WL _ _ _ _ (⟨some _, .binOp .neq _ _ _ _, _, _, _, some _⟩ :: _)); refine G.gC ?_ (by first | (refine gi ?_; intros; exact LT.neA (s2) (s2)) | fail) rfl rfl) | (show GD _ _ _ _ _ _ _ _ _ _ (⟨some _, .binOp .neq _ _ _ _, _, _, _, none⟩ :: _); refine GD.w1 ?_ (by first | exact LT.neA (s2) (s2) | fail)) | (show GD _ _ _ _ _ _ _ _ _ _ (⟨some _, .binOp .neq _ _ _ _, _, _, _, some _⟩ :: _); refine GD.gC ?_ (by first | (refine gi ?_; intros; exact LT.neA (s2) (s2)) | fail) rfl rfl) | ((repeat (revert hK; revert K)); refine wk ?_; repeat intro K hK) | refine wkg ?_))
              refine G.at (k + 1) [(0, 0), (1, 1)] ⟨by omega, by omega⟩ (by repeat (first | exact trivial | refine ⟨⟨rfl, rfl⟩, ?_⟩)) (by repeat (first | exact trivial | refine ⟨⟨rfl, rfl, rfl⟩, ?_⟩ | refine ⟨⟨rfl, by rw [renL_d]; rfl, kbL_d _ _⟩, ?_⟩ | refine ⟨rfl, ?_⟩)) (by decide)
            · have hbe : (e == 0) = false := by simpa using he
              rw [if_neg he] at sx
              generalize seenV p0.flat k = s1 at *
              have hq5 := eq5_self s1
              (repeat (first | refine G.cW (sn) ?_ | refine G.cgW (sn) ?_ | refine GD.cW (sn) ?_ | refine GD.cgW (sn) ?_ | refine G.cW (sx) ?_ | refine G.cgW (sx) ?_ | refine GD.cW (sx) ?_ | refine GD.cgW (sx) ?_ | (show G _ _ _ _ (WL _ _ _ _ (⟨some _, .build _ _, _, _, _, none⟩ :: _)); refine G.w1 ?_ (by first | exact LT.arB | fail)) | (show G _ _ _ _ (WL _ _ _ _ (⟨some _, .build _ _, _, _, _, some _⟩ :: _)); refine G.gC ?_ (by first | (refine gi ?_; intros; exact LT.arB) | fail) rfl rfl) | (show GD _ _ _ _ _ _ _ _ _ _ (⟨some _, .build _ _, _, _, _, none⟩ :: _); refine GD.w1 ?_ (by first | exact LT.arB | fail)) | (show GD _ _ _ _ _ _ _ _ _ _ (⟨some _, .build _ _, _, _, _, some _⟩ :: _); refine GD.gC ?_ (by first | (refine gi ?_; intros; exact LT.arB) | fail) rfl rfl) | (show G _ _ _ _ (WL _ _ _ _ (⟨some _, .indexAddr _ _ _, _, _, _, none⟩ :: _)); refine G.w1 ?_ (by first | exact LT.arI | fail)) | (show G _ _ _ _ (WL _ _ _ _ (⟨some _, .indexAddr _ _ _, _, _, _, some _⟩ :: _)); refine G.gC ?_ (by first | (refine gi ?_; intros; exact LT.arI) | fail) rfl rfl) | (show GD _ _ _ _ _ _ _ _ _ _ (⟨some _, .indexAddr _ _ _, _, _, _, none⟩ :: _); refine GD.w1 ?_ (by first | exact LT.arI | fail)) | (show GD _ _ _ _ _ _ _ _ _ _ (⟨some _, .indexAddr _ _ _, _, _, _, some _⟩ :: _); refine GD.gC ?_ (by first | (refine gi ?_; intros; exact LT.arI) | fail) rfl rfl) | (show G _ _ _ _ (WL _ _ _ _ (⟨some _, .index _ _ _, _, _, _, none⟩ :: _)); refine G.w1 ?_ (by first | exact LT.arE | fail)) | (show G _ _ _ _ (WL _ _ _ _ (⟨some _, .index _ _ _, _, _, _, some _⟩ :: _)); refine G.gC ?_ (by first | (refine gi ?_; intros; exact LT.arE) | fail) rfl rfl) | (show GD _ _ _ _ _ _ _ _ _ _ (⟨some _, .index _ _ _, _, _, _, none⟩ :: _); refine GD.w1 ?_ (by first | exact LT.arE | fail)) | (show GD _ _ _ _ _ _ _ _ _ _ (⟨some _, .index _ _ _, _, _, _, some _⟩ :: _); refine GD.gC ?_ (by first | (refine gi ?_; intros; exact LT.arE) | fail) rfl rfl) | (show G _ _ _ _ (WL _ _ _ _ (⟨some _, .indexAddr _ _ _, _, _, _, none⟩ :: _)); refine G.w1 ?_ (by first | exact LT.rd (Rd.ixv i (hr)) rfl | fail)) | (show G _ _ _ _ (WL _ _ _ _ (⟨some _, .indexAddr _ _ _, _, _, _, some _⟩ :: _)); refine G.gC ?_ (by first | (refine gi ?_; intros; exact LT.rd (Rd.ixv i (hr)) rfl) | fail) rfl rfl) | (show GD _ _ _ _ _ _ _ _ _ _ (⟨some _, .indexAddr _ _ _, _, _, _, none⟩ :: _); refine GD.w1 ?_ (by first | exact LT.rd (Rd.ixv i (hr)) rfl | fail)) | (show GD _ _ _ _ _ _ _ _ _ _ (⟨some _, .indexAddr _ _ _, _, _, _, some _⟩ :: _); refine GD.gC ?_ (by first | (refine gi ?_; intros; exact LT.rd (Rd.ixv i (hr)) rfl) | fail) rfl rfl) | (show G _ _ _ _ (WL _ _ _ _ (⟨some _, .binOp .neq _ _ _ _, _, _, _, none⟩ :: _)); refine G.w1 ?_ (by first | exact LT.neA (s1) (s1) | fail)) | (show G _ _ _ _ (WL _ _ _ _ (⟨some _, .binOp .neq _ _ _ _, _, _, _, some _⟩ :: _)); refine G.gC ?_ (by first | (refine gi ?_; intros; exact LT.neA (s1) (s1)) | fail) rfl rfl) | (show GD _ _ _ _ _ _ _ _ _ _ (⟨some _, .binOp .neq _ _ _ _, _, _, _, none⟩ :: _); refine GD.w1 ?_ (by first | exact LT.neA (s1) (s1) | fail)) | (show GD _ _ _ _ _ _ _ _ _ _ (⟨some _, .binOp .neq _ _ _ _, _, _, _, some _⟩ :: _); refine GD.gC ?_ (by first | (refine gi ?_; intros; exact LT.neA (s1) (s1)) | fail) rfl rfl) | ((repeat (revert hK; revert K)); refine wk ?_; repeat intro K hK) | refine wkg ?_))
              refine G.at (k + 1) [(0, 0), (1, 1)] ⟨by omega, by omega⟩ (by repeat (first | exact trivial | refine ⟨⟨rfl, rfl⟩, ?_⟩)) (by repeat (first | exact trivial | refine ⟨⟨rfl, rfl, rfl⟩, ?_⟩ | refine ⟨⟨rfl, by rw [renL_d]; rfl, kbL_d _ _⟩, ?_⟩ | refine ⟨rfl, ?_⟩)) (by decide)
          · have hb1 : (decide ((k : Int) < 512) && o.k != 4) = false := by simp; omega
            (repeat (first | (show G _ _ _ _ (WL _ _ _ _ (⟨some _, .indexAddr _ _ _, _, _, _, none⟩ :: _)); refine G.w1 ?_ (by first | exact LT.rd (Rd.ixv i (hr)) rfl | fail)) | (show G _ _ _ _ (WL _ _ _ _ (⟨some _, .indexAddr _ _ _, _, _, _, some _⟩ :: _)); refine G.gC ?_ (by first | (refine gi ?_; intros; exact LT.rd (Rd.ixv i (hr)) rfl) | fail) rfl rfl) | (show GD _ _ _ _ _ _ _ _ _ _ (⟨some _, .indexAddr _ _ _, _, _, _, none⟩ :: _); refine GD.w1 ?_ (by first | exact LT.rd (Rd.ixv i (hr)) rfl | fail)) | (show GD _ _ _ _ _ _ _ _ _ _ (⟨some _, .indexAddr _ _ _, _, _, _, some _⟩ :: _); refine GD.gC ?_ (by first | (refine gi ?_; intros; exact LT.rd (Rd.ixv i (hr)) rfl) | fail) rfl rfl) | ((repeat (revert hK; revert K)); refine wk ?_; repeat intro K hK) | refine wkg ?_))
            refine G.at (i + 1) [(0, 0)] ⟨by omega, by omega⟩ ?_ ?_ (by decide)
            · rw [hs2]; exact (by repeat (first | exact trivial | refine ⟨⟨rfl, rfl⟩, ?_⟩))
            · rw [hs2]; exact (by repeat (first | exact trivial | refine ⟨⟨rfl, rfl, rfl⟩, ?_⟩ | refine ⟨⟨rfl, by rw [renL_d]; rfl, kbL_d _ _⟩, ?_⟩ | refine ⟨rfl, ?_⟩))
      · (repeat (first | refine G.cW (awake_F) ?_ | refine G.cgW (awake_F) ?_ | refine GD.cW (awake_F) ?_ | refine GD.cgW (awake_F) ?_ | ((repeat (revert hK; revert K)); refine wk ?_; repeat intro K hK) | refine wkg ?_))
        refine G.fin1 (by first | exact rvOk.tmp | exact rvOk.cellS | exact rvOk.cell1 | fail) rfl ?_
        rfl

end Go.Proofs.Ytjdpignfdncebaa
