/- Address spaces, the reference's side: change. -/
import Derived.Test.YtjdpignfdncebaaVnM
import Derived.Test.YtjdpignfdncebaaQp
set_option linter.unusedSimpArgs false
set_option linter.unusedVariables false
namespace Go.Proofs.Ytjdpignfdncebaa
open Go.RowKit

theorem cat_len3 (f : RV → List RV) (hf : ∀ x, (f x).length ≤ 3) : ∀ l : List RV, (cat f l).length ≤ 3 * l.length
  | [] => Nat.zero_le _
  | x :: l => by
    have := hf x
    have := cat_len3 f hf l
    show (f x ++ cat f l).length ≤ _
    simp only [List.length_append, List.length_cons]
    omega
theorem chgL_len (oth : RV → Bool) (tr : RV → RV) (g c : Int) (x : RV) : (chgL oth tr g c x).length ≤ 3 := by
  unfold chgL
  split
  · simp
  · rw [List.length_map]; exact divP_len x g c
theorem flag4n : ∀ n : Fin 16, (bits .andNot .i64 (n.1 : Int) 2 / 4 % 2 == 1) = ((n.1 : Int) / 4 % 2 == 1) := by decide
/-- What the reference leaves alone. -/
def skR (x : RV) (g c n : Int) (on : Bool) : Bool := decide (x.s + x.p ≤ g) || decide (g + c ≤ x.s) || (decide (0 < n) && x.r == n) || (n == 0 && (x.f / 4 % 2 == 1) == on)

attribute [local irreducible] Wp WL WO fin finB rnd Exit.then Exit.inBlock G GD LT Rd Fn FnB FvB Iter
attribute [local go_sem] RV.row TD.row
def rhI (l : List RV) (g c n : Int) (on : Bool) (F : RV → List RV) (i : Nat) : List (Nat × AV) × Bs := ([(10, .d (.s (.int .i64 (i : Int)))), (9, .o 0 (rws (cat F (l.take i))).length), (0, .d (.l (rws l))), (2, .d (.s (.int .i64 n))), (3, .d (.s (.bool on))), (5, .p 1 0)], [(0, some (23, (rws (cat F (l.take i))).flatten.map .d)), (1, some (42, [.d (.s (.int .i64 g)), .d (.s (.int .i64 c))]))])
set_option maxHeartbeats 1000000 in
theorem rchange_F {l : List RV} (hl : okl l) (h12 : l.length ≤ 12) {g c n : Int} {on : Bool} (hb : 0 ≤ g ∧ g ≤ 512 ∧ 1 ≤ c ∧ c ≤ 512) (hn0 : 0 ≤ n) (oth : RV → Bool) (tr : RV → RV)
    (hsk : ∀ x, chkV x = 0 → skR x g c n on = skipB x g c oth)
    (h1 : 0 < n → tr = prT n)
    (h2 : n = 0 → ∀ x y, chkV x = 0 → chkV y = 0 → (y.f = x.f ∨ y.f = bits .andNot .i64 x.f 2) → oth x = true → tr y = { y with f := if on then y.f + 4 else y.f - 4 }) :
    Fn Try.prog 71 [.l (rws l), .st [.s (.int .i64 g), .s (.int .i64 c)], .s (.int .i64 n), .s (.bool on)] (· = .l (rws (cat (chgL oth tr g c) l))) := by
  have hlen : ((rws l).length : Int) = l.length := by rw [rws_len]
  refine Fn.of Try.func71 Try.ntmps71 rfl (by kernel_rfl) (fun w o => ?_)
  (repeat (first | ((repeat (revert hK; revert K)); refine wk ?_; repeat intro K hK) | refine wkg ?_))
  refine G.nilRow 9 23 ?_
  refine G.loop (rhI l g c n on (chgL oth tr g c)) (fun i => i ≤ l.length) (fun i => l.length - i) ?_ ?_
  · exact G.at 0 [(0, 1), (1, 0)] (Nat.zero_le _) (by repeat (first | exact trivial | refine ⟨⟨rfl, rfl⟩, ?_⟩)) (by repeat (first | exact trivial | refine ⟨⟨rfl, rfl, rfl⟩, ?_⟩ | refine ⟨⟨rfl, by rw [renL_d]; rfl, kbL_d _ _⟩, ?_⟩ | refine ⟨rfl, ?_⟩)) (by decide)
  · intro i hi
    dsimp only [rhI]
    by_cases h : i < l.length
    · have hr := rws_get l i h
      have hx := hl.c _ (List.getElem_mem h)
      have hcl := cat_len3 (chgL oth tr g c) (fun x => chgL_len oth tr g c x) (l.take i)
      have htl : (l.take i).length ≤ 12 := by simp; omega
      have hs : cat (chgL oth tr g c) (l.take (i + 1)) = cat (chgL oth tr g c) (l.take i) ++ chgL oth tr g c l[i] := by
        unfold cat
        rw [take_snoc (List.getElem?_eq_getElem h), List.flatMap_append]
        simp
      have hsum : ∀ k rs, (rws (cat (chgL oth tr g c) (l.take i) ++ chgL oth tr g c l[i])).length = k → rws (cat (chgL oth tr g c) (l.take i) ++ chgL oth tr g c l[i]) = rs → rhI l g c n on (chgL oth tr g c) (i + 1) = ([(10, .d (.s (.int .i64 ((i + 1 : Nat) : Int)))), (9, .o 0 k), (0, .d (.l (rws l))), (2, .d (.s (.int .i64 n))), (3, .d (.s (.bool on))), (5, .p 1 0)], [(0, some (23, rs.flatten.map .d)), (1, some (42, [.d (.s (.int .i64 g)), .d (.s (.int .i64 c))]))]) := fun k rs g1 g2 => by
        unfold rhI; rw [hs, g1, g2]
      have hsk := hsk _ hx
      have h2 := fun e => h2 e l[i]
      generalize cat (chgL oth tr g c) (l.take i) = out at *
      generalize l[i] = x at *
      have bx := chkV_bd hx
      have hol : (rws out).length = out.length := rws_len out
      cases hk : skipB x g c oth with
      | true =>
        have e : chgL oth tr g c x = [x] := by unfold chgL; rw [if_pos hk]
        rw [e] at hsum
        have hs2 := hsum ((rws out).length + 1) (rws out ++ [x.row]) (by simp [rws]) (by simp [rws])
        rw [hk] at hsk
        unfold skR at hsk
        (repeat (first | (show G _ _ _ _ (WL _ _ _ _ (⟨some _, .indexAddr _ _ _, _, _, _, none⟩ :: _)); refine G.w1 ?_ (by first | exact LT.rd (Rd.ixv i (hr)) rfl | fail)) | (show G _ _ _ _ (WL _ _ _ _ (⟨some _, .indexAddr _ _ _, _, _, _, some _⟩ :: _)); refine G.gC ?_ (by first | (refine gi ?_; intros; exact LT.rd (Rd.ixv i (hr)) rfl) | fail) rfl rfl) | (show GD _ _ _ _ _ _ _ _ _ _ (⟨some _, .indexAddr _ _ _, _, _, _, none⟩ :: _); refine GD.w1 ?_ (by first | exact LT.rd (Rd.ixv i (hr)) rfl | fail)) | (show GD _ _ _ _ _ _ _ _ _ _ (⟨some _, .indexAddr _ _ _, _, _, _, some _⟩ :: _); refine GD.gC ?_ (by first | (refine gi ?_; intros; exact LT.rd (Rd.ixv i (hr)) rfl) | fail) rfl rfl) | ((repeat (revert hK; revert K)); refine wk ?_; repeat intro K hK) | refine wkg ?_))
        refine G.at (i + 1) [(0, 4), (1, 1)] ⟨by omega, by omega⟩ ?_ ?_ (by decide)
        · rw [hs2]; exact (by repeat (first | exact trivial | refine ⟨⟨rfl, rfl⟩, ?_⟩))
        · rw [hs2]; exact (by repeat (first | exact trivial | refine ⟨⟨rfl, rfl, rfl⟩, ?_⟩ | refine ⟨⟨rfl, by rw [renL_d]; rfl, kbL_d _ _⟩, ?_⟩ | refine ⟨rfl, ?_⟩))
      | false =>
        have e : chgL oth tr g c x = (divP x g c).map (selT tr) := by unfold chgL; rw [if_neg (by rw [hk]; decide)]; rfl
        rw [e] at hsum
        have hk2 := hk
        unfold skipB at hk2
        rw [endV_ok hx] at hk2
        simp only [Bool.or_eq_false_iff, decide_eq_false_iff_not, Bool.not_eq_false'] at hk2
        rw [hk] at hsk
        unfold skR at hsk
        have hpc := FnB.v0 (pieces_P hx (g := g) (c := c) (by omega) (by omega) (by omega))
        obtain ⟨y, y1, y2, y3, y4⟩ := pcs_at hx (g := g) (c := c) (by omega) (by omega) (by omega)
        have hP : (rws (pcsL x g c)).length = (pcsL x g c).length := rws_len _
        have hQ : ((divP x g c).map (selT tr)).length = (pcsL x g c).length := by simp [pcsL]
        have hd3 := divP_len x g c
        have hP3 : (pcsL x g c).length ≤ 3 := by unfold pcsL; rw [List.length_map]; exact hd3
        have hjl : pcsJ x g < (rws (pcsL x g c)).length := by rw [hP]; exact (List.getElem?_eq_some_iff.1 y1).1
        have hrow : (rws (pcsL x g c))[pcsJ x g]? = some y.row := by simp [rws, y1]
        have y2t := y2 tr
        generalize (divP x g c).map (selT tr) = Q at *
        generalize pcsL x g c = P at *
        generalize pcsJ x g = j at *
        have h63 : ∀ m, (rws out).length = m → m + Q.length ≤ 100000 := fun m hm => by omega
        have hs2 := hsum ((rws out).length + (rws Q).length) (rws out ++ rws Q) (by simp [rws]) (by simp [rws])
        have hQl : (rws P).length = (rws Q).length := by rw [hP, rws_len, hQ]
        (repeat (first | (show G _ _ _ _ (WL _ _ _ _ (⟨some _, .indexAddr _ _ _, _, _, _, none⟩ :: _)); refine G.w1 ?_ (by first | exact LT.rd (Rd.ixv i (hr)) rfl | fail)) | (show G _ _ _ _ (WL _ _ _ _ (⟨some _, .indexAddr _ _ _, _, _, _, some _⟩ :: _)); refine G.gC ?_ (by first | (refine gi ?_; intros; exact LT.rd (Rd.ixv i (hr)) rfl) | fail) rfl rfl) | (show GD _ _ _ _ _ _ _ _ _ _ (⟨some _, .indexAddr _ _ _, _, _, _, none⟩ :: _); refine GD.w1 ?_ (by first | exact LT.rd (Rd.ixv i (hr)) rfl | fail)) | (show GD _ _ _ _ _ _ _ _ _ _ (⟨some _, .indexAddr _ _ _, _, _, _, some _⟩ :: _); refine GD.gC ?_ (by first | (refine gi ?_; intros; exact LT.rd (Rd.ixv i (hr)) rfl) | fail) rfl rfl) | (show G _ _ _ _ (WL _ _ _ _ (⟨some _, .call _, _, _, _, none⟩ :: _)); refine G.cvW (hpc) ?_) | ((repeat (revert hK; revert K)); refine wkT ?_; repeat intro K hK) | refine wkg ?_))
        by_cases hn : 0 < n
        · have hbn : decide (0 < n) = true := by simpa using hn
          have e2 : (rws P).set j (y.row.set 2 (.s (.int .i64 n))) = rws Q := by
            rw [← y2t, h1 hn, ← rws_set1]; rfl
          (repeat (first | (show G _ _ _ _ (WL _ _ _ _ (⟨some _, .indexAddr _ _ _, _, _, _, none⟩ :: _)); refine G.w1 ?_ (by first | exact LT.rd (Rd.ixov j (hjl)) rfl | fail)) | (show G _ _ _ _ (WL _ _ _ _ (⟨some _, .indexAddr _ _ _, _, _, _, some _⟩ :: _)); refine G.gC ?_ (by first | (refine gi ?_; intros; exact LT.rd (Rd.ixov j (hjl)) rfl) | fail) rfl rfl) | (show GD _ _ _ _ _ _ _ _ _ _ (⟨some _, .indexAddr _ _ _, _, _, _, none⟩ :: _); refine GD.w1 ?_ (by first | exact LT.rd (Rd.ixov j (hjl)) rfl | fail)) | (show GD _ _ _ _ _ _ _ _ _ _ (⟨some _, .indexAddr _ _ _, _, _, _, some _⟩ :: _); refine GD.gC ?_ (by first | (refine gi ?_; intros; exact LT.rd (Rd.ixov j (hjl)) rfl) | fail) rfl rfl) | (show G _ _ _ _ (WL _ _ _ _ (⟨none, .store _ _ _, _, _, _, none⟩ :: _)); refine G.w0 ?_ (by first | exact LT.stF j 2 (hrow) (rws_row) | fail)) | (show GD _ _ _ _ _ _ _ _ _ _ (⟨none, .store _ _ _, _, _, _, none⟩ :: _); refine GD.w0 ?_ (by first | exact LT.stF j 2 (hrow) (rws_row) | fail)) | ((repeat (revert hK; revert K)); refine wk ?_; repeat intro K hK) | refine wkg ?_))
          rw [e2]
          refine G.frz (T := 23) (m := 6) (b := 101) (k := (rws P).length) (rows := rws Q) 105 ?_ rws_row hQl
          (repeat (first | (show G _ _ _ _ (WL _ _ _ _ (⟨some _, .call _, _, _, _, none⟩ :: _)); refine G.w3 ?_ (by first | exact LT.apR _ (h63) | fail)) | ((repeat (revert hK; revert K)); refine wk ?_; repeat intro K hK) | refine wkg ?_))
          refine G.at (i + 1) [(0, 7), (1, 1)] ⟨by omega, by omega⟩ ?_ ?_ (by decide)
          · rw [hs2]; exact (by repeat (first | exact trivial | refine ⟨⟨rfl, rfl⟩, ?_⟩))
          · rw [hs2]; exact (by repeat (first | exact trivial | refine ⟨⟨rfl, rfl, rfl⟩, ?_⟩ | refine ⟨⟨rfl, by rw [renL_d]; rfl, kbL_d _ _⟩, ?_⟩ | refine ⟨rfl, ?_⟩))
        · have hbn : decide (0 < n) = false := by simpa using hn
          have hox : oth x = true := hk2.2
          have htr := h2 (by omega) y hx y3 y4 hox
          have by3 := chkV_bd y3
          have hyf : (y.f / 4 % 2 == 1) = (x.f / 4 % 2 == 1) := by
            rcases y4 with e | e
            · rw [e]
            · obtain ⟨m, hm⟩ := nat16 bx.2.2.2.2.1 bx.2.2.2.2.2.1
              rw [e, hm]
              exact flag4n m
          cases on with
          | true =>
            rw [if_pos rfl] at htr
            have e2 : (rws P).set j (y.row.set 3 (.s (.int .i64 (y.f + 4)))) = rws Q := by
              rw [← y2t, htr, ← rws_set1]; rfl
            (repeat (first | (show G _ _ _ _ (WL _ _ _ _ (⟨some _, .indexAddr _ _ _, _, _, _, none⟩ :: _)); refine G.w1 ?_ (by first | exact LT.rd (Rd.ixov j (hjl)) rfl | fail)) | (show G _ _ _ _ (WL _ _ _ _ (⟨some _, .indexAddr _ _ _, _, _, _, some _⟩ :: _)); refine G.gC ?_ (by first | (refine gi ?_; intros; exact LT.rd (Rd.ixov j (hjl)) rfl) | fail) rfl rfl) | (show GD _ _ _ _ _ _ _ _ _ _ (⟨some _, .indexAddr _ _ _, _, _, _, none⟩ :: _); refine GD.w1 ?_ (by first | exact LT.rd (Rd.ixov j (hjl)) rfl | fail)) | (show GD _ _ _ _ _ _ _ _ _ _ (⟨some _, .indexAddr _ _ _, _, _, _, some _⟩ :: _); refine GD.gC ?_ (by first | (refine gi ?_; intros; exact LT.rd (Rd.ixov j (hjl)) rfl) | fail) rfl rfl) | (show G _ _ _ _ (WL _ _ _ _ (⟨some _, .load _ _, _, _, _, none⟩ :: _)); refine G.w1 ?_ (by first | exact LT.rd (Rd.ldF j 3 (hrow) (rws_row)) rfl | fail)) | (show G _ _ _ _ (WL _ _ _ _ (⟨some _, .load _ _, _, _, _, some _⟩ :: _)); refine G.gC ?_ (by first | (refine gi ?_; intros; exact LT.rd (Rd.ldF j 3 (hrow) (rws_row)) rfl) | fail) rfl rfl) | (show GD _ _ _ _ _ _ _ _ _ _ (⟨some _, .load _ _, _, _, _, none⟩ :: _); refine GD.w1 ?_ (by first | exact LT.rd (Rd.ldF j 3 (hrow) (rws_row)) rfl | fail)) | (show GD _ _ _ _ _ _ _ _ _ _ (⟨some _, .load _ _, _, _, _, some _⟩ :: _); refine GD.gC ?_ (by first | (refine gi ?_; intros; exact LT.rd (Rd.ldF j 3 (hrow) (rws_row)) rfl) | fail) rfl rfl) | (show G _ _ _ _ (WL _ _ _ _ (⟨none, .store _ _ _, _, _, _, none⟩ :: _)); refine G.w0 ?_ (by first | exact LT.stF j 3 (hrow) (rws_row) | fail)) | (show GD _ _ _ _ _ _ _ _ _ _ (⟨none, .store _ _ _, _, _, _, none⟩ :: _); refine GD.w0 ?_ (by first | exact LT.stF j 3 (hrow) (rws_row) | fail)) | ((repeat (revert hK; revert K)); refine wk ?_; repeat intro K hK) | refine wkg ?_))
            rw [e2]
            refine G.frz (T := 23) (m := 6) (b := 101) (k := (rws P).length) (rows := rws Q) 105 ?_ rws_row hQl
            (repeat (first | (show G _ _ _ _ (WL _ _ _ _ (⟨some _, .call _, _, _, _, none⟩ :: _)); refine G.w3 ?_ (by first | exact LT.apR _ (h63) | fail)) | ((repeat (revert hK; revert K)); refine wk ?_; repeat intro K hK) | refine wkg ?_))
            refine G.at (i + 1) [(0, 7), (1, 1)] ⟨by omega, by omega⟩ ?_ ?_ (by decide)
            · rw [hs2]; exact (by repeat (first | exact trivial | refine ⟨⟨rfl, rfl⟩, ?_⟩))
            · rw [hs2]; exact (by repeat (first | exact trivial | refine ⟨⟨rfl, rfl, rfl⟩, ?_⟩ | refine ⟨⟨rfl, by rw [renL_d]; rfl, kbL_d _ _⟩, ?_⟩ | refine ⟨rfl, ?_⟩))
          | false =>
            rw [if_neg (by decide)] at htr
            have e2 : (rws P).set j (y.row.set 3 (.s (.int .i64 (y.f - 4)))) = rws Q := by
              rw [← y2t, htr, ← rws_set1]; rfl
            (repeat (first | (show G _ _ _ _ (WL _ _ _ _ (⟨some _, .indexAddr _ _ _, _, _, _, none⟩ :: _)); refine G.w1 ?_ (by first | exact LT.rd (Rd.ixov j (hjl)) rfl | fail)) | (show G _ _ _ _ (WL _ _ _ _ (⟨some _, .indexAddr _ _ _, _, _, _, some _⟩ :: _)); refine G.gC ?_ (by first | (refine gi ?_; intros; exact LT.rd (Rd.ixov j (hjl)) rfl) | fail) rfl rfl) | (show GD _ _ _ _ _ _ _ _ _ _ (⟨some _, .indexAddr _ _ _, _, _, _, none⟩ :: _); refine GD.w1 ?_ (by first | exact LT.rd (Rd.ixov j (hjl)) rfl | fail)) | (show GD _ _ _ _ _ _ _ _ _ _ (⟨some _, .indexAddr _ _ _, _, _, _, some _⟩ :: _); refine GD.gC ?_ (by first | (refine gi ?_; intros; exact LT.rd (Rd.ixov j (hjl)) rfl) | fail) rfl rfl) | (show G _ _ _ _ (WL _ _ _ _ (⟨some _, .load _ _, _, _, _, none⟩ :: _)); refine G.w1 ?_ (by first | exact LT.rd (Rd.ldF j 3 (hrow) (rws_row)) rfl | fail)) | (show G _ _ _ _ (WL _ _ _ _ (⟨some _, .load _ _, _, _, _, some _⟩ :: _)); refine G.gC ?_ (by first | (refine gi ?_; intros; exact LT.rd (Rd.ldF j 3 (hrow) (rws_row)) rfl) | fail) rfl rfl) | (show GD _ _ _ _ _ _ _ _ _ _ (⟨some _, .load _ _, _, _, _, none⟩ :: _); refine GD.w1 ?_ (by first | exact LT.rd (Rd.ldF j 3 (hrow) (rws_row)) rfl | fail)) | (show GD _ _ _ _ _ _ _ _ _ _ (⟨some _, .load _ _, _, _, _, some _⟩ :: _); refine GD.gC ?_ (by first | (refine gi ?_; intros; exact LT.rd (Rd.ldF j 3 (hrow) (rws_row)) rfl) | fail) rfl rfl) | (show G _ _ _ _ (WL _ _ _ _ (⟨none, .store _ _ _, _, _, _, none⟩ :: _)); refine G.w0 ?_ (by first | exact LT.stF j 3 (hrow) (rws_row) | fail)) | (show GD _ _ _ _ _ _ _ _ _ _ (⟨none, .store _ _ _, _, _, _, none⟩ :: _); refine GD.w0 ?_ (by first | exact LT.stF j 3 (hrow) (rws_row) | fail)) | ((repeat (revert hK; revert K)); refine wk ?_; repeat intro K hK) | refine wkg ?_))
            rw [e2]
            refine G.frz (T := 23) (m := 6) (b := 101) (k := (rws P).length) (rows := rws Q) 105 ?_ rws_row hQl
            (repeat (first | (show G _ _ _ _ (WL _ _ _ _ (⟨some _, .call _, _, _, _, none⟩ :: _)); refine G.w3 ?_ (by first | exact LT.apR _ (h63) | fail)) | ((repeat (revert hK; revert K)); refine wk ?_; repeat intro K hK) | refine wkg ?_))
            refine G.at (i + 1) [(0, 7), (1, 1)] ⟨by omega, by omega⟩ ?_ ?_ (by decide)
            · rw [hs2]; exact (by repeat (first | exact trivial | refine ⟨⟨rfl, rfl⟩, ?_⟩))
            · rw [hs2]; exact (by repeat (first | exact trivial | refine ⟨⟨rfl, rfl, rfl⟩, ?_⟩ | refine ⟨⟨rfl, by rw [renL_d]; rfl, kbL_d _ _⟩, ?_⟩ | refine ⟨rfl, ?_⟩))
    · have e : i = l.length := by omega
      subst e
      rw [List.take_length]
      (repeat (first | ((repeat (revert hK; revert K)); refine wk ?_; repeat intro K hK) | refine wkg ?_))
      refine G.frz (T := 23) (m := 6) (b := 0) (k := (rws (cat (chgL oth tr g c) l)).length) (rows := rws (cat (chgL oth tr g c) l)) 8 ?_ rws_row rfl
      refine G.fin1 (by first | exact rvOk.tmp | exact rvOk.cellS | exact rvOk.cell1 | fail) rfl ?_
      rfl

end Go.Proofs.Ytjdpignfdncebaa
