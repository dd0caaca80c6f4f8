/- The functions of the laws on sets of pages: dMapped, dCovered, dMapping. -/
import Derived.Test.YtkdjbiekjgeafaaJcM
set_option linter.unusedSimpArgs false
set_option linter.unusedVariables false
namespace Go.Proofs.Ytkdjbiekjgeafaa
open Go.RowKit Iv

theorem ows_get' (l : List OV) (i : Nat) (h : i < l.length) : (ows l)[i]? = some l[i].row := by simp [ows, h]
theorem ows_len' (l : List OV) : (ows l).length = l.length := by simp [ows]
theorem addI_ok {s : List (Int × Int)} {f t : Int} (hs : Asc none s) (h : f ≤ t) : addI s f t = (uniL s (oneI (f, t)), 0) := by
  have e : errI s f t = 0 := errI_0 ((chkI_asc s).2 hs) (by omega)
  unfold addI
  rw [e]
  rfl
theorem remI_ok {s : List (Int × Int)} {f t : Int} (hs : Asc none s) (h : f ≤ t) : remI s f t = (cutI s (oneI (f, t)), 0) := by
  have e : errI s f t = 0 := errI_0 ((chkI_asc s).2 hs) (by omega)
  unfold remI
  rw [e]
  rfl

theorem mpT_ask (p : PT) (s : List (Int × Int)) (o : OV) : mpT (p, s) o = if o.k = 4 then (p, s) else if (askT p o).2 = 0 then ((askT p o).1, nextS s o) else (p, s) := by
  unfold mpT doT
  by_cases h : (askT p o).2 = 0
  · simp [h]
  · simp [h]

attribute [local irreducible] Wp WL WO fin finB rnd Exit.then Exit.inBlock G GD LT Rd Fn FnB FvB Iter
attribute [local go_sem] RV.row TD.row OV.row
def dmI (l : List OV) (i : Nat) : List (Nat × AV) × Bs := ([(7, .d (.s (.int .i64 (i : Int)))), (6, .d (.l (ivs (runM l i).2))), (5, .p 1 0), (2, .p 0 0), (0, .d (.l (ows l)))], [(0, some (28, PT.E.td.row.map .d)), (1, some (28, (runM l i).1.td.row.map .d))])
theorem dcov_len (s : List (Int × Int)) : ((ivs s).length : Int) = s.length := by rw [ivs_len]
def dcI (p : PT) (i : Nat) : List (Nat × AV) × Bs := ([(5, .d (.s (.int .i64 (i : Int)))), (4, .d (.l (rws p.flat))), (3, .d (.l (ivs (covS (p.flat.take i)))))], [])
set_option maxHeartbeats 1000000 in
theorem dcov_F {p : PT} {s : List (Int × Int)} (h : MOK p s) : Fn Try.prog 8 [.st p.td.row] (· = .l (ivs s)) := by
  have hl := plist_P h.hp.g
  have hlen : ((rws p.flat).length : Int) = p.flat.length := by rw [rws_len]
  have h12 := h.hp.n
  refine Fn.of Try.func8 Try.ntmps8 rfl (by kernel_rfl) (fun w o => ?_)
  (repeat (first | refine G.cW (hl) ?_ | refine G.cgW (hl) ?_ | refine GD.cW (hl) ?_ | refine GD.cgW (hl) ?_ | ((repeat (revert hK; revert K)); refine wk ?_; repeat intro K hK) | refine wkg ?_))
  refine G.nilL 3 ?_
  refine G.loop (dcI p) (fun i => i ≤ p.flat.length) (fun i => p.flat.length - i) ?_ ?_
  · exact G.at 0 [] (Nat.zero_le _) (by repeat (first | exact trivial | refine ⟨⟨rfl, rfl⟩, ?_⟩)) (by repeat (first | exact trivial | refine ⟨⟨rfl, rfl, rfl⟩, ?_⟩ | refine ⟨⟨rfl, by rw [renL_d]; rfl, kbL_d _ _⟩, ?_⟩ | refine ⟨rfl, ?_⟩)) (by decide)
  · intro i hi
    dsimp only [dcI]
    by_cases h2 : i < p.flat.length
    · have hr := rws_get p.flat i h2
      have hg : p.flat[i]? = some p.flat[i] := List.getElem?_eq_getElem h2
      have bx := chkV_bd (h.hp.l.c _ (List.getElem_mem h2))
      obtain ⟨g1, _, g3⟩ := covS_ok (p.flat.take i) [] (fun x hx => h.hp.l.c x (List.mem_of_mem_take hx)) (by simp [Asc])
      have htl : (p.flat.take i).length ≤ 12 := by simp; omega
      have hcl : (covS (p.flat.take i)).length ≤ 12 := by have := g3; unfold covS; simp at this ⊢; omega
      have hst : covS (p.flat.take (i + 1)) = uniL (covS (p.flat.take i)) (oneI (p.flat[i].s, p.flat[i].s + p.flat[i].p)) := by
        unfold covS
        rw [take_snoc hg, List.foldl_append]
        rfl
      have hsum : ∀ m, uniL (covS (p.flat.take i)) (oneI (p.flat[i].s, p.flat[i].s + p.flat[i].p)) = m → dcI p (i + 1) = ([(5, .d (.s (.int .i64 ((i + 1 : Nat) : Int)))), (4, .d (.l (rws p.flat))), (3, .d (.l (ivs m)))], []) := fun m hm => by
        unfold dcI; rw [hst, hm]
      have ga : Asc none (covS (p.flat.take i)) := g1
      generalize covS (p.flat.take i) = m at *
      generalize p.flat[i] = x at *
      have had := add_F m (by omega) x.s (x.s + x.p)
      rw [addI_ok ga (by omega)] at had
      unfold setT at had
      dsimp only at had
      generalize uniL m (oneI (x.s, x.s + x.p)) = m2 at *
      have hs2 := hsum m2 rfl
      (repeat (first | refine G.cW (had) ?_ | refine G.cgW (had) ?_ | refine GD.cW (had) ?_ | refine GD.cgW (had) ?_ | (show G _ _ _ _ (WL _ _ _ _ (⟨some _, .indexAddr _ _ _, _, _, _, none⟩ :: _)); refine G.w1 ?_ (by first | exact LT.rd (Rd.ixv i (hr)) rfl | fail)) | (show G _ _ _ _ (WL _ _ _ _ (⟨some _, .indexAddr _ _ _, _, _, _, some _⟩ :: _)); refine G.gC ?_ (by first | (refine gi ?_; intros; exact LT.rd (Rd.ixv i (hr)) rfl) | fail) rfl rfl) | (show GD _ _ _ _ _ _ _ _ _ _ (⟨some _, .indexAddr _ _ _, _, _, _, none⟩ :: _); refine GD.w1 ?_ (by first | exact LT.rd (Rd.ixv i (hr)) rfl | fail)) | (show GD _ _ _ _ _ _ _ _ _ _ (⟨some _, .indexAddr _ _ _, _, _, _, some _⟩ :: _); refine GD.gC ?_ (by first | (refine gi ?_; intros; exact LT.rd (Rd.ixv i (hr)) rfl) | fail) rfl rfl) | ((repeat (revert hK; revert K)); refine wk ?_; repeat intro K hK) | refine wkg ?_))
      refine G.at (i + 1) [] ⟨by omega, by omega⟩ ?_ ?_ (by decide)
      · rw [hs2]; exact (by repeat (first | exact trivial | refine ⟨⟨rfl, rfl⟩, ?_⟩))
      · rw [hs2]; exact (by repeat (first | exact trivial | refine ⟨⟨rfl, rfl, rfl⟩, ?_⟩ | refine ⟨⟨rfl, by rw [renL_d]; rfl, kbL_d _ _⟩, ?_⟩ | refine ⟨rfl, ?_⟩))
    · have e : i = p.flat.length := by omega
      subst e
      rw [List.take_length, cov_set h]
      (repeat (first | ((repeat (revert hK; revert K)); refine wk ?_; repeat intro K hK) | refine wkg ?_))
      refine G.fin1 (by first | exact rvOk.tmp | exact rvOk.cellS | exact rvOk.cell1 | fail) rfl ?_
      rfl
set_option maxRecDepth 100000 in
set_option maxHeartbeats 4000000 in
theorem dmap_F (l : List OV) (h24 : l.length ≤ 24) : Fn Try.prog 6 [.l (ows l)] (· = .tup [.st (runM l l.length).1.td.row, .l (ivs (runM l l.length).2), .s (.bool true)]) := by
  have hlen : ((ows l).length : Int) = l.length := by rw [ows_len']
  refine Fn.of Try.func6 Try.ntmps6 rfl (by kernel_rfl) (fun w o => ?_)
  (repeat (first | ((repeat (revert hK; revert K)); refine wk ?_; repeat intro K hK) | refine wkg ?_))
  refine G.leB 0 PT.E.td.row le_EL ?_
  refine G.leB 1 PT.E.td.row le_EL ?_
  refine G.nilL 6 ?_
  refine G.loop (dmI l) (fun i => i ≤ l.length) (fun i => l.length - i) ?_ ?_
  · exact G.at 0 [(0, 0), (1, 1)] (Nat.zero_le _) (by repeat (first | exact trivial | refine ⟨⟨rfl, rfl⟩, ?_⟩)) (by repeat (first | exact trivial | refine ⟨⟨rfl, rfl, rfl⟩, ?_⟩ | refine ⟨⟨rfl, by rw [renL_d]; rfl, kbL_d _ _⟩, ?_⟩ | refine ⟨rfl, ?_⟩)) (by decide)
  · intro i hi
    dsimp only [dmI]
    by_cases h : i < l.length
    · have hr := ows_get' l i h
      obtain ⟨hk, hle⟩ := runM_ok l i (by omega)
      have hst := runM_step (List.getElem?_eq_getElem h)
      have hsum : ∀ q m, mpT (runM l i) l[i] = (q, m) → dmI l (i + 1) = ([(7, .d (.s (.int .i64 ((i + 1 : Nat) : Int)))), (6, .d (.l (ivs m))), (5, .p 1 0), (2, .p 0 0), (0, .d (.l (ows l)))], [(0, some (28, PT.E.td.row.map .d)), (1, some (28, q.td.row.map .d))]) := fun q m hq => by
        unfold dmI; rw [hst, hq]
      generalize runM l i = z at *
      obtain ⟨p, s⟩ := z
      dsimp only at hk hle
      generalize l[i] = o at *
      have hp := hk.hp
      have hso := hk.hs
      by_cases hk0 : o.k = 0
      · have hak : askT p o = mapT p o.r := by unfold askT; rw [if_pos hk0]
        have hm : Fn Try.prog 13 [.st p.td.row, .st [.s (.int .i64 o.r.s), .s (.int .i64 o.r.p), .s (.int .i64 o.r.r), .s (.int .i64 o.r.f), .s (.int .i64 o.r.i), .s (.int .i64 o.r.x)]] (· = resD (mapT p o.r)) := by
          by_cases hv : chkV o.r = 0
          · exact map_P hp o.r hv
          · have e : mapT p o.r = (.E, chkV o.r) := by unfold mapT; rw [if_neg hv]
            rw [e]; exact map_bad hp o.r hv
        have hmp := mpT_ask p s o
        rw [if_neg (by omega), hak] at hmp
        have k0 : (o.k == 0) = true := by simp [hk0]
        have hval : (mapT p o.r).2 = 0 → chkV o.r = 0 := fun h => by
          refine Classical.byContradiction fun hn => ?_
          unfold mapT at h; rw [if_neg hn] at h; exact hn h
        unfold resD at hm
        generalize mapT p o.r = z at *
        obtain ⟨q, e⟩ := z
        dsimp only at hm hmp hval
        by_cases he : e = 0
        · subst he
          have hnx : nextS s o = uniL s (oneI (o.r.s, o.r.s + o.r.p)) := by unfold nextS; rw [if_pos hk0]
          rw [if_pos rfl, hnx] at hmp
          have bx := chkV_bd (hval rfl)
          have had := add_F s (by omega) o.r.s (o.r.s + o.r.p)
          rw [addI_ok hso (by omega)] at had
          unfold setT at had
          dsimp only at had
          generalize uniL s (oneI (o.r.s, o.r.s + o.r.p)) = m2 at *
          have hs2 := hsum _ _ hmp
          (repeat (first | refine G.cW (hm) ?_ | refine G.cgW (hm) ?_ | refine GD.cW (hm) ?_ | refine GD.cgW (hm) ?_ | refine G.cW (had) ?_ | refine G.cgW (had) ?_ | refine GD.cW (had) ?_ | refine GD.cgW (had) ?_ | (show G _ _ _ _ (WL _ _ _ _ (⟨some _, .indexAddr _ _ _, _, _, _, none⟩ :: _)); refine G.w1 ?_ (by first | exact LT.rd (Rd.ixv i (hr)) rfl | fail)) | (show G _ _ _ _ (WL _ _ _ _ (⟨some _, .indexAddr _ _ _, _, _, _, some _⟩ :: _)); refine G.gC ?_ (by first | (refine gi ?_; intros; exact LT.rd (Rd.ixv i (hr)) rfl) | fail) rfl rfl) | (show GD _ _ _ _ _ _ _ _ _ _ (⟨some _, .indexAddr _ _ _, _, _, _, none⟩ :: _); refine GD.w1 ?_ (by first | exact LT.rd (Rd.ixv i (hr)) rfl | fail)) | (show GD _ _ _ _ _ _ _ _ _ _ (⟨some _, .indexAddr _ _ _, _, _, _, some _⟩ :: _); refine GD.gC ?_ (by first | (refine gi ?_; intros; exact LT.rd (Rd.ixv i (hr)) rfl) | fail) rfl rfl) | ((repeat (revert hK; revert K)); refine wk ?_; repeat intro K hK) | refine wkg ?_))
          refine G.at (i + 1) [(0, 0), (1, 1)] ⟨by omega, by omega⟩ ?_ ?_ (by decide)
          · rw [hs2]; exact (by repeat (first | exact trivial | refine ⟨⟨rfl, rfl⟩, ?_⟩))
          · rw [hs2]; exact (by repeat (first | exact trivial | refine ⟨⟨rfl, rfl, rfl⟩, ?_⟩ | refine ⟨⟨rfl, by rw [renL_d]; rfl, kbL_d _ _⟩, ?_⟩ | refine ⟨rfl, ?_⟩))
        · have hbe : (e == 0) = false := by simpa using he
          rw [if_neg he] at hmp
          have hs2 := hsum _ _ hmp
          (repeat (first | refine G.cW (hm) ?_ | refine G.cgW (hm) ?_ | refine GD.cW (hm) ?_ | refine GD.cgW (hm) ?_ | (show G _ _ _ _ (WL _ _ _ _ (⟨some _, .indexAddr _ _ _, _, _, _, none⟩ :: _)); refine G.w1 ?_ (by first | exact LT.rd (Rd.ixv i (hr)) rfl | fail)) | (show G _ _ _ _ (WL _ _ _ _ (⟨some _, .indexAddr _ _ _, _, _, _, some _⟩ :: _)); refine G.gC ?_ (by first | (refine gi ?_; intros; exact LT.rd (Rd.ixv i (hr)) rfl) | fail) rfl rfl) | (show GD _ _ _ _ _ _ _ _ _ _ (⟨some _, .indexAddr _ _ _, _, _, _, none⟩ :: _); refine GD.w1 ?_ (by first | exact LT.rd (Rd.ixv i (hr)) rfl | fail)) | (show GD _ _ _ _ _ _ _ _ _ _ (⟨some _, .indexAddr _ _ _, _, _, _, some _⟩ :: _); refine GD.gC ?_ (by first | (refine gi ?_; intros; exact LT.rd (Rd.ixv i (hr)) rfl) | fail) rfl rfl) | ((repeat (revert hK; revert K)); refine wk ?_; repeat intro K hK) | refine wkg ?_))
          refine G.at (i + 1) [(0, 0), (1, 1)] ⟨by omega, by omega⟩ ?_ ?_ (by decide)
          · rw [hs2]; exact (by repeat (first | exact trivial | refine ⟨⟨rfl, rfl⟩, ?_⟩))
          · rw [hs2]; exact (by repeat (first | exact trivial | refine ⟨⟨rfl, rfl, rfl⟩, ?_⟩ | refine ⟨⟨rfl, by rw [renL_d]; rfl, kbL_d _ _⟩, ?_⟩ | refine ⟨rfl, ?_⟩))
      by_cases hk0 : o.k = 1
      · have hak : askT p o = unmapT p o.g o.c := by unfold askT; rw [if_neg (by omega), if_pos hk0]
        have hm : Fn Try.prog 15 [.st p.td.row, .s (.int .i64 o.g), .s (.int .i64 o.c)] (· = resD (unmapT p o.g o.c)) := unmap_P hp o.g o.c
        have hmp := mpT_ask p s o
        rw [if_neg (by omega), hak] at hmp
        have k0 : (o.k == 0) = false := by simp [hk0]
        have k1 : (o.k == 1) = true := by simp [hk0]
        have hval : (unmapT p o.g o.c).2 = 0 → rngV o.g o.c = 0 := fun h => by
          refine Classical.byContradiction fun hn => ?_
          unfold unmapT at h; rw [if_neg hn] at h; exact hn h
        unfold resD at hm
        generalize unmapT p o.g o.c = z at *
        obtain ⟨q, e⟩ := z
        dsimp only at hm hmp hval
        by_cases he : e = 0
        · subst he
          have hnx : nextS s o = cutI s (oneI (o.g, o.g + o.c)) := by unfold nextS; rw [if_neg (by omega), if_pos hk0]
          rw [if_pos rfl, hnx] at hmp
          have bx := rngV_ok (hval rfl)
          have had := rem_F s (by omega) o.g (o.g + o.c)
          rw [remI_ok hso (by omega)] at had
          unfold setT at had
          dsimp only at had
          generalize cutI s (oneI (o.g, o.g + o.c)) = m2 at *
          have hs2 := hsum _ _ hmp
          (repeat (first | refine G.cW (hm) ?_ | refine G.cgW (hm) ?_ | refine GD.cW (hm) ?_ | refine GD.cgW (hm) ?_ | refine G.cW (had) ?_ | refine G.cgW (had) ?_ | refine GD.cW (had) ?_ | refine GD.cgW (had) ?_ | (show G _ _ _ _ (WL _ _ _ _ (⟨some _, .indexAddr _ _ _, _, _, _, none⟩ :: _)); refine G.w1 ?_ (by first | exact LT.rd (Rd.ixv i (hr)) rfl | fail)) | (show G _ _ _ _ (WL _ _ _ _ (⟨some _, .indexAddr _ _ _, _, _, _, some _⟩ :: _)); refine G.gC ?_ (by first | (refine gi ?_; intros; exact LT.rd (Rd.ixv i (hr)) rfl) | fail) rfl rfl) | (show GD _ _ _ _ _ _ _ _ _ _ (⟨some _, .indexAddr _ _ _, _, _, _, none⟩ :: _); refine GD.w1 ?_ (by first | exact LT.rd (Rd.ixv i (hr)) rfl | fail)) | (show GD _ _ _ _ _ _ _ _ _ _ (⟨some _, .indexAddr _ _ _, _, _, _, some _⟩ :: _); refine GD.gC ?_ (by first | (refine gi ?_; intros; exact LT.rd (Rd.ixv i (hr)) rfl) | fail) rfl rfl) | ((repeat (revert hK; revert K)); refine wk ?_; repeat intro K hK) | refine wkg ?_))
          refine G.at (i + 1) [(0, 0), (1, 1)] ⟨by omega, by omega⟩ ?_ ?_ (by decide)
          · rw [hs2]; exact (by repeat (first | exact trivial | refine ⟨⟨rfl, rfl⟩, ?_⟩))
          · rw [hs2]; exact (by repeat (first | exact trivial | refine ⟨⟨rfl, rfl, rfl⟩, ?_⟩ | refine ⟨⟨rfl, by rw [renL_d]; rfl, kbL_d _ _⟩, ?_⟩ | refine ⟨rfl, ?_⟩))
        · have hbe : (e == 0) = false := by simpa using he
          rw [if_neg he] at hmp
          have hs2 := hsum _ _ hmp
          (repeat (first | refine G.cW (hm) ?_ | refine G.cgW (hm) ?_ | refine GD.cW (hm) ?_ | refine GD.cgW (hm) ?_ | (show G _ _ _ _ (WL _ _ _ _ (⟨some _, .indexAddr _ _ _, _, _, _, none⟩ :: _)); refine G.w1 ?_ (by first | exact LT.rd (Rd.ixv i (hr)) rfl | fail)) | (show G _ _ _ _ (WL _ _ _ _ (⟨some _, .indexAddr _ _ _, _, _, _, some _⟩ :: _)); refine G.gC ?_ (by first | (refine gi ?_; intros; exact LT.rd (Rd.ixv i (hr)) rfl) | fail) rfl rfl) | (show GD _ _ _ _ _ _ _ _ _ _ (⟨some _, .indexAddr _ _ _, _, _, _, none⟩ :: _); refine GD.w1 ?_ (by first | exact LT.rd (Rd.ixv i (hr)) rfl | fail)) | (show GD _ _ _ _ _ _ _ _ _ _ (⟨some _, .indexAddr _ _ _, _, _, _, some _⟩ :: _); refine GD.gC ?_ (by first | (refine gi ?_; intros; exact LT.rd (Rd.ixv i (hr)) rfl) | fail) rfl rfl) | ((repeat (revert hK; revert K)); refine wk ?_; repeat intro K hK) | refine wkg ?_))
          refine G.at (i + 1) [(0, 0), (1, 1)] ⟨by omega, by omega⟩ ?_ ?_ (by decide)
          · rw [hs2]; exact (by repeat (first | exact trivial | refine ⟨⟨rfl, rfl⟩, ?_⟩))
          · rw [hs2]; exact (by repeat (first | exact trivial | refine ⟨⟨rfl, rfl, rfl⟩, ?_⟩ | refine ⟨⟨rfl, by rw [renL_d]; rfl, kbL_d _ _⟩, ?_⟩ | refine ⟨rfl, ?_⟩))
      by_cases hk0 : o.k = 2
      · have hak : askT p o = protT p o.g o.c o.n := by unfold askT; rw [if_neg (by omega), if_neg (by omega), if_pos hk0]
        have hm : Fn Try.prog 17 [.st p.td.row, .s (.int .i64 o.g), .s (.int .i64 o.c), .s (.int .i64 o.n)] (· = resD (protT p o.g o.c o.n)) := protect_P hp o.g o.c o.n
        have hmp := mpT_ask p s o
        rw [if_neg (by omega), hak] at hmp
        have k0 : (o.k == 0) = false := by simp [hk0]
        have k1 : (o.k == 1) = false := by simp [hk0]
        have k2 : (o.k == 2) = true := by simp [hk0]
        have hval : (protT p o.g o.c o.n).2 = 0 → True := fun h => by
          trivial
        unfold resD at hm
        generalize protT p o.g o.c o.n = z at *
        obtain ⟨q, e⟩ := z
        dsimp only at hm hmp hval
        by_cases he : e = 0
        · subst he
          have hnx : nextS s o = s := by unfold nextS; rw [if_neg (by omega), if_neg (by omega)]
          rw [if_pos rfl, hnx] at hmp
          have hs2 := hsum _ _ hmp
          (repeat (first | refine G.cW (hm) ?_ | refine G.cgW (hm) ?_ | refine GD.cW (hm) ?_ | refine GD.cgW (hm) ?_ | (show G _ _ _ _ (WL _ _ _ _ (⟨some _, .indexAddr _ _ _, _, _, _, none⟩ :: _)); refine G.w1 ?_ (by first | exact LT.rd (Rd.ixv i (hr)) rfl | fail)) | (show G _ _ _ _ (WL _ _ _ _ (⟨some _, .indexAddr _ _ _, _, _, _, some _⟩ :: _)); refine G.gC ?_ (by first | (refine gi ?_; intros; exact LT.rd (Rd.ixv i (hr)) rfl) | fail) rfl rfl) | (show GD _ _ _ _ _ _ _ _ _ _ (⟨some _, .indexAddr _ _ _, _, _, _, none⟩ :: _); refine GD.w1 ?_ (by first | exact LT.rd (Rd.ixv i (hr)) rfl | fail)) | (show GD _ _ _ _ _ _ _ _ _ _ (⟨some _, .indexAddr _ _ _, _, _, _, some _⟩ :: _); refine GD.gC ?_ (by first | (refine gi ?_; intros; exact LT.rd (Rd.ixv i (hr)) rfl) | fail) rfl rfl) | ((repeat (revert hK; revert K)); refine wk ?_; repeat intro K hK) | refine wkg ?_))
          refine G.at (i + 1) [(0, 0), (1, 1)] ⟨by omega, by omega⟩ ?_ ?_ (by decide)
          · rw [hs2]; exact (by repeat (first | exact trivial | refine ⟨⟨rfl, rfl⟩, ?_⟩))
          · rw [hs2]; exact (by repeat (first | exact trivial | refine ⟨⟨rfl, rfl, rfl⟩, ?_⟩ | refine ⟨⟨rfl, by rw [renL_d]; rfl, kbL_d _ _⟩, ?_⟩ | refine ⟨rfl, ?_⟩))
        · have hbe : (e == 0) = false := by simpa using he
          rw [if_neg he] at hmp
          have hs2 := hsum _ _ hmp
          (repeat (first | refine G.cW (hm) ?_ | refine G.cgW (hm) ?_ | refine GD.cW (hm) ?_ | refine GD.cgW (hm) ?_ | (show G _ _ _ _ (WL _ _ _ _ (⟨some _, .indexAddr _ _ _, _, _, _, none⟩ :: _)); refine G.w1 ?_ (by first | exact LT.rd (Rd.ixv i (hr)) rfl | fail)) | (show G _ _ _ _ (WL _ _ _ _ (⟨some _, .indexAddr _ _ _, _, _, _, some _⟩ :: _)); refine G.gC ?_ (by first | (refine gi ?_; intros; exact LT.rd (Rd.ixv i (hr)) rfl) | fail) rfl rfl) | (show GD _ _ _ _ _ _ _ _ _ _ (⟨some _, .indexAddr _ _ _, _, _, _, none⟩ :: _); refine GD.w1 ?_ (by first | exact LT.rd (Rd.ixv i (hr)) rfl | fail)) | (show GD _ _ _ _ _ _ _ _ _ _ (⟨some _, .indexAddr _ _ _, _, _, _, some _⟩ :: _); refine GD.gC ?_ (by first | (refine gi ?_; intros; exact LT.rd (Rd.ixv i (hr)) rfl) | fail) rfl rfl) | ((repeat (revert hK; revert K)); refine wk ?_; repeat intro K hK) | refine wkg ?_))
          refine G.at (i + 1) [(0, 0), (1, 1)] ⟨by omega, by omega⟩ ?_ ?_ (by decide)
          · rw [hs2]; exact (by repeat (first | exact trivial | refine ⟨⟨rfl, rfl⟩, ?_⟩))
          · rw [hs2]; exact (by repeat (first | exact trivial | refine ⟨⟨rfl, rfl, rfl⟩, ?_⟩ | refine ⟨⟨rfl, by rw [renL_d]; rfl, kbL_d _ _⟩, ?_⟩ | refine ⟨rfl, ?_⟩))
      by_cases hk0 : o.k = 3
      · have hak : askT p o = lockT p o.g o.c (o.n == 1) := by unfold askT; rw [if_neg (by omega), if_neg (by omega), if_neg (by omega), if_pos hk0]
        have hm : Fn Try.prog 18 [.st p.td.row, .s (.int .i64 o.g), .s (.int .i64 o.c), .s (.bool (o.n == 1))] (· = resD (lockT p o.g o.c (o.n == 1))) := lock_P hp o.g o.c (o.n == 1)
        have hmp := mpT_ask p s o
        rw [if_neg (by omega), hak] at hmp
        have k0 : (o.k == 0) = false := by simp [hk0]
        have k1 : (o.k == 1) = false := by simp [hk0]
        have k2 : (o.k == 2) = false := by simp [hk0]
        have k3 : (o.k == 3) = true := by simp [hk0]
        have hval : (lockT p o.g o.c (o.n == 1)).2 = 0 → True := fun h => by
          trivial
        unfold resD at hm
        generalize lockT p o.g o.c (o.n == 1) = z at *
        obtain ⟨q, e⟩ := z
        dsimp only at hm hmp hval
        by_cases he : e = 0
        · subst he
          have hnx : nextS s o = s := by unfold nextS; rw [if_neg (by omega), if_neg (by omega)]
          rw [if_pos rfl, hnx] at hmp
          have hs2 := hsum _ _ hmp
          (repeat (first | refine G.cW (hm) ?_ | refine G.cgW (hm) ?_ | refine GD.cW (hm) ?_ | refine GD.cgW (hm) ?_ | (show G _ _ _ _ (WL _ _ _ _ (⟨some _, .indexAddr _ _ _, _, _, _, none⟩ :: _)); refine G.w1 ?_ (by first | exact LT.rd (Rd.ixv i (hr)) rfl | fail)) | (show G _ _ _ _ (WL _ _ _ _ (⟨some _, .indexAddr _ _ _, _, _, _, some _⟩ :: _)); refine G.gC ?_ (by first | (refine gi ?_; intros; exact LT.rd (Rd.ixv i (hr)) rfl) | fail) rfl rfl) | (show GD _ _ _ _ _ _ _ _ _ _ (⟨some _, .indexAddr _ _ _, _, _, _, none⟩ :: _); refine GD.w1 ?_ (by first | exact LT.rd (Rd.ixv i (hr)) rfl | fail)) | (show GD _ _ _ _ _ _ _ _ _ _ (⟨some _, .indexAddr _ _ _, _, _, _, some _⟩ :: _); refine GD.gC ?_ (by first | (refine gi ?_; intros; exact LT.rd (Rd.ixv i (hr)) rfl) | fail) rfl rfl) | ((repeat (revert hK; revert K)); refine wk ?_; repeat intro K hK) | refine wkg ?_))
          refine G.at (i + 1) [(0, 0), (1, 1)] ⟨by omega, by omega⟩ ?_ ?_ (by decide)
          · rw [hs2]; exact (by repeat (first | exact trivial | refine ⟨⟨rfl, rfl⟩, ?_⟩))
          · rw [hs2]; exact (by repeat (first | exact trivial | refine ⟨⟨rfl, rfl, rfl⟩, ?_⟩ | refine ⟨⟨rfl, by rw [renL_d]; rfl, kbL_d _ _⟩, ?_⟩ | refine ⟨rfl, ?_⟩))
        · have hbe : (e == 0) = false := by simpa using he
          rw [if_neg he] at hmp
          have hs2 := hsum _ _ hmp
          (repeat (first | refine G.cW (hm) ?_ | refine G.cgW (hm) ?_ | refine GD.cW (hm) ?_ | refine GD.cgW (hm) ?_ | (show G _ _ _ _ (WL _ _ _ _ (⟨some _, .indexAddr _ _ _, _, _, _, none⟩ :: _)); refine G.w1 ?_ (by first | exact LT.rd (Rd.ixv i (hr)) rfl | fail)) | (show G _ _ _ _ (WL _ _ _ _ (⟨some _, .indexAddr _ _ _, _, _, _, some _⟩ :: _)); refine G.gC ?_ (by first | (refine gi ?_; intros; exact LT.rd (Rd.ixv i (hr)) rfl) | fail) rfl rfl) | (show GD _ _ _ _ _ _ _ _ _ _ (⟨some _, .indexAddr _ _ _, _, _, _, none⟩ :: _); refine GD.w1 ?_ (by first | exact LT.rd (Rd.ixv i (hr)) rfl | fail)) | (show GD _ _ _ _ _ _ _ _ _ _ (⟨some _, .indexAddr _ _ _, _, _, _, some _⟩ :: _); refine GD.gC ?_ (by first | (refine gi ?_; intros; exact LT.rd (Rd.ixv i (hr)) rfl) | fail) rfl rfl) | ((repeat (revert hK; revert K)); refine wk ?_; repeat intro K hK) | refine wkg ?_))
          refine G.at (i + 1) [(0, 0), (1, 1)] ⟨by omega, by omega⟩ ?_ ?_ (by decide)
          · rw [hs2]; exact (by repeat (first | exact trivial | refine ⟨⟨rfl, rfl⟩, ?_⟩))
          · rw [hs2]; exact (by repeat (first | exact trivial | refine ⟨⟨rfl, rfl, rfl⟩, ?_⟩ | refine ⟨⟨rfl, by rw [renL_d]; rfl, kbL_d _ _⟩, ?_⟩ | refine ⟨rfl, ?_⟩))
      have hmp : mpT (p, s) o = (p, s) := by
        rw [mpT_ask]
        by_cases h4 : o.k = 4
        · rw [if_pos h4]
        · have e : askT p o = (p, 6) := by unfold askT; rw [if_neg (by assumption), if_neg (by assumption), if_neg (by assumption), if_neg (by assumption), if_neg h4]
          rw [if_neg h4, e]; rfl
      have k0 : (o.k == 0) = false := by simp; omega
      have k1 : (o.k == 1) = false := by simp; omega
      have k2 : (o.k == 2) = false := by simp; omega
      have k3 : (o.k == 3) = false := by simp; omega
      have hs2 := hsum _ _ hmp
      (repeat (first | (show G _ _ _ _ (WL _ _ _ _ (⟨some _, .indexAddr _ _ _, _, _, _, none⟩ :: _)); refine G.w1 ?_ (by first | exact LT.rd (Rd.ixv i (hr)) rfl | fail)) | (show G _ _ _ _ (WL _ _ _ _ (⟨some _, .indexAddr _ _ _, _, _, _, some _⟩ :: _)); refine G.gC ?_ (by first | (refine gi ?_; intros; exact LT.rd (Rd.ixv i (hr)) rfl) | fail) rfl rfl) | (show GD _ _ _ _ _ _ _ _ _ _ (⟨some _, .indexAddr _ _ _, _, _, _, none⟩ :: _); refine GD.w1 ?_ (by first | exact LT.rd (Rd.ixv i (hr)) rfl | fail)) | (show GD _ _ _ _ _ _ _ _ _ _ (⟨some _, .indexAddr _ _ _, _, _, _, some _⟩ :: _); refine GD.gC ?_ (by first | (refine gi ?_; intros; exact LT.rd (Rd.ixv i (hr)) rfl) | fail) rfl rfl) | ((repeat (revert hK; revert K)); refine wk ?_; repeat intro K hK) | refine wkg ?_))
      refine G.at (i + 1) [(0, 0), (1, 1)] ⟨by omega, by omega⟩ ?_ ?_ (by decide)
      · rw [hs2]; exact (by repeat (first | exact trivial | refine ⟨⟨rfl, rfl⟩, ?_⟩))
      · rw [hs2]; exact (by repeat (first | exact trivial | refine ⟨⟨rfl, rfl, rfl⟩, ?_⟩ | refine ⟨⟨rfl, by rw [renL_d]; rfl, kbL_d _ _⟩, ?_⟩ | refine ⟨rfl, ?_⟩))
    · have e : i = l.length := by omega
      subst e
      have hf := rfew_P (runM_ok l l.length (by omega)).1.hp
      (repeat (first | refine G.cW (hf) ?_ | refine G.cgW (hf) ?_ | refine GD.cW (hf) ?_ | refine GD.cgW (hf) ?_ | ((repeat (revert hK; revert K)); refine wk ?_; repeat intro K hK) | refine wkg ?_))
      refine G.fin3 (by first | exact rvOk.tmp | exact rvOk.cellS | exact rvOk.cell1 | fail) (by first | exact rvOk.tmp | exact rvOk.cellS | exact rvOk.cell1 | fail) (by first | exact rvOk.tmp | exact rvOk.cellS | exact rvOk.cell1 | fail) rfl ?_
      rfl

end Go.Proofs.Ytkdjbiekjgeafaa
