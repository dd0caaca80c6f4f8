/- Address spaces, the program's side: change. -/
/- Address spaces, the program's side: change, over any functions. -/
/- Address spaces, the program's side: change, Protect, Lock. -/
import Derived.Test.YtmajkjkakciaiaaUnM
set_option linter.unusedSimpArgs false
set_option linter.unusedVariables false
namespace Go.Proofs.Ytmajkjkakciaiaa
open Go.RowKit

/-- The word of a loop's round as a function. -/
def ysD (l : Nat) : D := .s (.func (.yield l) #[] #[])
def skipB (x : RV) (g c : Int) (oth : RV → Bool) : Bool := (decide (endV x ≤ g) || decide (g + c ≤ x.s)) || !oth x
def chgL (oth : RV → Bool) (tr : RV → RV) (g c : Int) (x : RV) : List RV := if skipB x g c oth = true then [x] else (divP x g c).map (fun q => bif q.2 then tr q.1 else q.1)
/-- What a function that changes a region through a pointer does. -/
def TurnF (tf : D) (tr : RV → RV) : Prop := ∀ (x : RV) (cb : Nat → Nat → Option (TypeId × List AV)) (i : Nat), (∀ i j, ClE inI (cb i j)) → FvB Try.prog CT (.d tf) [.p 6 0] ((6, some (23, x.row.map .d)) :: Is (cb i)) .any ((6, some (23, (tr x).row.map .d)) :: Is (cb i))
theorem divP_len (x : RV) (g c : Int) : (divP x g c).length ≤ 3 := by
  unfold divP divH
  split <;> split <;> simp

attribute [local irreducible] Wp WL WO fin finB rnd Exit.then Exit.inBlock G GD LT Rd Fn FnB FvB Iter
attribute [local go_sem] RV.row TD.row
theorem chg11_F {C : Cx → Prop} (hCc : Cc C) (x : RV) (b : Bool) {tf : D} {tr : RV → RV} (ht : TurnF tf tr) (ly i : Nat) (cb : Nat → Nat → Option (TypeId × List AV)) (hcl : ∀ i j, ClE inI (cb i j))
    (hy : FvB Try.prog C (yv ly) [.d (.st (bif b then tr x else x).row)] (Is (cb i)) (.d (.s (.bool true))) (Is (cb (i + 1)))) :
    FnB Try.prog C 66 [.d (.st x.row), .d (.s (.bool b)), .d (.pe [tf] 0), .d (.pe [ysD ly] 0)] (Is (cb i)) (.d (.s (.bool true))) (Is (cb (i + 1))) := by
  have htx := ht x cb i hcl
  cases b with
  | true =>
    simp only [cond_true] at hy
    refine FnB.of (ks := [100, 102, 104]) hCc Try.func66 Try.ntmps66 rfl (by kernel_rfl) (fun w o m E0 hCX => ?_) (hks := kns_Is _); (try dsimp only [Is])
    (repeat (first | (show G _ _ _ _ (WL _ _ _ _ (⟨some _, .call _, _, _, _, none⟩ :: _)); refine G.cvW (htx) ?_) | (show G _ _ _ _ (WL _ _ _ _ (⟨some _, .call _, _, _, _, none⟩ :: _)); refine G.cvCW (hy) hCc hCX ?_) | ((repeat (revert hK; revert K)); refine wkT ?_; repeat intro K hK) | refine wkg ?_))
    refine G.finB1 rfl rfl (by rfl) (by first | ((repeat (first | exact trivial | refine ⟨.inl rfl, ?_⟩ | refine ⟨.inr rfl, ?_⟩)); done) | fail) (by first | exact Is.cl (hcl _) | exact Is.cl6 (hcl _) | ((repeat (first | exact trivial | refine ⟨ClE.some rfl, ?_⟩ | (with_reducible refine ClB.d ?_) | (with_reducible refine ⟨ClE.some (numsL_d _ _), ?_⟩) | refine ⟨ClE.none, ?_⟩)); done) | fail) (by rfl)
  | false =>
    simp only [cond_false] at hy
    refine FnB.of (ks := [100, 102, 104]) hCc Try.func66 Try.ntmps66 rfl (by kernel_rfl) (fun w o m E0 hCX => ?_) (hks := kns_Is _); (try dsimp only [Is])
    (repeat (first | (show G _ _ _ _ (WL _ _ _ _ (⟨some _, .call _, _, _, _, none⟩ :: _)); refine G.cvW (htx) ?_) | (show G _ _ _ _ (WL _ _ _ _ (⟨some _, .call _, _, _, _, none⟩ :: _)); refine G.cvCW (hy) hCc hCX ?_) | ((repeat (revert hK; revert K)); refine wkT ?_; repeat intro K hK) | refine wkg ?_))
    refine G.finB1 rfl rfl (by rfl) (by first | ((repeat (first | exact trivial | refine ⟨.inl rfl, ?_⟩ | refine ⟨.inr rfl, ?_⟩)); done) | fail) (by first | exact Is.cl (hcl _) | exact Is.cl6 (hcl _) | ((repeat (first | exact trivial | refine ⟨ClE.some rfl, ?_⟩ | (with_reducible refine ClB.d ?_) | (with_reducible refine ⟨ClE.some (numsL_d _ _), ?_⟩) | refine ⟨ClE.none, ?_⟩)); done) | fail) (by rfl)

end Go.Proofs.Ytmajkjkakciaiaa

set_option linter.unusedSimpArgs false
set_option linter.unusedVariables false
namespace Go.Proofs.Ytmajkjkakciaiaa
open Go.RowKit

attribute [local irreducible] Wp WL WO fin finB rnd Exit.then Exit.inBlock G GD LT Rd Fn FnB FvB Iter
attribute [local go_sem] RV.row TD.row
def chI (p : PT) (g c : Int) (fo tf : D) (l : Nat) (cb : Nat → Nat → Option (TypeId × List AV)) (f : RV → List RV) (i : Nat) : List (Nat × AV) × Bs := ([(12, .d (.s (.int .i64 (i : Int)))), (11, .d (.s (.int .i64 (rws p.flat).length))), (10, .d (.l (rws p.flat))), (2, .d (.pe [.s (.int .i64 g)] 0)), (3, .d (.pe [.s (.int .i64 c)] 0)), (4, .d (.pe [fo] 0)), (5, .d (.pe [tf] 0)), (6, .d (.pe [ysD l] 0))], Is (cb (catN f p.flat i)))
set_option maxHeartbeats 1000000 in
theorem change_I {p : PT} (hp : good p) (g c : Int) (hb : 0 ≤ g ∧ g ≤ 512 ∧ 0 ≤ c ∧ c ≤ 512) (ko : Nat) (eo : List D) (tf : D) (oth : RV → Bool) (tr : RV → RV) (ho : ∀ x : RV, Fn Try.prog ko ([.st x.row] ++ eo) (· = .s (.bool (oth x)))) (ht : TurnF tf tr) :
    Iter Try.prog (.fn 64 [.pe p.td.row 0, .pe [.s (.int .i64 g)] 0, .pe [.s (.int .i64 c)] 0, .pe [.fn ko eo] 0, .pe [tf] 0]) (dst (cat (chgL oth tr g c) p.flat)) := by
  refine Iter.of fun C hCc ly cb hcl hy => ?_
  have hlen : ((rws p.flat).length : Int) = p.flat.length := by rw [rws_len]
  have h512 := good_len hp
  have hpl := plist_P hp
  refine FnB.vd (ds := [.pe p.td.row 0, .pe [.s (.int .i64 g)] 0, .pe [.s (.int .i64 c)] 0, .pe [.fn ko eo] 0, .pe [tf] 0]) (xs := [yv ly]) ?_
  show FnB _ _ _ [yv ly, .d (.pe p.td.row 0), .d (.pe [.s (.int .i64 g)] 0), .d (.pe [.s (.int .i64 c)] 0), .d (.pe [.fn ko eo] 0), .d (.pe [tf] 0)] _ _ _
  have hlen2 : (dst (cat (chgL oth tr g c) p.flat)).length = (cat (chgL oth tr g c) p.flat).length := by simp [dst]
  rw [hlen2, ← catN_all]
  have hc0 : catN (chgL oth tr g c) p.flat 0 = 0 := rfl
  rw [← hc0]
  refine FnB.of (ks := [100, 102, 104]) hCc Try.func64 Try.ntmps64 rfl (by kernel_rfl) (fun w o m E0 hCX => ?_) (hks := kns_Is _); (try dsimp only [Is])
  (repeat (first | ((repeat (revert hK; revert K)); refine wkS ?_; repeat intro K hK) | refine wkg ?_))
  refine G.frzP (ds := [ysD ly]) 6 ?_
  (refine G.k (by assumption) ?_; clear hK K)
  (repeat (first | refine G.cW (hpl) ?_ | refine G.cgW (hpl) ?_ | refine GD.cW (hpl) ?_ | refine GD.cgW (hpl) ?_ | ((repeat (revert hK; revert K)); refine wk ?_; repeat intro K hK) | refine wkg ?_))
  refine G.loop (chI p g c (.fn ko eo) tf ly cb (chgL oth tr g c)) (fun i => i ≤ p.flat.length) (fun i => p.flat.length - i) ?_ ?_
  · exact G.atR 0 (Nat.zero_le _) (by first | ((repeat (first | exact trivial | refine ⟨.inl rfl, ?_⟩ | refine ⟨.inr rfl, ?_⟩)); done) | fail) (Is.cl (hcl _)) rfl (by first | ((repeat (first | exact trivial | refine ⟨⟨rfl, by first | rfl | assumption | fail⟩, ?_⟩)); done) | fail)
  · intro i hi
    dsimp only [chI, Is]
    by_cases h : i < p.flat.length
    · have hr := rws_get p.flat i h
      have hs := catN_succ (chgL oth tr g c) h
      have hcg : ∀ j y, (chgL oth tr g c p.flat[i])[j]? = some y → (dst (cat (chgL oth tr g c) p.flat))[catN (chgL oth tr g c) p.flat i + j]? = some (.st y.row) := fun j y hj => cat_get _ h hj
      generalize p.flat[i] = x at hr hs hcg
      have hox := ho x
      have hef := end_F x
      cases hk : skipB x g c oth with
      | true =>
        have e : chgL oth tr g c x = [x] := by unfold chgL; rw [if_pos hk]
        rw [e] at hs hcg
        have hyi := hy _ _ (hcg 0 x rfl)
        rw [Nat.add_zero] at hyi
        unfold skipB at hk
        (repeat (first | refine G.cW (hef) ?_ | refine G.cgW (hef) ?_ | refine GD.cW (hef) ?_ | refine GD.cgW (hef) ?_ | (show G _ _ _ _ (WL _ _ _ _ (⟨some _, .indexAddr _ _ _, _, _, _, none⟩ :: _)); refine G.w1 ?_ (by first | exact LT.rd (Rd.ixv i (hr)) rfl | fail)) | (show G _ _ _ _ (WL _ _ _ _ (⟨some _, .indexAddr _ _ _, _, _, _, some _⟩ :: _)); refine G.gC ?_ (by first | (refine gi ?_; intros; exact LT.rd (Rd.ixv i (hr)) rfl) | fail) rfl rfl) | (show GD _ _ _ _ _ _ _ _ _ _ (⟨some _, .indexAddr _ _ _, _, _, _, none⟩ :: _); refine GD.w1 ?_ (by first | exact LT.rd (Rd.ixv i (hr)) rfl | fail)) | (show GD _ _ _ _ _ _ _ _ _ _ (⟨some _, .indexAddr _ _ _, _, _, _, some _⟩ :: _); refine GD.gC ?_ (by first | (refine gi ?_; intros; exact LT.rd (Rd.ixv i (hr)) rfl) | fail) rfl rfl) | (show G _ _ _ _ (WL _ _ _ _ (⟨some _, .call _, _, _, _, none⟩ :: _)); refine G.w1 ?_ (by first | exact LT.cdW (hox) | fail)) | (show G _ _ _ _ (WL _ _ _ _ (⟨some _, .call _, _, _, _, some _⟩ :: _)); refine G.gC ?_ (by first | (refine gi ?_; intros; exact LT.cdW (hox)) | fail) rfl rfl) | (show GD _ _ _ _ _ _ _ _ _ _ (⟨some _, .call _, _, _, _, none⟩ :: _); refine GD.w1 ?_ (by first | exact LT.cdW (hox) | fail)) | (show GD _ _ _ _ _ _ _ _ _ _ (⟨some _, .call _, _, _, _, some _⟩ :: _); refine GD.gC ?_ (by first | (refine gi ?_; intros; exact LT.cdW (hox)) | fail) rfl rfl) | (show G _ _ _ _ (WL _ _ _ _ (⟨some _, .call _, _, _, _, none⟩ :: _)); refine G.cvCW (hyi) hCc hCX ?_) | ((repeat (revert hK; revert K)); refine wkT ?_; repeat intro K hK) | refine wkg ?_))
        rw [show catN (chgL oth tr g c) p.flat i + 1 = catN (chgL oth tr g c) p.flat (i + 1) by rw [hs]; rfl]
        refine G.atR (i + 1) ⟨by omega, by omega⟩ (by first | ((repeat (first | exact trivial | refine ⟨.inl rfl, ?_⟩ | refine ⟨.inr rfl, ?_⟩)); done) | fail) (Is.cl (hcl _)) rfl (by first | ((repeat (first | exact trivial | refine ⟨⟨rfl, by first | rfl | assumption | fail⟩, ?_⟩)); done) | fail)
      | false =>
        have e : chgL oth tr g c x = (divP x g c).map (fun q => bif q.2 then tr q.1 else q.1) := by unfold chgL; rw [if_neg (by rw [hk]; decide)]
        rw [e] at hs hcg
        unfold skipB at hk
        have hdv := divide_F hCc x g c hb (.fn 66 [.pe [tf] 0, .pe [ysD ly] 0]) (catN (chgL oth tr g c) p.flat i) cb hcl (fun j y b hj => by
          refine FnB.vd (ds := [.pe [tf] 0, .pe [ysD ly] 0]) (xs := [.d (.st y.row), .d (.s (.bool b))]) ?_
          refine chg11_F hCc y b ht ly _ cb hcl ?_
          exact hy _ _ (hcg j (bif b then tr y else y) (by rw [List.getElem?_map, hj]; rfl)))
        have hdv' := FnB.v0 hdv
        (repeat (first | refine G.cW (hef) ?_ | refine G.cgW (hef) ?_ | refine GD.cW (hef) ?_ | refine GD.cgW (hef) ?_ | (show G _ _ _ _ (WL _ _ _ _ (⟨some _, .indexAddr _ _ _, _, _, _, none⟩ :: _)); refine G.w1 ?_ (by first | exact LT.rd (Rd.ixv i (hr)) rfl | fail)) | (show G _ _ _ _ (WL _ _ _ _ (⟨some _, .indexAddr _ _ _, _, _, _, some _⟩ :: _)); refine G.gC ?_ (by first | (refine gi ?_; intros; exact LT.rd (Rd.ixv i (hr)) rfl) | fail) rfl rfl) | (show GD _ _ _ _ _ _ _ _ _ _ (⟨some _, .indexAddr _ _ _, _, _, _, none⟩ :: _); refine GD.w1 ?_ (by first | exact LT.rd (Rd.ixv i (hr)) rfl | fail)) | (show GD _ _ _ _ _ _ _ _ _ _ (⟨some _, .indexAddr _ _ _, _, _, _, some _⟩ :: _); refine GD.gC ?_ (by first | (refine gi ?_; intros; exact LT.rd (Rd.ixv i (hr)) rfl) | fail) rfl rfl) | (show G _ _ _ _ (WL _ _ _ _ (⟨some _, .call _, _, _, _, none⟩ :: _)); refine G.w1 ?_ (by first | exact LT.cdW (hox) | fail)) | (show G _ _ _ _ (WL _ _ _ _ (⟨some _, .call _, _, _, _, some _⟩ :: _)); refine G.gC ?_ (by first | (refine gi ?_; intros; exact LT.cdW (hox)) | fail) rfl rfl) | (show GD _ _ _ _ _ _ _ _ _ _ (⟨some _, .call _, _, _, _, none⟩ :: _); refine GD.w1 ?_ (by first | exact LT.cdW (hox) | fail)) | (show GD _ _ _ _ _ _ _ _ _ _ (⟨some _, .call _, _, _, _, some _⟩ :: _); refine GD.gC ?_ (by first | (refine gi ?_; intros; exact LT.cdW (hox)) | fail) rfl rfl) | (show G _ _ _ _ (WL _ _ _ _ (⟨some _, .call _, _, _, _, none⟩ :: _)); refine G.cvCW (hdv') hCc hCX ?_) | ((repeat (revert hK; revert K)); refine wkT ?_; repeat intro K hK) | refine wkg ?_))
        rw [show catN (chgL oth tr g c) p.flat i + (divP x g c).length = catN (chgL oth tr g c) p.flat (i + 1) by rw [hs, List.length_map]]
        refine G.atR (i + 1) ⟨by omega, by omega⟩ (by first | ((repeat (first | exact trivial | refine ⟨.inl rfl, ?_⟩ | refine ⟨.inr rfl, ?_⟩)); done) | fail) (Is.cl (hcl _)) rfl (by first | ((repeat (first | exact trivial | refine ⟨⟨rfl, by first | rfl | assumption | fail⟩, ?_⟩)); done) | fail)
    · have e : i = p.flat.length := by omega
      subst e
      (repeat (first | ((repeat (revert hK; revert K)); refine wk ?_; repeat intro K hK) | refine wkg ?_))
      (try refine G.finBn ?_); refine G.finB0 rfl (by first | ((repeat (first | exact trivial | refine ⟨.inl rfl, ?_⟩ | refine ⟨.inr rfl, ?_⟩)); done) | fail) (by first | exact Is.cl (hcl _) | exact Is.cl6 (hcl _) | ((repeat (first | exact trivial | refine ⟨ClE.some rfl, ?_⟩ | (with_reducible refine ClB.d ?_) | (with_reducible refine ⟨ClE.some (numsL_d _ _), ?_⟩) | refine ⟨ClE.none, ?_⟩)); done) | fail) (by rfl)

end Go.Proofs.Ytmajkjkakciaiaa

set_option linter.unusedSimpArgs false
set_option linter.unusedVariables false
namespace Go.Proofs.Ytmajkjkakciaiaa
open Go.RowKit

/-- A change that keeps a region's pages. -/
def keepsT (tr : RV → RV) : Prop := ∀ y, chkV y = 0 → chkV (tr y) = 0 ∧ (tr y).s = y.s ∧ (tr y).p = y.p
theorem part.wide {x y : RV} {l : List RV} (h : part y l) (h1 : x.s ≤ y.s) (h2 : y.e ≤ x.e) : part x l := ⟨h.k, fun z hz => by have := h.i z hz; omega⟩
def selT (tr : RV → RV) (q : RV × Bool) : RV := bif q.2 then tr q.1 else q.1
theorem divH_part {tr : RV → RV} (ht : keepsT tr) {y : RV} {e : Int} (hy : chkV y = 0) (h1 : y.s < e) : part y ((if (splitV y e).2.2 = 0 then [((splitV y e).1, true), ((splitV y e).2.1, false)] else [(y, true)]).map (selT tr)) := by
  have by' := chkV_bd hy
  by_cases h2 : e < y.s + y.p
  · rw [split_in hy h1 h2]
    simp only [if_true, List.map_cons, List.map_nil, selT, cond_true, cond_false]
    obtain ⟨t1, t2, t3⟩ := ht _ (spLo_ok hy h1 h2)
    have q2 := spHi_ok hy h1 h2
    have e1 : (spLo y e).s = y.s := rfl
    have e2 : (spLo y e).p = e - y.s := rfl
    have e3 : (spHi y e).s = e := rfl
    have e4 : (spHi y e).p = y.p - (e - y.s) := rfl
    refine part.cons t1 (by omega) (by unfold RV.e; omega) (part.one q2 (by omega) (by unfold RV.e; omega)) (fun z hz => ?_)
    simp at hz; subst hz
    unfold RV.e; omega
  · rw [split_out hy (.inr (by omega))]
    simp only [show ((2 : Int) = 0) = False by simp, if_false, List.map_cons, List.map_nil, selT, cond_true]
    obtain ⟨t1, t2, t3⟩ := ht _ hy
    exact part.one t1 (by omega) (by unfold RV.e; omega)
theorem div_part {tr : RV → RV} (ht : keepsT tr) {x : RV} {g c : Int} (hx : chkV x = 0) (hc : 1 ≤ c) (h1 : g < x.s + x.p) (h2 : x.s < g + c) : part x ((divP x g c).map (selT tr)) := by
  have bx := chkV_bd hx
  unfold divP divH divR
  by_cases h3 : x.s < g
  · rw [split_in hx h3 h1]
    simp only [if_true, List.map_cons]
    have q1 := spLo_ok hx h3 h1
    have q2 := spHi_ok hx h3 h1
    have e1 : (spLo x g).s = x.s := rfl
    have e2 : (spLo x g).p = g - x.s := rfl
    have e3 : (spHi x g).s = g := rfl
    have e4 : (spHi x g).p = x.p - (g - x.s) := rfl
    have hp := divH_part ht (e := g + c) q2 (by omega)
    refine part.cons (y := selT tr (spLo x g, false)) q1 (by simp only [selT, cond_false]; omega) (by simp only [selT, cond_false, RV.e]; omega) (hp.wide (by omega) (by unfold RV.e; omega)) (fun z hz => ?_)
    have := (hp.i z hz).1
    simp only [selT, cond_false, RV.e]
    omega
  · rw [split_out hx (.inl (by omega))]
    simp only [show ((2 : Int) = 0) = False by simp, if_false]
    exact divH_part ht hx h2
theorem chg_part {tr : RV → RV} (ht : keepsT tr) (oth : RV → Bool) {x : RV} {g c : Int} (hx : chkV x = 0) (hc : 1 ≤ c) : part x (chgL oth tr g c x) := by
  have bx := chkV_bd hx
  unfold chgL
  cases hk : skipB x g c oth with
  | true =>
    rw [if_pos rfl]
    exact part.one hx (by omega) (by omega)
  | false =>
    rw [if_neg (by decide)]
    simp only [skipB, endV_ok hx, Bool.or_eq_false_iff, decide_eq_false_iff_not] at hk
    exact div_part ht hx hc (by omega) (by omega)
/-- What change answers. -/
def chgT (p : PT) (g c : Int) (oth : RV → Bool) (tr : RV → RV) : PT × Int := if covV p.flat g c = true then resT (cat (chgL oth tr g c) p.flat) else (.E, 13)

attribute [local irreducible] Wp WL WO fin finB rnd Exit.then Exit.inBlock G GD LT Rd Fn FnB FvB Iter
attribute [local go_sem] RV.row TD.row
theorem change_P {p : PT} (hp : ASP p) (g c : Int) (hr : rngV g c = 0) (ko : Nat) (eo : List D) (kt : Nat) (et : List D) (oth : RV → Bool) (tr : RV → RV) (ho : ∀ x : RV, Fn Try.prog ko ([.st x.row] ++ eo) (· = .s (.bool (oth x)))) (ht : TurnF (.fn kt et) tr) (hk : keepsT tr) : Fn Try.prog 34 [.st p.td.row, .s (.int .i64 g), .s (.int .i64 c), .fn ko eo, .fn kt et] (· = resD (chgT p g c oth tr)) := by
  have b := rngV_ok hr
  have hcv := covered_P hp g c hr
  cases h : covV p.flat g c with
  | true =>
    rw [h] at hcv
    have hkl : okl (cat (chgL oth tr g c) p.flat) := okl_cat hp.l (fun x hx => chg_part hk oth (hp.l.c x hx) (by omega))
    have hn := normal_F _ _ (cat (chgL oth tr g c) p.flat) (by have := hkl.le; omega) ⟨_, _, rfl, by kernel_rfl⟩ (change_I hp.g g c (by omega) ko eo (.fn kt et) oth tr ho ht)
    have hbd := build_N hkl
    unfold resD at hbd
    rw [show chgT p g c oth tr = resT (cat (chgL oth tr g c) p.flat) by unfold chgT; rw [if_pos h]]
    refine Fn.of Try.func34 Try.ntmps34 rfl (by kernel_rfl) (fun w o => ?_)
    (repeat (first | ((repeat (revert hK; revert K)); refine wkS ?_; repeat intro K hK) | refine wkg ?_))
    refine G.frzP (ds := p.td.row) 5 ?_
    refine G.frzP (ds := [.s (.int .i64 g)]) 6 ?_
    refine G.frzP (ds := [.s (.int .i64 c)]) 7 ?_
    refine G.frzP (ds := [.fn ko eo]) 8 ?_
    refine G.frzP (ds := [.fn kt et]) 9 ?_
    (refine G.k (by assumption) ?_; clear hK K)
    (repeat (first | refine G.cW (hcv) ?_ | refine G.cgW (hcv) ?_ | refine GD.cW (hcv) ?_ | refine GD.cgW (hcv) ?_ | refine G.cW (hn) ?_ | refine G.cgW (hn) ?_ | refine GD.cW (hn) ?_ | refine GD.cgW (hn) ?_ | refine G.cW (hbd) ?_ | refine G.cgW (hbd) ?_ | refine GD.cW (hbd) ?_ | refine GD.cgW (hbd) ?_ | ((repeat (revert hK; revert K)); refine wk ?_; repeat intro K hK) | refine wkg ?_))
    refine G.fin2 (by first | exact rvOk.tmp | exact rvOk.cellS | exact rvOk.cell1 | fail) (by first | exact rvOk.tmp | exact rvOk.cellS | exact rvOk.cell1 | fail) rfl ?_
    rfl
  | false =>
    rw [h] at hcv
    rw [show chgT p g c oth tr = (.E, 13) by unfold chgT; rw [if_neg (by rw [h]; decide)]]
    refine Fn.of Try.func34 Try.ntmps34 rfl (by kernel_rfl) (fun w o => ?_)
    (repeat (first | refine G.cW (hcv) ?_ | refine G.cgW (hcv) ?_ | refine GD.cW (hcv) ?_ | refine GD.cgW (hcv) ?_ | ((repeat (revert hK; revert K)); refine wk ?_; repeat intro K hK) | refine wkg ?_))
    refine G.leB 5 PT.E.td.row le_EL ?_
    refine G.fin2 (by first | exact rvOk.tmp | exact rvOk.cellS | exact rvOk.cell1 | fail) (by first | exact rvOk.tmp | exact rvOk.cellS | exact rvOk.cell1 | fail) rfl ?_
    rfl
theorem prot1_F (n : Int) (x : RV) : Fn Try.prog 35 ([.st x.row] ++ [.pe [.s (.int .i64 n)] 0]) (· = .s (.bool (x.r != n))) := by
  show Fn _ _ [.st x.row, .pe [.s (.int .i64 n)] 0] _
  refine Fn.of Try.func35 Try.ntmps35 rfl (by kernel_rfl) (fun w o => ?_)
  (repeat (first | ((repeat (revert hK; revert K)); refine wk ?_; repeat intro K hK) | refine wkg ?_))
  refine G.fin1 (by first | exact rvOk.tmp | exact rvOk.cellS | exact rvOk.cell1 | fail) rfl ?_
  rfl
theorem prot2_F (n : Int) : TurnF (.fn 36 [.pe [.s (.int .i64 n)] 0]) (fun x => { x with r := n }) := fun x cb i hcl => by
  refine FnB.vd (ds := [.pe [.s (.int .i64 n)] 0]) (xs := [.p 6 0]) ?_
  show FnB _ _ _ [.p 6 0, .d (.pe [.s (.int .i64 n)] 0)] _ _ _
  refine FnB.of (ks := [6, 100, 102, 104]) CT.c Try.func36 Try.ntmps36 rfl (by kernel_rfl) (fun w o m E0 hCX => ?_) (hks := kns_eq (l := [6, 100, 101, 102, 103, 104, 105]) rfl (by decide)); (try dsimp only [Is])
  (repeat (first | ((repeat (revert hK; revert K)); refine wk ?_; repeat intro K hK) | refine wkg ?_))
  (try refine G.finBn ?_); refine G.finB0 rfl (by first | ((repeat (first | exact trivial | refine ⟨.inl rfl, ?_⟩ | refine ⟨.inr rfl, ?_⟩)); done) | fail) (by first | exact Is.cl (hcl _) | exact Is.cl6 (hcl _) | ((repeat (first | exact trivial | refine ⟨ClE.some rfl, ?_⟩ | (with_reducible refine ClB.d ?_) | (with_reducible refine ⟨ClE.some (numsL_d _ _), ?_⟩) | refine ⟨ClE.none, ?_⟩)); done) | fail) (by rfl)
theorem lock1_F (on : Bool) (x : RV) : Fn Try.prog 50 ([.st x.row] ++ [.pe [.s (.bool on)] 0]) (· = .s (.bool ((bits .and .i64 x.f 4 != 0) != on))) := by
  show Fn _ _ [.st x.row, .pe [.s (.bool on)] 0] _
  refine Fn.of Try.func50 Try.ntmps50 rfl (by kernel_rfl) (fun w o => ?_)
  (repeat (first | ((repeat (revert hK; revert K)); refine wk ?_; repeat intro K hK) | refine wkg ?_))
  refine G.fin1 (by first | exact rvOk.tmp | exact rvOk.cellS | exact rvOk.cell1 | fail) rfl ?_
  rfl
theorem lock2_F : TurnF (.fn 51 []) (fun x => { x with f := bits .xor .i64 x.f 4 }) := fun x cb i hcl => by
  refine FnB.vd (ds := []) (xs := [.p 6 0]) ?_
  show FnB _ _ _ [.p 6 0] _ _ _
  refine FnB.of (ks := [6, 100, 102, 104]) CT.c Try.func51 Try.ntmps51 rfl (by kernel_rfl) (fun w o m E0 hCX => ?_) (hks := kns_eq (l := [6, 100, 101, 102, 103, 104, 105]) rfl (by decide)); (try dsimp only [Is])
  (repeat (first | ((repeat (revert hK; revert K)); refine wk ?_; repeat intro K hK) | refine wkg ?_))
  (try refine G.finBn ?_); refine G.finB0 rfl (by first | ((repeat (first | exact trivial | refine ⟨.inl rfl, ?_⟩ | refine ⟨.inr rfl, ?_⟩)); done) | fail) (by first | exact Is.cl (hcl _) | exact Is.cl6 (hcl _) | ((repeat (first | exact trivial | refine ⟨ClE.some rfl, ?_⟩ | (with_reducible refine ClB.d ?_) | (with_reducible refine ⟨ClE.some (numsL_d _ _), ?_⟩) | refine ⟨ClE.none, ?_⟩)); done) | fail) (by rfl)

end Go.Proofs.Ytmajkjkakciaiaa
