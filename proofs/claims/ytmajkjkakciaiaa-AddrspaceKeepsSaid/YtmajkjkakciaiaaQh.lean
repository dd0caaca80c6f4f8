/- The reference's side: listed, Check and List of a formed tree. -/
/- Any tree: both Checks say the same; a tree that they accept. -/
/- Check and List on both sides, of valid trees and of any tree. -/
import Derived.Test.YtmajkjkakciaiaaSvM
set_option linter.unusedSimpArgs false
set_option linter.unusedVariables false
namespace Go.Proofs.Ytmajkjkakciaiaa
open Go.RowKit

def ordV : List RV → Bool
  | x :: y :: l => !decide (y.s < x.s + x.p) && ordV (y :: l)
  | _ => true
def lisV (l : List RV) : Int := if l.all vldV = false then 2 else if ordV l = false then 10 else 0
theorem ordV_at : ∀ (l : List RV), ordV l = true ↔ ∀ (j : Nat) (x y : RV), l[j]? = some x → l[j + 1]? = some y → x.s + x.p ≤ y.s
  | [] => by simp [ordV]
  | [x] => by simp [ordV]
  | x :: y :: l => by
    simp only [ordV, Bool.and_eq_true, Bool.not_eq_true', decide_eq_false_iff_not, Int.not_lt, ordV_at (y :: l)]
    constructor
    · rintro ⟨h1, h2⟩ j u v hu hv
      cases j with
      | zero => simp at hu hv; subst hu; subst hv; exact h1
      | succ j => exact h2 j u v (by simpa using hu) (by simpa using hv)
    · intro h
      exact ⟨h 0 x y rfl rfl, fun j u v hu hv => h (j + 1) u v (by simpa using hu) (by simpa using hv)⟩
theorem rws_get (l : List RV) (i : Nat) (hi : i < l.length) : (rws l)[i]? = some (l[i]).row := by
  simp [rws, hi]
theorem rws_len (l : List RV) : (rws l).length = l.length := by simp [rws]
def BT.regs (t : BT) : List RV := t.nodes.map (fun n => n.td.x)
theorem regR_rws (t : BT) : regR t = rws t.regs := by simp [regR, rws, BT.regs]

attribute [local irreducible] Wp WL WO fin finB rnd Exit.then Exit.inBlock G GD LT Rd Fn FnB FvB Iter
attribute [local go_sem] RV.row TD.row
def liI (l : List RV) (i : Nat) : List (Nat × AV) × Bs := ([(3, .d (.s (.int .i64 (i : Int)))), (0, .d (.l (rws l)))], [])
def ljI (l : List RV) (i : Nat) : List (Nat × AV) × Bs := ([(4, .d (.s (.int .i64 (i : Int)))), (0, .d (.l (rws l)))], [])
theorem listed_F (l : List RV) (hl : l.length ≤ 90000) : Fn Try.prog 21 [.l (rws l)] (· = .s (.int .i64 (lisV l))) := by
  have hlen : ((rws l).length : Int) = l.length := by rw [rws_len]
  refine Fn.of Try.func21 Try.ntmps21 rfl (by kernel_rfl) (fun w o => ?_)
  (repeat (first | ((repeat (revert hK; revert K)); refine wk ?_; repeat intro K hK) | refine wkg ?_))
  refine G.loop (liI l) (fun i => i ≤ l.length ∧ ∀ j x, j < i → l[j]? = some x → vldV x = true) (fun i => l.length - i) ?_ ?_
  · exact G.at 0 [] ⟨by omega, fun j x h => by omega⟩ (by repeat (first | exact trivial | refine ⟨⟨rfl, rfl⟩, ?_⟩)) (by repeat (first | exact trivial | refine ⟨⟨rfl, rfl, rfl⟩, ?_⟩ | refine ⟨⟨rfl, by rw [renL_d]; rfl, kbL_d _ _⟩, ?_⟩ | refine ⟨rfl, ?_⟩)) (by decide)
  · rintro i ⟨h1, h2⟩
    dsimp only [liI]
    by_cases hi : i < l.length
    · have hr := rws_get l i hi
      have hv := rvalid_F l[i]
      cases hx : vldV l[i] with
      | true =>
        (repeat (first | refine G.cW (hv) ?_ | refine G.cgW (hv) ?_ | refine GD.cW (hv) ?_ | refine GD.cgW (hv) ?_ | (show G _ _ _ _ (WL _ _ _ _ (⟨some _, .indexAddr _ _ _, _, _, _, none⟩ :: _)); refine G.w1 ?_ (by first | exact LT.rd (Rd.ixv i (hr)) rfl | fail)) | (show G _ _ _ _ (WL _ _ _ _ (⟨some _, .indexAddr _ _ _, _, _, _, some _⟩ :: _)); refine G.gC ?_ (by first | (refine gi ?_; intros; exact LT.rd (Rd.ixv i (hr)) rfl) | fail) rfl rfl) | (show GD _ _ _ _ _ _ _ _ _ _ (⟨some _, .indexAddr _ _ _, _, _, _, none⟩ :: _); refine GD.w1 ?_ (by first | exact LT.rd (Rd.ixv i (hr)) rfl | fail)) | (show GD _ _ _ _ _ _ _ _ _ _ (⟨some _, .indexAddr _ _ _, _, _, _, some _⟩ :: _); refine GD.gC ?_ (by first | (refine gi ?_; intros; exact LT.rd (Rd.ixv i (hr)) rfl) | fail) rfl rfl) | ((repeat (revert hK; revert K)); refine wk ?_; repeat intro K hK) | refine wkg ?_))
        refine G.at (i + 1) [] ⟨⟨by omega, fun j x h3 h4 => ?_⟩, by omega⟩ (by repeat (first | exact trivial | refine ⟨⟨rfl, rfl⟩, ?_⟩)) (by repeat (first | exact trivial | refine ⟨⟨rfl, rfl, rfl⟩, ?_⟩ | refine ⟨⟨rfl, by rw [renL_d]; rfl, kbL_d _ _⟩, ?_⟩ | refine ⟨rfl, ?_⟩)) (by decide)
        by_cases e : j = i
        · subst e
          rw [List.getElem?_eq_getElem hi] at h4
          cases h4
          exact hx
        · exact h2 j x (by omega) h4
      | false =>
        (repeat (first | refine G.cW (hv) ?_ | refine G.cgW (hv) ?_ | refine GD.cW (hv) ?_ | refine GD.cgW (hv) ?_ | (show G _ _ _ _ (WL _ _ _ _ (⟨some _, .indexAddr _ _ _, _, _, _, none⟩ :: _)); refine G.w1 ?_ (by first | exact LT.rd (Rd.ixv i (hr)) rfl | fail)) | (show G _ _ _ _ (WL _ _ _ _ (⟨some _, .indexAddr _ _ _, _, _, _, some _⟩ :: _)); refine G.gC ?_ (by first | (refine gi ?_; intros; exact LT.rd (Rd.ixv i (hr)) rfl) | fail) rfl rfl) | (show GD _ _ _ _ _ _ _ _ _ _ (⟨some _, .indexAddr _ _ _, _, _, _, none⟩ :: _); refine GD.w1 ?_ (by first | exact LT.rd (Rd.ixv i (hr)) rfl | fail)) | (show GD _ _ _ _ _ _ _ _ _ _ (⟨some _, .indexAddr _ _ _, _, _, _, some _⟩ :: _); refine GD.gC ?_ (by first | (refine gi ?_; intros; exact LT.rd (Rd.ixv i (hr)) rfl) | fail) rfl rfl) | ((repeat (revert hK; revert K)); refine wk ?_; repeat intro K hK) | refine wkg ?_))
        refine G.fin1 (by first | exact rvOk.tmp | exact rvOk.cellS | exact rvOk.cell1 | fail) rfl ?_
        have : l.all vldV = false := by
          rw [List.all_eq_false]
          exact ⟨l[i], List.getElem_mem hi, by simp [hx]⟩
        simp [lisV, this]
    · have hall : l.all vldV = true := by
        rw [List.all_eq_true]
        intro x hx
        obtain ⟨j, hj, rfl⟩ := List.mem_iff_getElem.1 hx
        exact h2 j _ (by omega) (List.getElem?_eq_getElem hj)
      (repeat (first | ((repeat (revert hK; revert K)); refine wk ?_; repeat intro K hK) | refine wkg ?_))
      refine G.loop (ljI l) (fun i => 1 ≤ i ∧ (i ≤ l.length ∨ i = 1) ∧ ∀ (j : Nat) (x y : RV), j + 1 < i → l[j]? = some x → l[j + 1]? = some y → x.s + x.p ≤ y.s) (fun i => l.length - i) ?_ ?_
      · exact G.at 1 [] ⟨by omega, by omega, fun j x y h => by omega⟩ (by repeat (first | exact trivial | refine ⟨⟨rfl, rfl⟩, ?_⟩)) (by repeat (first | exact trivial | refine ⟨⟨rfl, rfl, rfl⟩, ?_⟩ | refine ⟨⟨rfl, by rw [renL_d]; rfl, kbL_d _ _⟩, ?_⟩ | refine ⟨rfl, ?_⟩)) (by decide)
      · rintro i ⟨h3, h4, h5⟩
        dsimp only [ljI]
        by_cases hi' : i < l.length
        · have hr := rws_get l i hi'
          have hr1 := rws_get l (i - 1) (by omega)
          have hv1 := List.all_eq_true.1 hall l[i - 1] (List.getElem_mem _)
          simp only [vldV, Bool.and_eq_true, decide_eq_true_eq] at hv1
          have he := rend_F l[i - 1] (by omega)
          have hii : i - 1 + 1 = i := by omega
          by_cases hx : l[i].s < l[i - 1].s + l[i - 1].p
          · (repeat (first | refine G.cW (he) ?_ | refine G.cgW (he) ?_ | refine GD.cW (he) ?_ | refine GD.cgW (he) ?_ | (show G _ _ _ _ (WL _ _ _ _ (⟨some _, .indexAddr _ _ _, _, _, _, none⟩ :: _)); refine G.w1 ?_ (by first | exact LT.rd (Rd.ixv i (hr)) rfl | fail)) | (show G _ _ _ _ (WL _ _ _ _ (⟨some _, .indexAddr _ _ _, _, _, _, some _⟩ :: _)); refine G.gC ?_ (by first | (refine gi ?_; intros; exact LT.rd (Rd.ixv i (hr)) rfl) | fail) rfl rfl) | (show GD _ _ _ _ _ _ _ _ _ _ (⟨some _, .indexAddr _ _ _, _, _, _, none⟩ :: _); refine GD.w1 ?_ (by first | exact LT.rd (Rd.ixv i (hr)) rfl | fail)) | (show GD _ _ _ _ _ _ _ _ _ _ (⟨some _, .indexAddr _ _ _, _, _, _, some _⟩ :: _); refine GD.gC ?_ (by first | (refine gi ?_; intros; exact LT.rd (Rd.ixv i (hr)) rfl) | fail) rfl rfl) | (show G _ _ _ _ (WL _ _ _ _ (⟨some _, .indexAddr _ _ _, _, _, _, none⟩ :: _)); refine G.w1 ?_ (by first | exact LT.rd (Rd.ixv (i - 1) (hr1)) rfl | fail)) | (show G _ _ _ _ (WL _ _ _ _ (⟨some _, .indexAddr _ _ _, _, _, _, some _⟩ :: _)); refine G.gC ?_ (by first | (refine gi ?_; intros; exact LT.rd (Rd.ixv (i - 1) (hr1)) rfl) | fail) rfl rfl) | (show GD _ _ _ _ _ _ _ _ _ _ (⟨some _, .indexAddr _ _ _, _, _, _, none⟩ :: _); refine GD.w1 ?_ (by first | exact LT.rd (Rd.ixv (i - 1) (hr1)) rfl | fail)) | (show GD _ _ _ _ _ _ _ _ _ _ (⟨some _, .indexAddr _ _ _, _, _, _, some _⟩ :: _); refine GD.gC ?_ (by first | (refine gi ?_; intros; exact LT.rd (Rd.ixv (i - 1) (hr1)) rfl) | fail) rfl rfl) | ((repeat (revert hK; revert K)); refine wk ?_; repeat intro K hK) | refine wkg ?_))
            refine G.fin1 (by first | exact rvOk.tmp | exact rvOk.cellS | exact rvOk.cell1 | fail) rfl ?_
            have : ordV l = false := by
              rw [Bool.eq_false_iff]
              intro h
              have := (ordV_at l).1 h (i - 1) l[i - 1] l[i] (List.getElem?_eq_getElem _) (by rw [hii]; exact List.getElem?_eq_getElem _)
              omega
            simp [lisV, hall, this]
          · (repeat (first | refine G.cW (he) ?_ | refine G.cgW (he) ?_ | refine GD.cW (he) ?_ | refine GD.cgW (he) ?_ | (show G _ _ _ _ (WL _ _ _ _ (⟨some _, .indexAddr _ _ _, _, _, _, none⟩ :: _)); refine G.w1 ?_ (by first | exact LT.rd (Rd.ixv i (hr)) rfl | fail)) | (show G _ _ _ _ (WL _ _ _ _ (⟨some _, .indexAddr _ _ _, _, _, _, some _⟩ :: _)); refine G.gC ?_ (by first | (refine gi ?_; intros; exact LT.rd (Rd.ixv i (hr)) rfl) | fail) rfl rfl) | (show GD _ _ _ _ _ _ _ _ _ _ (⟨some _, .indexAddr _ _ _, _, _, _, none⟩ :: _); refine GD.w1 ?_ (by first | exact LT.rd (Rd.ixv i (hr)) rfl | fail)) | (show GD _ _ _ _ _ _ _ _ _ _ (⟨some _, .indexAddr _ _ _, _, _, _, some _⟩ :: _); refine GD.gC ?_ (by first | (refine gi ?_; intros; exact LT.rd (Rd.ixv i (hr)) rfl) | fail) rfl rfl) | (show G _ _ _ _ (WL _ _ _ _ (⟨some _, .indexAddr _ _ _, _, _, _, none⟩ :: _)); refine G.w1 ?_ (by first | exact LT.rd (Rd.ixv (i - 1) (hr1)) rfl | fail)) | (show G _ _ _ _ (WL _ _ _ _ (⟨some _, .indexAddr _ _ _, _, _, _, some _⟩ :: _)); refine G.gC ?_ (by first | (refine gi ?_; intros; exact LT.rd (Rd.ixv (i - 1) (hr1)) rfl) | fail) rfl rfl) | (show GD _ _ _ _ _ _ _ _ _ _ (⟨some _, .indexAddr _ _ _, _, _, _, none⟩ :: _); refine GD.w1 ?_ (by first | exact LT.rd (Rd.ixv (i - 1) (hr1)) rfl | fail)) | (show GD _ _ _ _ _ _ _ _ _ _ (⟨some _, .indexAddr _ _ _, _, _, _, some _⟩ :: _); refine GD.gC ?_ (by first | (refine gi ?_; intros; exact LT.rd (Rd.ixv (i - 1) (hr1)) rfl) | fail) rfl rfl) | ((repeat (revert hK; revert K)); refine wk ?_; repeat intro K hK) | refine wkg ?_))
            refine G.at (i + 1) [] ⟨⟨by omega, by omega, fun j x y h6 h7 h8 => ?_⟩, by omega⟩ (by repeat (first | exact trivial | refine ⟨⟨rfl, rfl⟩, ?_⟩)) (by repeat (first | exact trivial | refine ⟨⟨rfl, rfl, rfl⟩, ?_⟩ | refine ⟨⟨rfl, by rw [renL_d]; rfl, kbL_d _ _⟩, ?_⟩ | refine ⟨rfl, ?_⟩)) (by decide)
            by_cases e : j + 1 = i
            · have ej : j = i - 1 := by omega
              subst ej
              rw [List.getElem?_eq_getElem (by omega)] at h7
              rw [hii, List.getElem?_eq_getElem hi'] at h8
              cases h7
              cases h8
              omega
            · exact h5 j x y (by omega) h7 h8
        · (repeat (first | ((repeat (revert hK; revert K)); refine wk ?_; repeat intro K hK) | refine wkg ?_))
          refine G.fin1 (by first | exact rvOk.tmp | exact rvOk.cellS | exact rvOk.cell1 | fail) rfl ?_
          have : ordV l = true := by
            rw [ordV_at]
            intro j x y h6 h7
            have := (List.getElem?_eq_some_iff.1 h7).1
            exact h5 j x y (by omega) h6 h7
          simp [lisV, hall, this]

end Go.Proofs.Ytmajkjkakciaiaa

set_option linter.unusedSimpArgs false
set_option linter.unusedVariables false
namespace Go.Proofs.Ytmajkjkakciaiaa
open Go.RowKit

theorem vld_node {l : PT} {x : RV} {r : PT} (h : ∀ y ∈ (PT.N l x r).flat, vld y) : (∀ y ∈ l.flat, vld y) ∧ vld x ∧ (∀ y ∈ r.flat, vld y) :=
  ⟨fun y hy => h y (by simp [PT.flat, hy]), h x (by simp [PT.flat]), fun y hy => h y (by simp [PT.flat, hy])⟩
theorem num_bd : ∀ {p : PT}, (∀ x ∈ p.flat, vld x) → 0 ≤ p.fst ∧ p.fst ≤ 512 ∧ 0 ≤ p.lst ∧ p.lst ≤ 512 ∧ -512 ≤ p.gp ∧ p.gp ≤ 512
  | .E, _ => by simp [PT.fst, PT.lst, PT.gp]
  | .N l x r, h => by
    obtain ⟨a, b, c⟩ := vld_node h
    obtain ⟨l1, l2, l3, l4, l5, l6⟩ := num_bd (p := l) a
    obtain ⟨r1, r2, r3, r4, r5, r6⟩ := num_bd (p := r) c
    obtain ⟨x1, x2, x3, x4⟩ := b
    simp only [PT.fst, PT.lst, PT.gp, gapN, RV.e]
    refine ⟨?_, ?_, ?_, ?_, ?_, ?_⟩ <;> (repeat' split) <;> omega
theorem vld_sm {x : RV} (h : vld x) : -1000000 ≤ x.s ∧ x.s ≤ 1000000 ∧ -1000000 ≤ x.p ∧ x.p ≤ 1000000 := by
  obtain ⟨x1, x2, x3, x4⟩ := h
  omega
theorem bdd_of : ∀ (p : PT), (∀ x ∈ p.flat, vld x) → p.ht ≤ 100000 → p.bdd
  | .E, _, _ => trivial
  | .N l x r, h, hh => by
    obtain ⟨a, b, c⟩ := vld_node h
    obtain ⟨n1, n2, n3, n4, n5, n6⟩ := num_bd h
    have nl := PT.ht_nn l
    have nr := PT.ht_nn r
    have hn := PT.ht_nn (.N l x r)
    have hh' : 1 + max l.ht r.ht ≤ 100000 := hh
    refine ⟨⟨?_⟩, vld_sm b, bdd_of l a (by omega), bdd_of r c (by omega)⟩
    dsimp only [PT.td]
    omega
theorem ht_len : ∀ p : PT, p.ht ≤ p.flat.length
  | .E => by simp [PT.ht, PT.flat]
  | .N l x r => by
    have h1 := ht_len l
    have h2 := ht_len r
    simp only [PT.ht, PT.flat, List.length_append, List.length_cons]
    omega
theorem ord_len : ∀ (l : List RV) (m : Int), ord l → (∀ x ∈ l, m ≤ x.s) → 0 ≤ m → m ≤ 512 → (l.length : Int) ≤ 512 - m
  | [], m, _, _, h0, h1 => by simp; omega
  | x :: l, m, h, hm, h0, h1 => by
    obtain ⟨hx, hl, ha⟩ := ord_cons h
    have e := hm x (by simp)
    obtain ⟨v1, v2, v3, v4⟩ := hx
    have := ord_len l x.e hl (fun y hy => ha y hy) (by unfold RV.e; omega) (by unfold RV.e; omega)
    unfold RV.e at this
    simp only [List.length_cons]
    omega
theorem good_len {p : PT} (h : good p) : p.flat.length ≤ 512 := by
  have := ord_len p.flat 0 h.o (fun x hx => (h.o.v x hx).1) (by omega) (by omega)
  omega
theorem good_bdd {p : PT} (h : good p) : p.bdd := bdd_of p h.o.v (by have := ht_len p; have := good_len h; omega)

theorem vldV_iff (x : RV) : vldV x = true ↔ vld x := by
  simp only [vldV, vld, Bool.and_eq_true, decide_eq_true_eq]
  constructor
  · rintro ⟨⟨⟨h1, h2⟩, h3⟩, h4⟩
    exact ⟨h1, h2, h3, by omega⟩
  · rintro ⟨h1, h2, h3, h4⟩
    exact ⟨⟨⟨h1, h2⟩, h3⟩, by omega⟩
theorem av_regs (t : BT) : avS t t.nodes.length = t.regs.all vldV := by
  have key : ∀ (l : List BT) (b : Bool), l.foldl (fun ok n => ok && vldV n.td.x) b = (b && (l.map (fun n => n.td.x)).all vldV) := by
    intro l
    induction l with
    | nil => intro b; simp
    | cons n l ih => intro b; rw [List.foldl_cons, ih]; simp [Bool.and_assoc]
  simp only [avS, List.take_length, key, BT.regs, Bool.true_and]
theorem od_regs (t : BT) (hv : t.regs.all vldV = true) : (odS t t.nodes.length).1 = ordV t.regs := by
  have key : ∀ (l : List BT) (b : Bool) (m : Int), (l.foldl (fun (s : Bool × Int) n => (s.1 && decide (s.2 ≤ n.td.x.s), n.td.x.s + n.td.x.p)) (b, m)).1 = (b && (match l with | [] => true | n :: _ => decide (m ≤ n.td.x.s)) && ordV (l.map (fun n => n.td.x))) := by
    intro l
    induction l with
    | nil => intro b m; simp [ordV]
    | cons n l ih =>
      intro b m
      rw [List.foldl_cons, ih]
      cases l with
      | nil => simp [ordV]
      | cons n' l =>
        have e : decide (n.td.x.s + n.td.x.p ≤ n'.td.x.s) = !decide (n'.td.x.s < n.td.x.s + n.td.x.p) := by
          by_cases h : n'.td.x.s < n.td.x.s + n.td.x.p
          · (try simp [h]) <;> (try omega)
          · (try simp [h]) <;> (try omega)
        simp only [List.map_cons, ordV, e]
        cases b <;> simp [Bool.and_assoc]
  simp only [odS, List.take_length, key, BT.regs, Bool.true_and]
  cases hn : t.nodes with
  | nil => simp
  | cons n l =>
    have h1 := List.all_eq_true.1 hv n.td.x (by simp [BT.regs, hn])
    have h2 := ((vldV_iff _).1 h1).1
    simp [h2]
/-- How deep. -/
def BT.dp : BT → Int
  | .E => 0
  | .N _ _ _ _ a _ b => 1 + max a.dp b.dp
theorem BT.dp_nn : ∀ t : BT, 0 ≤ t.dp
  | .E => Int.le_refl _
  | .N _ _ _ _ a _ b => by have := BT.dp_nn a; have := BT.dp_nn b; simp only [BT.dp]; omega
theorem BT.dp_len : ∀ t : BT, t.dp ≤ t.nodes.length
  | .E => by simp [BT.dp]
  | .N _ _ _ _ a _ b => by
    have := BT.dp_len a
    have := BT.dp_len b
    simp only [BT.dp, BT.nodes, List.length_append, List.length_cons]
    omega
theorem wr_in {n : Int} (h : -9223372036854775808 ≤ n ∧ n ≤ 9223372036854775807) : wr n = n := Yq n h
theorem num_h : ∀ t : BT, numB t = true → t.dp ≤ 1000 → t.td.h = t.dp
  | .E, _, _ => rfl
  | .N h f l g a x b, hn, hd => by
    have na := BT.dp_nn a
    have nb := BT.dp_nn b
    simp only [BT.dp] at hd
    simp only [numB, Bool.and_eq_true] at hn
    obtain ⟨⟨h1, h2⟩, h3⟩ := hn
    have e1 := num_h a h1 (by omega)
    have e2 := num_h b h2 (by omega)
    simp only [okT, Bool.and_eq_true, beq_iff_eq] at h3
    have h4 := h3.1.1.1.1.1
    rw [h4]
    simp only [nodeR, e1, e2, BT.dp]
    exact wr_in (by omega)
theorem node_same {a b : BT} {x : RV} (h1 : 0 ≤ a.td.h) (h2 : 0 ≤ b.td.h) : nodeW a.td x b.td = nodeR a.td x b.td := by
  have c1 : (0 < a.td.h) = ¬ (a.td.h = 0) := by apply propext; omega
  have c2 : (0 < b.td.h) = ¬ (b.td.h = 0) := by apply propext; omega
  simp only [nodeW, nodeW.gapW, nodeR, nodeR.gapR, c1, c2]
  by_cases p : a.td.h = 0 <;> by_cases q : b.td.h = 0 <;> simp [p, q]
theorem bad_ok : ∀ t : BT, t.dp ≤ 1000 → ((∀ b ∈ t.nodes, badB b = false) ↔ numB t = true)
  | .E, _ => by simp [BT.nodes, numB]
  | .N h f l g a x b, hd => by
    have na := BT.dp_nn a
    have nb := BT.dp_nn b
    simp only [BT.dp] at hd
    have ia := bad_ok a (by omega)
    have ib := bad_ok b (by omega)
    have key : numB a = true → numB b = true → (badB (.N h f l g a x b) = false ↔ okT (BT.N h f l g a x b).td a.td b.td = true) := fun h1 h2 => by
      have e1 := num_h a h1 (by omega)
      have e2 := num_h b h2 (by omega)
      simp only [badB, badT, okT, node_same (a := a) (b := b) (x := (BT.N h f l g a x b).td.x) (by omega) (by omega), e1, e2, wr_in (n := a.dp - b.dp) (by omega), wr_in (n := b.dp + 1) (by omega), wr_in (n := a.dp + 1) (by omega), Bool.or_eq_false_iff, Bool.and_eq_true, bne_eq_false_iff_eq, beq_iff_eq, decide_eq_true_eq, decide_eq_false_iff_not]
      constructor
      · rintro ⟨⟨⟨⟨⟨q1, q2⟩, q3⟩, q4⟩, q5⟩, q6⟩
        exact ⟨⟨⟨⟨⟨q1.symm, q2.symm⟩, q3.symm⟩, q4.symm⟩, by omega⟩, by omega⟩
      · rintro ⟨⟨⟨⟨⟨q1, q2⟩, q3⟩, q4⟩, q5⟩, q6⟩
        exact ⟨⟨⟨⟨⟨q1.symm, q2.symm⟩, q3.symm⟩, q4.symm⟩, by omega⟩, by omega⟩
    constructor
    · intro hh
      have h1 := ia.1 (fun q hq => hh q (by simp [BT.nodes, hq]))
      have h2 := ib.1 (fun q hq => hh q (by simp [BT.nodes, hq]))
      have h3 := (key h1 h2).1 (hh _ (by simp [BT.nodes]))
      simp [numB, h1, h2, h3]
    · intro hh
      simp only [numB, Bool.and_eq_true] at hh
      obtain ⟨⟨h1, h2⟩, h3⟩ := hh
      intro q hq
      rcases List.mem_append.1 (show q ∈ a.nodes ++ BT.N h f l g a x b :: b.nodes from hq) with h | h
      · exact ia.2 h1 q h
      · rcases List.mem_cons.1 h with h | h
        · rw [h]; exact (key h1 h2).2 h3
        · exact ib.2 h2 q h
theorem nu_num {t : BT} (hd : t.dp ≤ 1000) : nuS t t.nodes.length = numB t := by
  have key : ∀ (l : List BT) (ok : Bool), l.foldl (fun ok n => bif badB n then false else ok) ok = (ok && l.all (fun b => !(badB b))) := by
    intro l
    induction l with
    | nil => intro ok; simp
    | cons b l ih =>
      intro ok
      rw [List.foldl_cons, ih]
      cases h : badB b <;> simp [h]
  have h := bad_ok t hd
  simp only [nuS, List.take_length, key, Bool.true_and]
  rw [Bool.eq_iff_iff, ← h, List.all_eq_true]
  simp
def chkRB (t : BT) : Int := if lisV t.regs = 0 then (if numB t = true then 0 else 11) else lisV t.regs
theorem chk_same {t : BT} (hd : t.dp ≤ 1000) : chkB t = chkRB t := by
  unfold chkB chkRB lisV
  rw [av_regs, nu_num hd]
  cases h1 : t.regs.all vldV with
  | false => simp
  | true =>
    rw [od_regs t h1]
    cases h2 : ordV t.regs with
    | false => simp
    | true => cases numB t <;> simp
/-- A tree without its numbers. -/
def BT.sh : BT → PT
  | .E => .E
  | .N _ _ _ _ a x b => .N a.sh x b.sh
theorem regs_N' (h f l g : Int) (a : BT) (x : RV) (b : BT) : (BT.N h f l g a x b).regs = a.regs ++ x :: b.regs := by simp [BT.regs, BT.nodes, BT.td]
theorem sh_flat : ∀ t : BT, t.sh.flat = t.regs
  | .E => rfl
  | .N h f l g a x b => by
    rw [regs_N']
    show a.sh.flat ++ x :: b.sh.flat = _
    rw [sh_flat a, sh_flat b]
theorem sh_ht : ∀ t : BT, t.sh.ht = t.dp
  | .E => rfl
  | .N h f l g a x b => by
    simp only [BT.sh, PT.ht, BT.dp, sh_ht a, sh_ht b]
theorem nodeR_td {l r : PT} {x : RV} (hl : ∀ y ∈ l.flat, vld y) (hr : ∀ y ∈ r.flat, vld y) (hx : vld x) (h1 : l.ht ≤ 1000) (h2 : r.ht ≤ 1000) : nodeR l.td x r.td = (PT.N l x r).td := by
  have nl := PT.ht_nn l
  have nr := PT.ht_nn r
  obtain ⟨l1, l2, l3, l4, l5, l6⟩ := num_bd hl
  obtain ⟨r1, r2, r3, r4, r5, r6⟩ := num_bd hr
  obtain ⟨x1, x2, x3, x4⟩ := hx
  have c1 : (0 < l.ht) = ¬ (l.ht = 0) := by apply propext; omega
  have c2 : (0 < r.ht) = ¬ (r.ht = 0) := by apply propext; omega
  simp only [nodeR, nodeR.gapR, PT.td, PT.ht, PT.fst, PT.lst, PT.gp, gapN, RV.e, PT.reg, PT.kids, c1, c2]
  rw [wr_in (n := 1 + max l.ht r.ht) (by omega), wr_in (n := x.s - l.lst) (by omega), wr_in (n := r.fst - (x.s + x.p)) (by omega)]
  by_cases p : l.ht = 0 <;> by_cases q : r.ht = 0 <;> simp [p, q, PT.td]
theorem sh_bt : ∀ t : BT, numB t = true → (∀ x ∈ t.regs, vld x) → t.dp ≤ 1000 → t.sh.td = t.td ∧ t.sh.bal
  | .E, _, _, _ => ⟨rfl, trivial⟩
  | .N h f l g a x b, hn, hv, hd => by
    have na := BT.dp_nn a
    have nb := BT.dp_nn b
    simp only [BT.dp] at hd
    have hq := num_h _ hn (by simp only [BT.dp]; omega)
    simp only [numB, Bool.and_eq_true] at hn
    obtain ⟨⟨h1, h2⟩, h3⟩ := hn
    rw [regs_N'] at hv
    have va : ∀ y ∈ a.regs, vld y := fun y hy => hv y (by simp [hy])
    have vb : ∀ y ∈ b.regs, vld y := fun y hy => hv y (by simp [hy])
    obtain ⟨e1, c1⟩ := sh_bt a h1 va (by omega)
    obtain ⟨e2, c2⟩ := sh_bt b h2 vb (by omega)
    have hN := nodeR_td (l := a.sh) (r := b.sh) (x := x) (by rw [sh_flat]; exact va) (by rw [sh_flat]; exact vb) (hv x (by simp)) (by rw [sh_ht]; omega) (by rw [sh_ht]; omega)
    rw [e1, e2] at hN
    have e5 := num_h a h1 (by omega)
    have e6 := num_h b h2 (by omega)
    simp only [okT, Bool.and_eq_true, beq_iff_eq, decide_eq_true_eq] at h3
    obtain ⟨⟨⟨⟨⟨q1, q2⟩, q3⟩, q4⟩, q5⟩, q6⟩ := h3
    have hxx : (BT.N h f l g a x b).td.x = x := rfl
    rw [hxx, hN] at q1 q2 q3 q4
    rw [e5, e6, wr_in (by omega)] at q5
    rw [e5, e6, wr_in (by omega)] at q6
    refine ⟨?_, c1, c2, by rw [sh_ht, sh_ht]; exact q5, by rw [sh_ht, sh_ht]; exact q6⟩
    have e7 : (BT.N h f l g a x b).sh.td = (PT.N a.sh x b.sh).td := rfl
    have e8 : (PT.N a.sh x b.sh).td.k = [a.td.row, b.td.row] := by rw [← e1, ← e2]; rfl
    have e9 : (PT.N a.sh x b.sh).td.x = x := rfl
    rw [e7]
    cases hT : (PT.N a.sh x b.sh).td with
    | mk h' f' l' g' x' k' =>
      rw [hT] at q1 q2 q3 q4 e8 e9
      simp only [BT.td] at q1 q2 q3 q4
      simp only at e8 e9
      simp only [BT.td, q1, q2, q3, q4, e8, e9]
theorem ordV_pair : ∀ (l : List RV), l.all vldV = true → ordV l = true → l.Pairwise apart
  | [], _, _ => .nil
  | [x], _, _ => by simp
  | x :: y :: l, hv, h => by
    simp only [ordV, Bool.and_eq_true, Bool.not_eq_true', decide_eq_false_iff_not, Int.not_lt] at h
    simp only [List.all_cons, Bool.and_eq_true] at hv
    have ih := ordV_pair (y :: l) (by simp [hv.2.1, hv.2.2]) h.2
    refine List.pairwise_cons.2 ⟨fun z hz => ?_, ih⟩
    rcases List.mem_cons.1 hz with rfl | hz
    · exact h.1
    · have h1 := (List.pairwise_cons.1 ih).1 z hz
      have h2 := (vldV_iff y).1 hv.2.1
      have h3 := h.1
      unfold apart RV.e at *
      have := h2.2.1
      omega
/-- A tree that Check accepts is one whose numbers are those of its shape. -/
theorem chk_good {t : BT} (hd : t.dp ≤ 1000) (h : chkRB t = 0) : ∃ p : PT, p.td = t.td ∧ good p ∧ p.flat = t.regs := by
  unfold chkRB at h
  by_cases h1 : lisV t.regs = 0
  · rw [if_pos h1] at h
    cases h2 : numB t with
    | false => rw [h2] at h; simp at h
    | true =>
      unfold lisV at h1
      cases h3 : t.regs.all vldV with
      | false => rw [h3] at h1; simp at h1
      | true =>
        rw [h3] at h1
        cases h4 : ordV t.regs with
        | false => rw [h4] at h1; simp at h1
        | true =>
          have hv : ∀ x ∈ t.regs, vld x := fun x hx => (vldV_iff x).1 (List.all_eq_true.1 h3 x hx)
          obtain ⟨e, hb⟩ := sh_bt t h2 hv hd
          exact ⟨t.sh, e, ⟨hb, by rw [sh_flat]; exact ⟨hv, ordV_pair _ h3 h4⟩⟩, sh_flat t⟩
  · rw [if_neg h1] at h
    exact absurd h h1

end Go.Proofs.Ytmajkjkakciaiaa

set_option linter.unusedSimpArgs false
set_option linter.unusedVariables false
namespace Go.Proofs.Ytmajkjkakciaiaa
open Go.RowKit

theorem sm_of (t : BT) (h : lisV t.regs = 0) : SmT t := by
  intro n hn
  have h1 : t.regs.all vldV = true := by
    unfold lisV at h
    cases h2 : t.regs.all vldV with
    | true => rfl
    | false => rw [h2] at h; simp at h
  exact vld_sm ((vldV_iff _).1 (List.all_eq_true.1 h1 n.td.x (List.mem_map.2 ⟨n, hn, rfl⟩)))

attribute [local irreducible] Wp WL WO fin finB rnd Exit.then Exit.inBlock G GD LT Rd Fn FnB FvB Iter
attribute [local go_sem] RV.row TD.row
section
variable (t : BT) (ht : t.ok) (hl : t.nodes.length ≤ 900)
include ht hl
theorem regs1 : FvB Try.prog CT (.fn 20 []) [.d (.st t.td.row), .d (.s (.slice none 0 0))] [(101, none)] (.o 101 t.regs.length) [(101, some (23, (rws t.regs).flatten.map .d))] := by
  have := regs0_F t ht (by omega)
  rw [regR_rws] at this
  rw [show t.regs.length = t.nodes.length by simp [BT.regs]]
  exact this
theorem rcheck_F (hF : Fn Try.prog 44 [.st t.td.row] (· = .s (.bool true))) : Fn Try.prog 19 [.st t.td.row] (· = .s (.int .i64 (chkRB t))) := by
  have hr := regs1 t ht hl
  have hli := listed_F t.regs (by simp [BT.regs]; omega)
  by_cases h0 : lisV t.regs = 0
  · have hb : (lisV t.regs != 0) = false := by simp [h0]
    have hn := rnum_F t ht (sm_of t h0)
    cases h1 : numB t with
    | true =>
      rw [h1] at hn
      refine Fn.of Try.func19 Try.ntmps19 rfl (by kernel_rfl) (fun w o => ?_)
      (repeat (first | refine G.cW (hF) ?_ | refine G.cgW (hF) ?_ | refine GD.cW (hF) ?_ | refine GD.cgW (hF) ?_ | (show G _ _ _ _ (WL _ _ _ _ (⟨some _, .call _, _, _, _, none⟩ :: _)); refine G.cvW ( hr) ?_) | ((repeat (revert hK; revert K)); refine wkT ?_; repeat intro K hK) | refine wkg ?_))
      refine G.frz (T := 23) (m := 6) (b := 101) (rows := rws t.regs) 10 ?_ (by intro r hr; obtain ⟨n, _, rfl⟩ := List.mem_map.1 hr; rfl) (by rw [rws_len])
      (repeat (first | refine G.cW (hli) ?_ | refine G.cgW (hli) ?_ | refine GD.cW (hli) ?_ | refine GD.cgW (hli) ?_ | refine G.cW (hn) ?_ | refine G.cgW (hn) ?_ | refine GD.cW (hn) ?_ | refine GD.cgW (hn) ?_ | ((repeat (revert hK; revert K)); refine wk ?_; repeat intro K hK) | refine wkg ?_))
      refine G.fin1 (by first | exact rvOk.tmp | exact rvOk.cellS | exact rvOk.cell1 | fail) rfl ?_
      simp [chkRB, h0, h1]
    | false =>
      rw [h1] at hn
      refine Fn.of Try.func19 Try.ntmps19 rfl (by kernel_rfl) (fun w o => ?_)
      (repeat (first | refine G.cW (hF) ?_ | refine G.cgW (hF) ?_ | refine GD.cW (hF) ?_ | refine GD.cgW (hF) ?_ | (show G _ _ _ _ (WL _ _ _ _ (⟨some _, .call _, _, _, _, none⟩ :: _)); refine G.cvW ( hr) ?_) | ((repeat (revert hK; revert K)); refine wkT ?_; repeat intro K hK) | refine wkg ?_))
      refine G.frz (T := 23) (m := 6) (b := 101) (rows := rws t.regs) 10 ?_ (by intro r hr; obtain ⟨n, _, rfl⟩ := List.mem_map.1 hr; rfl) (by rw [rws_len])
      (repeat (first | refine G.cW (hli) ?_ | refine G.cgW (hli) ?_ | refine GD.cW (hli) ?_ | refine GD.cgW (hli) ?_ | refine G.cW (hn) ?_ | refine G.cgW (hn) ?_ | refine GD.cW (hn) ?_ | refine GD.cgW (hn) ?_ | ((repeat (revert hK; revert K)); refine wk ?_; repeat intro K hK) | refine wkg ?_))
      refine G.fin1 (by first | exact rvOk.tmp | exact rvOk.cellS | exact rvOk.cell1 | fail) rfl ?_
      simp [chkRB, h0, h1]
  · have hb : (lisV t.regs != 0) = true := by simp [h0]
    refine Fn.of Try.func19 Try.ntmps19 rfl (by kernel_rfl) (fun w o => ?_)
    (repeat (first | refine G.cW (hF) ?_ | refine G.cgW (hF) ?_ | refine GD.cW (hF) ?_ | refine GD.cgW (hF) ?_ | (show G _ _ _ _ (WL _ _ _ _ (⟨some _, .call _, _, _, _, none⟩ :: _)); refine G.cvW ( hr) ?_) | ((repeat (revert hK; revert K)); refine wkT ?_; repeat intro K hK) | refine wkg ?_))
    refine G.frz (T := 23) (m := 6) (b := 101) (rows := rws t.regs) 10 ?_ (by intro r hr; obtain ⟨n, _, rfl⟩ := List.mem_map.1 hr; rfl) (by rw [rws_len])
    (repeat (first | refine G.cW (hli) ?_ | refine G.cgW (hli) ?_ | refine GD.cW (hli) ?_ | refine GD.cgW (hli) ?_ | ((repeat (revert hK; revert K)); refine wk ?_; repeat intro K hK) | refine wkg ?_))
    refine G.fin1 (by first | exact rvOk.tmp | exact rvOk.cellS | exact rvOk.cell1 | fail) rfl ?_
    simp [chkRB, h0]
theorem rlist_ok (hC : Fn Try.prog 19 [.st t.td.row] (· = .s (.int .i64 0))) : Fn Try.prog 6 [.st t.td.row] (· = .l (rws t.regs)) := by
  have hr := regs1 t ht hl
  refine Fn.of Try.func6 Try.ntmps6 rfl (by kernel_rfl) (fun w o => ?_)
  (repeat (first | refine G.cW (hC) ?_ | refine G.cgW (hC) ?_ | refine GD.cW (hC) ?_ | refine GD.cgW (hC) ?_ | (show G _ _ _ _ (WL _ _ _ _ (⟨some _, .call _, _, _, _, none⟩ :: _)); refine G.cvW ( hr) ?_) | ((repeat (revert hK; revert K)); refine wkT ?_; repeat intro K hK) | refine wkg ?_))
  refine G.frz (T := 23) (m := 6) (b := 101) (rows := rws t.regs) 2 ?_ (by intro r hr; obtain ⟨n, _, rfl⟩ := List.mem_map.1 hr; rfl) (by rw [rws_len])
  refine G.fin1 (by first | exact rvOk.tmp | exact rvOk.cellS | exact rvOk.cell1 | fail) rfl ?_
  rfl
end
theorem rlist_bad (t : TD) (e : Int) (he : e ≠ 0) (hC : Fn Try.prog 19 [.st t.row] (· = .s (.int .i64 e))) : Fn Try.prog 6 [.st t.row] (· = .s (.slice none 0 0)) := by
  have hb : (e != 0) = true := by simpa using he
  refine Fn.of Try.func6 Try.ntmps6 rfl (by kernel_rfl) (fun w o => ?_)
  (repeat (first | refine G.cW (hC) ?_ | refine G.cgW (hC) ?_ | refine GD.cW (hC) ?_ | refine GD.cgW (hC) ?_ | ((repeat (revert hK; revert K)); refine wk ?_; repeat intro K hK) | refine wkg ?_))
  refine G.fin1 (by first | exact rvOk.tmp | exact rvOk.cellS | exact rvOk.cell1 | fail) rfl ?_
  rfl
theorem check_un (t : TD) (hF : Fn Try.prog 71 [.st t.row] (· = .s (.bool false))) : Fn Try.prog 52 [.st t.row] (· = .s (.int .i64 3)) := by
  refine Fn.of Try.func52 Try.ntmps52 rfl (by kernel_rfl) (fun w o => ?_)
  (repeat (first | refine G.cW (hF) ?_ | refine G.cgW (hF) ?_ | refine GD.cW (hF) ?_ | refine GD.cgW (hF) ?_ | ((repeat (revert hK; revert K)); refine wk ?_; repeat intro K hK) | refine wkg ?_))
  refine G.fin1 (by first | exact rvOk.tmp | exact rvOk.cellS | exact rvOk.cell1 | fail) rfl ?_
  rfl
theorem rcheck_un (t : TD) (hF : Fn Try.prog 44 [.st t.row] (· = .s (.bool false))) : Fn Try.prog 19 [.st t.row] (· = .s (.int .i64 3)) := by
  refine Fn.of Try.func19 Try.ntmps19 rfl (by kernel_rfl) (fun w o => ?_)
  (repeat (first | refine G.cW (hF) ?_ | refine G.cgW (hF) ?_ | refine GD.cW (hF) ?_ | refine GD.cgW (hF) ?_ | ((repeat (revert hK; revert K)); refine wk ?_; repeat intro K hK) | refine wkg ?_))
  refine G.fin1 (by first | exact rvOk.tmp | exact rvOk.cellS | exact rvOk.cell1 | fail) rfl ?_
  rfl
theorem formed_B : ∀ t : BT, t.ok → Fn Try.prog 71 [.st t.td.row] (· = .s (.bool true))
  | .E, _ => formed_z BT.E.td rfl
  | .N h f l g a x b, ⟨h0, h1, h2⟩ => formed_2 _ a.td b.td true true h0 rfl (formed_B a h1) (formed_B b h2)
theorem rformed_B : ∀ t : BT, t.ok → Fn Try.prog 44 [.st t.td.row] (· = .s (.bool true))
  | .E, _ => rformed_z BT.E.td rfl
  | .N h f l g a x b, ⟨h0, h1, h2⟩ => rformed_2 _ a.td b.td true true h0 rfl (rformed_B a h1) (rformed_B b h2)

/-! ### Trees whose numbers are right -/
def PT.bt : PT → BT
  | .E => .E
  | .N l x r => .N (PT.N l x r).ht (PT.N l x r).fst (PT.N l x r).lst (PT.N l x r).gp l.bt x r.bt
theorem bt_td : ∀ p : PT, p.bt.td = p.td
  | .E => rfl
  | .N l x r => by
    simp only [PT.bt, BT.td, bt_td l, bt_td r]
    rfl
theorem bt_ok : ∀ p : PT, p.bt.ok
  | .E => trivial
  | .N l x r => ⟨by have := PT.ht_pos l x r; omega, bt_ok l, bt_ok r⟩
theorem bt_regs : ∀ p : PT, p.bt.regs = p.flat
  | .E => rfl
  | .N l x r => by
    simp only [PT.bt, regs_N', PT.flat, bt_regs l, bt_regs r]
theorem bt_num : ∀ p : PT, p.bal → (∀ x ∈ p.flat, vld x) → p.ht ≤ 1000 → numB p.bt = true
  | .E, _, _, _ => rfl
  | .N l x r, ⟨b1, b2, b3, b4⟩, hv, hh => by
    obtain ⟨v1, v2, v3⟩ := vld_node hv
    have nl := PT.ht_nn l
    have nr := PT.ht_nn r
    have hh' : 1 + max l.ht r.ht ≤ 1000 := hh
    have h1 := bt_num l b1 v1 (by omega)
    have h2 := bt_num r b2 v3 (by omega)
    have h3 := nodeR_td (x := x) v1 v3 v2 (by omega) (by omega)
    have e1 : l.td.h = l.ht := rfl
    have e2 : r.td.h = r.ht := rfl
    have e3 : (PT.N l x r).bt.td = (PT.N l x r).td := bt_td _
    have e4 : (PT.N l x r).td.x = x := rfl
    have h4 : okT (PT.N l x r).bt.td l.bt.td r.bt.td = true := by
      rw [e3, bt_td, bt_td]
      simp [okT, e4, h3, e1, e2, wr_in (n := r.ht + 1) (by omega), wr_in (n := l.ht + 1) (by omega), b3, b4]
    simp only [PT.bt, numB, h1, h2, Bool.true_and]
    exact h4
theorem bt_dp : ∀ p : PT, p.bt.dp = p.ht
  | .E => rfl
  | .N l x r => by simp only [PT.bt, BT.dp, PT.ht, bt_dp l, bt_dp r]
theorem ordV_of : ∀ l : List RV, l.Pairwise apart → ordV l = true
  | [], _ => rfl
  | [x], _ => rfl
  | x :: y :: l, h => by
    have h1 := List.pairwise_cons.1 h
    have h2 := h1.1 y (by simp)
    unfold apart RV.e at h2
    simp only [ordV, ordV_of (y :: l) h1.2, Bool.and_true, Bool.not_eq_true', decide_eq_false_iff_not]
    omega
section
variable {p : PT} (hp : good p)
include hp
theorem bt_len : p.bt.nodes.length ≤ 900 := by
  have h := good_len hp
  rw [← bt_regs] at h
  have : p.bt.regs.length = p.bt.nodes.length := by simp [BT.regs]
  omega
theorem good_ht' : p.ht ≤ 1000 := by have := ht_len p; have := good_len hp; omega
theorem chk_of_good : chkRB p.bt = 0 := by
  have h1 := bt_num p hp.b hp.o.v (good_ht' hp)
  have h2 : lisV p.bt.regs = 0 := by
    rw [bt_regs]
    have h3 : p.flat.all vldV = true := List.all_eq_true.2 (fun x hx => (vldV_iff x).2 (hp.o.v x hx))
    simp [lisV, h3, ordV_of _ hp.o.o]
  simp [chkRB, h1, h2]
theorem pcheck_P : Fn Try.prog 52 [.st p.td.row] (· = .s (.int .i64 0)) := by
  have h := check_F p.bt (bt_ok p) (formed_B _ (bt_ok p))
  rw [chk_same (by rw [bt_dp]; exact good_ht' hp), chk_of_good hp, bt_td] at h
  exact h
theorem rcheck_P : Fn Try.prog 19 [.st p.td.row] (· = .s (.int .i64 0)) := by
  have h := rcheck_F p.bt (bt_ok p) (bt_len hp) (rformed_B _ (bt_ok p))
  rw [chk_of_good hp, bt_td] at h
  exact h
theorem plist_P : Fn Try.prog 27 [.st p.td.row] (· = .l (rws p.flat)) := by
  have h := list_ok p.bt (bt_ok p) (bt_len hp) (by rw [bt_td]; exact pcheck_P hp)
  have e : p.bt.nodes.map (fun n => n.td.x.row) = rws p.flat := by rw [← bt_regs]; exact regR_rws _
  rw [e, bt_td] at h
  exact h
theorem rlist_P : Fn Try.prog 6 [.st p.td.row] (· = .l (rws p.flat)) := by
  have h := rlist_ok p.bt (bt_ok p) (bt_len hp) (by rw [bt_td]; exact rcheck_P hp)
  rw [bt_regs, bt_td] at h
  exact h
end
/-- What both sides make of a tree: an error, or a tree whose numbers are right. -/
inductive TOK (t : TD) : Prop
  | bad (e : Int) (he : e ≠ 0) (h1 : Fn Try.prog 52 [.st t.row] (· = .s (.int .i64 e))) (h2 : Fn Try.prog 19 [.st t.row] (· = .s (.int .i64 e)))
  | ok (p : PT) (hp : good p) (h : p.td = t)
theorem tok_of (t : GT) (h : fewG t = true) : TOK t.td := by
  have hc := few_cnt h
  have f1 := formed_G t
  have f2 := rformed_G t
  cases hf : fmG t with
  | false =>
    rw [hf] at f1 f2
    exact .bad 3 (by decide) (check_un _ f1) (rcheck_un _ f2)
  | true =>
    obtain ⟨b, e1, e2, e3⟩ := to_bt t hf
    have hd : b.dp ≤ 1000 := by have := BT.dp_len b; omega
    have c1 := check_F b e2 (formed_B b e2)
    have c2 := rcheck_F b e2 (by omega) (rformed_B b e2)
    rw [chk_same hd] at c1
    by_cases h0 : chkRB b = 0
    · obtain ⟨p, g1, g2, g3⟩ := chk_good hd h0
      exact .ok p g2 (g1.trans e1)
    · rw [e1] at c1 c2
      exact .bad _ h0 c1 c2

end Go.Proofs.Ytmajkjkakciaiaa
