/- Trees with any numbers: the program's List$1, numbered, Check, List. -/
/- Trees with any numbers: the program's numbered, Check, List on formed trees. -/
/- Trees with any numbers: the program's Check on formed trees. -/
import Derived.Test.YtmajkjkakciaiaaSoM
set_option linter.unusedSimpArgs false
set_option linter.unusedVariables false
namespace Go.Proofs.Ytmajkjkakciaiaa
open Go.RowKit

/-- A closure's one variable, which holds a row. -/
def cR (T e : TypeId) (rows : List (List D)) : Nat → Option (TypeId × List AV)
  | 0 => some (T, [.o 101 rows.length])
  | 1 => some (e, rows.flatten.map .d)
  | _ => none
theorem cR.cl {T e : TypeId} {rows : List (List D)} (j : Nat) : ClE inI (cR T e rows j) := by
  unfold cR
  split
  · exact .some rfl
  · exact .some (numsL_d _ _)
  · exact .none

attribute [local irreducible] Wp WL WO fin finB rnd Exit.then Exit.inBlock G GD LT Rd Fn FnB FvB Iter
attribute [local go_sem] RV.row TD.row
theorem list1_F (t : TD) (rows : List (List D)) (hr : rows.length < 1000) : FnB Try.prog CT 56 [.d (.st t.row), .p 100 0] (Is (cR 31 23 rows)) .any (Is (cR 31 23 (rows ++ [t.x.row]))) := by
  refine FnB.of (ks := [100, 102, 104]) CT.c Try.func56 Try.ntmps56 rfl (by kernel_rfl) (fun w o m E0 hCX => ?_) (hks := kns_Is _); (try dsimp only [Is])
  dsimp only [cR]
  (repeat (first | ((repeat (revert hK; revert K)); refine wk ?_; repeat intro K hK) | refine wkg ?_))
  refine G.ren (al' := []) (bs' := [(100, some (31, [.o 101 (rows.length + 1)])), (101, some (23, (rows ++ [t.x.row]).flatten.map .d)), (102, none), (104, none)]) [(100, 100), (101, 7), (102, 102), (104, 104)] ?_ (by repeat (first | exact trivial | refine ⟨⟨rfl, rfl⟩, ?_⟩)) (by repeat (first | exact trivial | refine ⟨⟨rfl, rfl, rfl⟩, ?_⟩ | refine ⟨⟨rfl, by rw [renL_d]; rfl, kbL_d _ _⟩, ?_⟩ | refine ⟨rfl, ?_⟩)) (by decide) (by rfl)
  rw [show rows.length + 1 = (rows ++ [t.x.row]).length by simp]
  have hcl : ∀ (rows : List (List D)) (j : Nat), ClE inI (cR 31 23 rows j) := fun rows j => cR.cl j
  (try refine G.finBn ?_); refine G.finB0 rfl (by first | ((repeat (first | exact trivial | refine ⟨.inl rfl, ?_⟩ | refine ⟨.inr rfl, ?_⟩)); done) | fail) (by first | exact Is.cl (hcl _) | exact Is.cl6 (hcl _) | ((repeat (first | exact trivial | refine ⟨ClE.some rfl, ?_⟩ | (with_reducible refine ClB.d ?_) | (with_reducible refine ⟨ClE.some (numsL_d _ _), ?_⟩) | refine ⟨ClE.none, ?_⟩)); done) | fail) (by rfl)

end Go.Proofs.Ytmajkjkakciaiaa

set_option linter.unusedSimpArgs false
set_option linter.unusedVariables false
namespace Go.Proofs.Ytmajkjkakciaiaa
open Go.RowKit

def badB : BT → Bool
  | .E => false
  | .N h f l g a x b => badT (BT.N h f l g a x b).td a.td b.td
def nuS (t : BT) (i : Nat) : Bool := (t.nodes.take i).foldl (fun ok n => bif badB n then false else ok) true
def avS (t : BT) (i : Nat) : Bool := (t.nodes.take i).foldl (fun ok n => ok && vldV n.td.x) true
def odS (t : BT) (i : Nat) : Bool × Int := (t.nodes.take i).foldl (fun s n => (s.1 && decide (s.2 ≤ n.td.x.s), n.td.x.s + n.td.x.p)) (true, 0)
theorem take_snoc {α : Type} {l : List α} {j : Nat} {x : α} (h : l[j]? = some x) : l.take (j + 1) = l.take j ++ [x] := by
  rw [List.take_add_one, h]
  rfl
def SmT (t : BT) : Prop := ∀ n ∈ t.nodes, -1000000 ≤ n.td.x.s ∧ n.td.x.s ≤ 1000000 ∧ -1000000 ≤ n.td.x.p ∧ n.td.x.p ≤ 1000000
theorem node_ne : ∀ {t n : BT}, n ∈ t.nodes → ∃ h f l g a x b, n = .N h f l g a x b
  | .E, n, h => by simp [BT.nodes] at h
  | .N h f l g a x b, n, hn => by
    simp only [BT.nodes, List.mem_append, List.mem_cons] at hn
    rcases hn with hn | rfl | hn
    · exact node_ne hn
    · exact ⟨_, _, _, _, _, _, _, rfl⟩
    · exact node_ne hn

attribute [local irreducible] Wp WL WO fin finB rnd Exit.then Exit.inBlock G GD LT Rd Fn FnB FvB Iter
attribute [local go_sem] RV.row TD.row
theorem numbered_F (t : BT) (ht : t.ok) (hs : SmT t) : Fn Try.prog 76 [.st t.td.row] (· = .s (.bool (nuS t t.nodes.length))) := by
  have he := FnB.v0 (each_F (.fn 81 [.p 100 0]) rfl (fun _ => rfl) (fun i => cV 4 (.bool (nuS t i))) (fun _ j => cV.cl j) t 0 ht (fun j n hj => by
    obtain ⟨h, f, l, g, a, x, b, rfl⟩ := node_ne (List.mem_of_getElem? hj)
    have := FnB.v (cs := [.p 100 0]) (xs := [_]) (num1_F (BT.N h f l g a x b).td a.td b.td rfl (hs _ (List.mem_of_getElem? hj)) (nuS t (0 + j)))
    have e : nuS t (0 + j + 1) = bif badT (BT.N h f l g a x b).td a.td b.td then false else nuS t (0 + j) := by
      simp only [nuS, Nat.zero_add]
      rw [take_snoc hj, List.foldl_append]
      rfl
    rw [e]
    exact this))
  rw [Nat.zero_add] at he
  refine Fn.of Try.func76 Try.ntmps76 rfl (by kernel_rfl) (fun w o => ?_)
  (repeat (first | ((repeat (revert hK; revert K)); refine wk ?_; repeat intro K hK) | refine wkg ?_))
  refine G.ren (al' := [(5, .fn 81 [.p 100 0]), (4, .d (.st t.td.row)), (3, .p 100 0)]) (bs' := [(100, some (4, [.d (.s (.bool true))]))]) [(100, 1)] ?_ (by repeat (first | exact trivial | refine ⟨⟨rfl, rfl⟩, ?_⟩)) (by repeat (first | exact trivial | refine ⟨⟨rfl, rfl, rfl⟩, ?_⟩ | refine ⟨⟨rfl, by rw [renL_d]; rfl, kbL_d _ _⟩, ?_⟩ | refine ⟨rfl, ?_⟩)) (by decide) (by rfl)
  (repeat (first | (show G _ _ _ _ (WL _ _ _ _ (⟨some _, .call _, _, _, _, none⟩ :: _)); refine G.cvW ( he) ?_) | ((repeat (revert hK; revert K)); refine wkT ?_; repeat intro K hK) | refine wkg ?_))
  refine G.fin1 (by first | exact rvOk.tmp | exact rvOk.cellS | exact rvOk.cell1 | fail) rfl ?_
  rfl
set_option maxHeartbeats 1000000 in
theorem list_ok (t : BT) (ht : t.ok) (hl : t.nodes.length ≤ 900) (hC : Fn Try.prog 52 [.st t.td.row] (· = .s (.int .i64 0))) : Fn Try.prog 27 [.st t.td.row] (· = .l (t.nodes.map (fun n => n.td.x.row))) := by
  have he := FnB.v0 (each_F (.fn 56 [.p 100 0]) rfl (fun _ => rfl) (fun i => cR 31 23 ((t.nodes.take i).map (fun n => n.td.x.row))) (fun _ j => cR.cl j) t 0 ht (fun j n hj => by
    have := FnB.v (cs := [.p 100 0]) (xs := [_]) (list1_F n.td ((t.nodes.take (0 + j)).map (fun n => n.td.x.row)) (by simp; omega))
    simp only [Nat.zero_add] at this ⊢
    rw [take_snoc hj, List.map_append]
    exact this))
  rw [Nat.zero_add, List.take_length] at he
  refine Fn.of Try.func27 Try.ntmps27 rfl (by kernel_rfl) (fun w o => ?_)
  (repeat (first | refine G.cW (hC) ?_ | refine G.cgW (hC) ?_ | refine GD.cW (hC) ?_ | refine GD.cgW (hC) ?_ | ((repeat (revert hK; revert K)); refine wk ?_; repeat intro K hK) | refine wkg ?_))
  refine G.ren (al' := [(8, .fn 56 [.p 100 0]), (7, .d (.st t.td.row)), (3, .p 100 0)]) (bs' := [(100, some (31, [.d (.s (.slice none 0 0))]))]) [(100, 1)] ?_ (by repeat (first | exact trivial | refine ⟨⟨rfl, rfl⟩, ?_⟩)) (by repeat (first | exact trivial | refine ⟨⟨rfl, rfl, rfl⟩, ?_⟩ | refine ⟨⟨rfl, by rw [renL_d]; rfl, kbL_d _ _⟩, ?_⟩ | refine ⟨rfl, ?_⟩)) (by decide) (by rfl)
  refine G.nilCell 100 101 23 ?_
  (repeat (first | (show G _ _ _ _ (WL _ _ _ _ (⟨some _, .call _, _, _, _, none⟩ :: _)); refine G.cvW ( he) ?_) | ((repeat (revert hK; revert K)); refine wkT ?_; repeat intro K hK) | refine wkg ?_))
  refine G.frz (T := 23) (m := 6) (b := 101) (rows := t.nodes.map (fun n => n.td.x.row)) 2 ?_ (by intro r hr; obtain ⟨n, _, rfl⟩ := List.mem_map.1 hr; rfl) rfl
  refine G.fin1 (by first | exact rvOk.tmp | exact rvOk.cellS | exact rvOk.cell1 | fail) rfl ?_
  rfl
theorem list_bad (t : TD) (e : Int) (he : e ≠ 0) (hC : Fn Try.prog 52 [.st t.row] (· = .s (.int .i64 e))) : Fn Try.prog 27 [.st t.row] (· = .s (.slice none 0 0)) := by
  have hb : (e != 0) = true := by simpa using he
  refine Fn.of Try.func27 Try.ntmps27 rfl (by kernel_rfl) (fun w o => ?_)
  (repeat (first | refine G.cW (hC) ?_ | refine G.cgW (hC) ?_ | refine GD.cW (hC) ?_ | refine GD.cgW (hC) ?_ | ((repeat (revert hK; revert K)); refine wk ?_; repeat intro K hK) | refine wkg ?_))
  refine G.fin1 (by first | exact rvOk.tmp | exact rvOk.cellS | exact rvOk.cell1 | fail) rfl ?_
  rfl

end Go.Proofs.Ytmajkjkakciaiaa

set_option linter.unusedSimpArgs false
set_option linter.unusedVariables false
namespace Go.Proofs.Ytmajkjkakciaiaa
open Go.RowKit

/-- What Check says of a formed tree. -/
def chkB (t : BT) : Int := if avS t t.nodes.length = false then 2 else if (odS t t.nodes.length).1 = false then 10 else if nuS t t.nodes.length = false then 11 else 0
theorem av_sm {t : BT} (h : avS t t.nodes.length = true) : SmT t := by
  have key : ∀ (l : List BT) (b : Bool), l.foldl (fun ok n => ok && vldV n.td.x) b = true → b = true ∧ ∀ n ∈ l, vldV n.td.x = true := by
    intro l
    induction l with
    | nil => intro b h; exact ⟨h, fun n hn => by cases hn⟩
    | cons m l ih =>
      intro b h
      obtain ⟨h1, h2⟩ := ih _ h
      simp only [Bool.and_eq_true] at h1
      refine ⟨h1.1, fun n hn => ?_⟩
      rcases List.mem_cons.1 hn with rfl | hn
      · exact h1.2
      · exact h2 n hn
  have := (key _ _ (by simpa [avS] using h)).2
  intro n hn
  have h1 := this n hn
  simp only [vldV, Bool.and_eq_true, decide_eq_true_eq] at h1
  omega

attribute [local irreducible] Wp WL WO fin finB rnd Exit.then Exit.inBlock G GD LT Rd Fn FnB FvB Iter
attribute [local go_sem] RV.row TD.row
section
variable (t : BT) (ht : t.ok)
include ht
theorem ck1 : FvB Try.prog CT (.fn 55 []) [.d (.st t.td.row), .fn 72 [.p 100 0]] (Is (cV 4 (.bool (avS t 0)))) .any (Is (cV 4 (.bool (avS t t.nodes.length)))) := by
  have he := FnB.v0 (each_F (.fn 72 [.p 100 0]) rfl (fun _ => rfl) (fun i => cV 4 (.bool (avS t i))) (fun _ j => cV.cl j) t 0 ht (fun j n hj => by
    have := FnB.v (cs := [.p 100 0]) (xs := [_]) (chk1_F n.td (avS t (0 + j)))
    have e : avS t (0 + j + 1) = (avS t (0 + j) && vldV n.td.x) := by
      simp only [avS, Nat.zero_add]
      rw [take_snoc hj, List.foldl_append]
      rfl
    rw [e]
    exact this))
  rw [Nat.zero_add] at he
  exact he
theorem ck2 (hs : SmT t) : FvB Try.prog CT (.fn 55 []) [.d (.st t.td.row), .fn 74 [.p 100 0, .p 102 0]] (Is (cV2 4 (.bool (odS t 0).1) 3 (.int .i64 (odS t 0).2))) .any (Is (cV2 4 (.bool (odS t t.nodes.length).1) 3 (.int .i64 (odS t t.nodes.length).2))) := by
  have he := FnB.v0 (each_F (.fn 74 [.p 100 0, .p 102 0]) rfl (fun _ => rfl) (fun i => cV2 4 (.bool (odS t i).1) 3 (.int .i64 (odS t i).2)) (fun _ j => cV2.cl j) t 0 ht (fun j n hj => by
    have := FnB.v (cs := [.p 100 0, .p 102 0]) (xs := [_]) (chk2_F n.td (odS t (0 + j)).1 (odS t (0 + j)).2 (hs n (List.mem_of_getElem? hj)))
    have e : odS t (0 + j + 1) = ((odS t (0 + j)).1 && decide ((odS t (0 + j)).2 ≤ n.td.x.s), n.td.x.s + n.td.x.p) := by
      simp only [odS, Nat.zero_add]
      rw [take_snoc hj, List.foldl_append]
      rfl
    rw [e]
    exact this))
  rw [Nat.zero_add] at he
  exact he
set_option maxHeartbeats 1000000 in
theorem check_F (hF : Fn Try.prog 71 [.st t.td.row] (· = .s (.bool true))) : Fn Try.prog 52 [.st t.td.row] (· = .s (.int .i64 (chkB t))) := by
  have c1 := ck1 t ht
  cases h1 : avS t t.nodes.length with
  | false =>
    rw [h1] at c1
    refine Fn.of Try.func52 Try.ntmps52 rfl (by kernel_rfl) (fun w o => ?_)
    (repeat (first | refine G.cW (hF) ?_ | refine G.cgW (hF) ?_ | refine GD.cW (hF) ?_ | refine GD.cgW (hF) ?_ | ((repeat (revert hK; revert K)); refine wk ?_; repeat intro K hK) | refine wkg ?_))
    refine G.ren (al' := [(10, .fn 72 [.p 100 0]), (9, .d (.st t.td.row)), (3, .p 100 0)]) (bs' := [(100, some (4, [.d (.s (.bool true))]))]) [(100, 1)] ?_ (by repeat (first | exact trivial | refine ⟨⟨rfl, rfl⟩, ?_⟩)) (by repeat (first | exact trivial | refine ⟨⟨rfl, rfl, rfl⟩, ?_⟩ | refine ⟨⟨rfl, by rw [renL_d]; rfl, kbL_d _ _⟩, ?_⟩ | refine ⟨rfl, ?_⟩)) (by decide) (by rfl)
    (repeat (first | (show G _ _ _ _ (WL _ _ _ _ (⟨some _, .call _, _, _, _, none⟩ :: _)); refine G.cvW ( c1) ?_) | ((repeat (revert hK; revert K)); refine wkT ?_; repeat intro K hK) | refine wkg ?_))
    refine G.fin1 (by first | exact rvOk.tmp | exact rvOk.cellS | exact rvOk.cell1 | fail) rfl ?_
    simp [chkB, h1]
  | true =>
    rw [h1] at c1
    have hs := av_sm h1
    have c2 := ck2 t ht hs
    have c3 := numbered_F t ht hs
    cases h2 : (odS t t.nodes.length).1 with
    | false =>
      rw [h2] at c2
      refine Fn.of Try.func52 Try.ntmps52 rfl (by kernel_rfl) (fun w o => ?_)
      (repeat (first | refine G.cW (hF) ?_ | refine G.cgW (hF) ?_ | refine GD.cW (hF) ?_ | refine GD.cgW (hF) ?_ | ((repeat (revert hK; revert K)); refine wk ?_; repeat intro K hK) | refine wkg ?_))
      refine G.ren (al' := [(10, .fn 72 [.p 100 0]), (9, .d (.st t.td.row)), (1, .p 0 0), (3, .p 100 0), (4, .p 2 0), (5, .p 3 0)]) (bs' := [(0, some (26, t.td.row.map .d)), (100, some (4, [.d (.s (.bool true))])), (2, some (4, [.d (.s (.bool true))])), (3, some (3, [.d (.s (.int .i64 0))]))]) [(0, 0), (100, 1), (2, 2), (3, 3)] ?_ (by repeat (first | exact trivial | refine ⟨⟨rfl, rfl⟩, ?_⟩)) (by repeat (first | exact trivial | refine ⟨⟨rfl, rfl, rfl⟩, ?_⟩ | refine ⟨⟨rfl, by rw [renL_d]; rfl, kbL_d _ _⟩, ?_⟩ | refine ⟨rfl, ?_⟩)) (by decide) (by rfl)
      (repeat (first | (show G _ _ _ _ (WL _ _ _ _ (⟨some _, .call _, _, _, _, none⟩ :: _)); refine G.cvW ( c1) ?_) | ((repeat (revert hK; revert K)); refine wkT ?_; repeat intro K hK) | refine wkg ?_))
      refine G.ren (al' := [(15, .fn 74 [.p 100 0, .p 102 0]), (14, .d (.st t.td.row)), (1, .p 0 0), (4, .p 100 0), (5, .p 102 0)]) (bs' := [(0, some (26, t.td.row.map .d)), (100, some (4, [.d (.s (.bool true))])), (102, some (3, [.d (.s (.int .i64 0))]))]) [(0, 0), (100, 2), (102, 3)] ?_ (by repeat (first | exact trivial | refine ⟨⟨rfl, rfl⟩, ?_⟩)) (by repeat (first | exact trivial | refine ⟨⟨rfl, rfl, rfl⟩, ?_⟩ | refine ⟨⟨rfl, by rw [renL_d]; rfl, kbL_d _ _⟩, ?_⟩ | refine ⟨rfl, ?_⟩)) (by decide) (by rfl)
      (repeat (first | (show G _ _ _ _ (WL _ _ _ _ (⟨some _, .call _, _, _, _, none⟩ :: _)); refine G.cvW ( c2) ?_) | ((repeat (revert hK; revert K)); refine wkT ?_; repeat intro K hK) | refine wkg ?_))
      refine G.fin1 (by first | exact rvOk.tmp | exact rvOk.cellS | exact rvOk.cell1 | fail) rfl ?_
      simp [chkB, h1, h2]
    | true =>
      rw [h2] at c2
      cases h3 : nuS t t.nodes.length with
      | false =>
        rw [h3] at c3
        refine Fn.of Try.func52 Try.ntmps52 rfl (by kernel_rfl) (fun w o => ?_)
        (repeat (first | refine G.cW (hF) ?_ | refine G.cgW (hF) ?_ | refine GD.cW (hF) ?_ | refine GD.cgW (hF) ?_ | ((repeat (revert hK; revert K)); refine wk ?_; repeat intro K hK) | refine wkg ?_))
        refine G.ren (al' := [(10, .fn 72 [.p 100 0]), (9, .d (.st t.td.row)), (1, .p 0 0), (3, .p 100 0), (4, .p 2 0), (5, .p 3 0)]) (bs' := [(0, some (26, t.td.row.map .d)), (100, some (4, [.d (.s (.bool true))])), (2, some (4, [.d (.s (.bool true))])), (3, some (3, [.d (.s (.int .i64 0))]))]) [(0, 0), (100, 1), (2, 2), (3, 3)] ?_ (by repeat (first | exact trivial | refine ⟨⟨rfl, rfl⟩, ?_⟩)) (by repeat (first | exact trivial | refine ⟨⟨rfl, rfl, rfl⟩, ?_⟩ | refine ⟨⟨rfl, by rw [renL_d]; rfl, kbL_d _ _⟩, ?_⟩ | refine ⟨rfl, ?_⟩)) (by decide) (by rfl)
        (repeat (first | (show G _ _ _ _ (WL _ _ _ _ (⟨some _, .call _, _, _, _, none⟩ :: _)); refine G.cvW ( c1) ?_) | ((repeat (revert hK; revert K)); refine wkT ?_; repeat intro K hK) | refine wkg ?_))
        refine G.ren (al' := [(15, .fn 74 [.p 100 0, .p 102 0]), (14, .d (.st t.td.row)), (1, .p 0 0), (4, .p 100 0), (5, .p 102 0)]) (bs' := [(0, some (26, t.td.row.map .d)), (100, some (4, [.d (.s (.bool true))])), (102, some (3, [.d (.s (.int .i64 0))]))]) [(0, 0), (100, 2), (102, 3)] ?_ (by repeat (first | exact trivial | refine ⟨⟨rfl, rfl⟩, ?_⟩)) (by repeat (first | exact trivial | refine ⟨⟨rfl, rfl, rfl⟩, ?_⟩ | refine ⟨⟨rfl, by rw [renL_d]; rfl, kbL_d _ _⟩, ?_⟩ | refine ⟨rfl, ?_⟩)) (by decide) (by rfl)
        (repeat (first | refine G.cW (c3) ?_ | refine G.cgW (c3) ?_ | refine GD.cW (c3) ?_ | refine GD.cgW (c3) ?_ | (show G _ _ _ _ (WL _ _ _ _ (⟨some _, .call _, _, _, _, none⟩ :: _)); refine G.cvW ( c2) ?_) | ((repeat (revert hK; revert K)); refine wkT ?_; repeat intro K hK) | refine wkg ?_))
        refine G.fin1 (by first | exact rvOk.tmp | exact rvOk.cellS | exact rvOk.cell1 | fail) rfl ?_
        simp [chkB, h1, h2, h3]
      | true =>
        rw [h3] at c3
        refine Fn.of Try.func52 Try.ntmps52 rfl (by kernel_rfl) (fun w o => ?_)
        (repeat (first | refine G.cW (hF) ?_ | refine G.cgW (hF) ?_ | refine GD.cW (hF) ?_ | refine GD.cgW (hF) ?_ | ((repeat (revert hK; revert K)); refine wk ?_; repeat intro K hK) | refine wkg ?_))
        refine G.ren (al' := [(10, .fn 72 [.p 100 0]), (9, .d (.st t.td.row)), (1, .p 0 0), (3, .p 100 0), (4, .p 2 0), (5, .p 3 0)]) (bs' := [(0, some (26, t.td.row.map .d)), (100, some (4, [.d (.s (.bool true))])), (2, some (4, [.d (.s (.bool true))])), (3, some (3, [.d (.s (.int .i64 0))]))]) [(0, 0), (100, 1), (2, 2), (3, 3)] ?_ (by repeat (first | exact trivial | refine ⟨⟨rfl, rfl⟩, ?_⟩)) (by repeat (first | exact trivial | refine ⟨⟨rfl, rfl, rfl⟩, ?_⟩ | refine ⟨⟨rfl, by rw [renL_d]; rfl, kbL_d _ _⟩, ?_⟩ | refine ⟨rfl, ?_⟩)) (by decide) (by rfl)
        (repeat (first | (show G _ _ _ _ (WL _ _ _ _ (⟨some _, .call _, _, _, _, none⟩ :: _)); refine G.cvW ( c1) ?_) | ((repeat (revert hK; revert K)); refine wkT ?_; repeat intro K hK) | refine wkg ?_))
        refine G.ren (al' := [(15, .fn 74 [.p 100 0, .p 102 0]), (14, .d (.st t.td.row)), (1, .p 0 0), (4, .p 100 0), (5, .p 102 0)]) (bs' := [(0, some (26, t.td.row.map .d)), (100, some (4, [.d (.s (.bool true))])), (102, some (3, [.d (.s (.int .i64 0))]))]) [(0, 0), (100, 2), (102, 3)] ?_ (by repeat (first | exact trivial | refine ⟨⟨rfl, rfl⟩, ?_⟩)) (by repeat (first | exact trivial | refine ⟨⟨rfl, rfl, rfl⟩, ?_⟩ | refine ⟨⟨rfl, by rw [renL_d]; rfl, kbL_d _ _⟩, ?_⟩ | refine ⟨rfl, ?_⟩)) (by decide) (by rfl)
        (repeat (first | refine G.cW (c3) ?_ | refine G.cgW (c3) ?_ | refine GD.cW (c3) ?_ | refine GD.cgW (c3) ?_ | (show G _ _ _ _ (WL _ _ _ _ (⟨some _, .call _, _, _, _, none⟩ :: _)); refine G.cvW ( c2) ?_) | ((repeat (revert hK; revert K)); refine wkT ?_; repeat intro K hK) | refine wkg ?_))
        refine G.fin1 (by first | exact rvOk.tmp | exact rvOk.cellS | exact rvOk.cell1 | fail) rfl ?_
        simp [chkB, h1, h2, h3]
end

end Go.Proofs.Ytmajkjkakciaiaa
