/- Address spaces, the reference's side: List, Count, Find, within. -/
/- Address spaces, the reference's side: normal, tree. -/
/- Address spaces, the reference's side: normal. -/
/- Address spaces, the reference's side: Unmap. -/
import Derived.Test.YtkdjbiekjgeafaaVaM
set_option linter.unusedSimpArgs false
set_option linter.unusedVariables false
namespace Go.Proofs.Ytkdjbiekjgeafaa
open Go.RowKit

theorem find_no {l : List RV} {g : Int} (h : (findV l g).2 = false) : findV l g = (RV.z, false) := by
  unfold findV at h ⊢
  cases hc : (!(nextV l g).2 || decide (g < (nextV l g).1.s)) with
  | true => rfl
  | false => rw [hc] at h; cases h
theorem find_yes {l : List RV} (h : okl l) {g : Int} {x : RV} (hx : x ∈ l) (hg : x.s ≤ g ∧ g < x.s + x.p) : findV l g = (x, true) := by
  have h2 := (find_iff h g).2 ⟨x, hx, hg⟩
  obtain ⟨h3, h4⟩ := (find_spec g l h).1 h2
  obtain ⟨i, hi⟩ := List.mem_iff_getElem?.1 hx
  obtain ⟨j, hj⟩ := List.mem_iff_getElem?.1 h3
  have e : (findV l g).1 = x := by
    rcases Nat.lt_trichotomy i j with hij | hij | hij
    · have := sorted_get h hi hj hij; omega
    · subst hij; rw [hi] at hj; cases hj; rfl
    · have := sorted_get h hj hi hij; omega
  exact Prod.ext e h2
theorem has_iff {x : RV} (hx : chkV x = 0) (g : Int) : hasV x g = true ↔ x.s ≤ g ∧ g < x.s + x.p := by
  simp [hasV, hx]

attribute [local irreducible] Wp WL WO fin finB rnd Exit.then Exit.inBlock G GD LT Rd Fn FnB FvB Iter
attribute [local go_sem] RV.row TD.row
def rfI (p : PT) (g : Int) (i : Nat) : List (Nat × AV) × Bs := ([(7, .d (.s (.int .i64 (i : Int)))), (6, .d (.l (rws p.flat))), (1, .d (.s (.int .i64 g))), (4, .p 1 0)], [(1, some (25, RV.z.row.map .d))])
end Go.Proofs.Ytkdjbiekjgeafaa

set_option linter.unusedSimpArgs false
set_option linter.unusedVariables false
namespace Go.Proofs.Ytkdjbiekjgeafaa
open Go.RowKit

attribute [local irreducible] Wp WL WO fin finB rnd Exit.then Exit.inBlock G GD LT Rd Fn FnB FvB Iter
attribute [local go_sem] RV.row TD.row
end Go.Proofs.Ytkdjbiekjgeafaa

set_option linter.unusedSimpArgs false
set_option linter.unusedVariables false
namespace Go.Proofs.Ytkdjbiekjgeafaa
open Go.RowKit

attribute [local irreducible] Wp WL WO fin finB rnd Exit.then Exit.inBlock G GD LT Rd Fn FnB FvB Iter
attribute [local go_sem] RV.row TD.row
def nmI (l : List RV) (i : Nat) : List (Nat × AV) × Bs := ([(4, .d (.s (.int .i64 (i : Int)))), (0, .d (.l (rws l))), (3, .o 0 (rws (normS l i)).length)], [(0, some (25, (rws (normS l i)).flatten.map .d))])
end Go.Proofs.Ytkdjbiekjgeafaa

set_option linter.unusedSimpArgs false
set_option linter.unusedVariables false
namespace Go.Proofs.Ytkdjbiekjgeafaa
open Go.RowKit

/-- append of a list of regions to a row of one's own. -/
theorem LT.apR {P : Program} {X : Cx} {al : List (Nat × AV)} {bs : Bs} {t e bytes n b k d : Nat} {x y : Operand} {rows0 : List (List D)} (l : List RV) (h63 : ∀ m, rows0.length = m → m + l.length ≤ 100000) [hT : TAp P t e 6 bytes] (hx : ev al x = some (.o b n) := by rfl) (hy : ev al y = some (.d (.l (rws l))) := by rfl) (hb : lk bs b = some (some (e, rows0.flatten.map .d)) := by rfl) (hn : rows0.length = n := by rfl) (hby : Nat.ble bytes 1000000 = true := by rfl) (hk : bs.length = k := by simp only [List.length_cons, List.length_nil, Nat.reduceAdd]; rfl) (hf : lk bs k = none := by rfl) (hd : Nat.blt d X.N = true := by rfl) :
    LT P X al bs (.call { callee := .builtin .append, args := #[x, y], argTypes := #[t, t] }) (some d) [b, k] [(d, .o k (n + (rws l).length))] [(k, some (e, (rows0 ++ rws l).flatten.map .d)), (b, none)] :=
  LT.ap rws_row (rws_flat_cell l) (by rw [rws_len]; exact h63 n hn) hby hk hf hx hy hb hd
attribute [local irreducible] Wp WL WO fin finB rnd Exit.then Exit.inBlock G GD LT Rd Fn FnB FvB Iter
attribute [local go_sem] RV.row TD.row
def ruI (p : PT) (g c : Int) (i : Nat) : List (Nat × AV) × Bs := ([(12, .d (.s (.int .i64 (i : Int)))), (10, .d (.l (rws p.flat))), (11, .o 0 (rws (cutA g c (p.flat.take i))).length), (1, .d (.s (.int .i64 g))), (2, .d (.s (.int .i64 c))), (6, .p 1 0)], [(0, some (25, (rws (cutA g c (p.flat.take i))).flatten.map .d)), (1, some (28, zDs.map .d))])
theorem cat_len (f : RV → List RV) (hf : ∀ x, (f x).length ≤ 2) : ∀ l : List RV, (cat f l).length ≤ 2 * l.length
  | [] => Nat.zero_le _
  | x :: l => by
    have := hf x
    have := cat_len f hf l
    show (f x ++ cat f l).length ≤ _
    simp only [List.length_append, List.length_cons]
    omega
end Go.Proofs.Ytkdjbiekjgeafaa
