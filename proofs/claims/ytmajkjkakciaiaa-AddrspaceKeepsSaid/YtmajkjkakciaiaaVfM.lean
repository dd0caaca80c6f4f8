/- Address spaces, the reference's side: Unmap. -/
import Derived.Test.YtmajkjkakciaiaaVeM
set_option linter.unusedSimpArgs false
set_option linter.unusedVariables false
namespace Go.Proofs.Ytmajkjkakciaiaa
open Go.RowKit

/-- append of a list of regions to a row of one's own. -/
theorem LT.apR {P : Program} {X : Cx} {al : List (Nat × AV)} {bs : Bs} {t e bytes n b k d : Nat} {x y : Operand} {rows0 : List (List D)} (l : List RV) (h63 : ∀ m, rows0.length = m → m + l.length ≤ 100000) [hT : TAp P t e 6 bytes] (hx : ev al x = some (.o b n) := by rfl) (hy : ev al y = some (.d (.l (rws l))) := by rfl) (hb : lk bs b = some (some (e, rows0.flatten.map .d)) := by rfl) (hn : rows0.length = n := by rfl) (hby : Nat.ble bytes 1000000 = true := by rfl) (hk : bs.length = k := by simp only [List.length_cons, List.length_nil, Nat.reduceAdd]; rfl) (hf : lk bs k = none := by rfl) (hd : Nat.blt d X.N = true := by rfl) :
    LT P X al bs (.call { callee := .builtin .append, args := #[x, y], argTypes := #[t, t] }) (some d) [b, k] [(d, .o k (n + (rws l).length))] [(k, some (e, (rows0 ++ rws l).flatten.map .d)), (b, none)] :=
  LT.ap rws_row (rws_flat_cell l) (by rw [rws_len]; exact h63 n hn) hby hk hf hx hy hb hd
attribute [local irreducible] Wp WL WO fin finB rnd Exit.then Exit.inBlock G GD LT Rd Fn FnB FvB Iter
attribute [local go_sem] RV.row TD.row
def ruI (p : PT) (g c : Int) (i : Nat) : List (Nat × AV) × Bs := ([(12, .d (.s (.int .i64 (i : Int)))), (10, .d (.l (rws p.flat))), (11, .o 0 (rws (cutA g c (p.flat.take i))).length), (1, .d (.s (.int .i64 g))), (2, .d (.s (.int .i64 c))), (6, .p 1 0)], [(0, some (23, (rws (cutA g c (p.flat.take i))).flatten.map .d)), (1, some (26, zDs.map .d))])
theorem cat_len (f : RV → List RV) (hf : ∀ x, (f x).length ≤ 2) : ∀ l : List RV, (cat f l).length ≤ 2 * l.length
  | [] => Nat.zero_le _
  | x :: l => by
    have := hf x
    have := cat_len f hf l
    show (f x ++ cat f l).length ≤ _
    simp only [List.length_append, List.length_cons]
    omega
end Go.Proofs.Ytmajkjkakciaiaa
