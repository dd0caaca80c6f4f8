/- Trees with any numbers, the reference's side: Valid, End, Node, numbered. -/
import Derived.Test.YtkdjbiekjgeafaaQg
set_option linter.unusedSimpArgs false
set_option linter.unusedVariables false
namespace Go.Proofs.Ytkdjbiekjgeafaa
open Go.RowKit

def nodeR (l : TD) (x : RV) (r : TD) : TD := ⟨wr (1 + max l.h r.h), if l.h = 0 then x.s else l.f, if r.h = 0 then x.s + x.p else r.l, gapR l x r, x, [l.row, r.row]⟩
where gapR (l : TD) (x : RV) (r : TD) : Int := if r.h = 0 then (if l.h = 0 then max l.g r.g else max (max l.g r.g) (wr (x.s - l.l))) else max (if l.h = 0 then max l.g r.g else max (max l.g r.g) (wr (x.s - l.l))) (wr (r.f - (x.s + x.p)))
def okT (t l r : TD) : Bool := (((((t.h == (nodeR l t.x r).h) && (t.f == (nodeR l t.x r).f)) && (t.l == (nodeR l t.x r).l)) && (t.g == (nodeR l t.x r).g)) && decide (l.h ≤ wr (r.h + 1))) && decide (r.h ≤ wr (l.h + 1))
def numB : BT → Bool
  | .E => true
  | .N h f l g a x b => numB a && numB b && okT (BT.N h f l g a x b).td a.td b.td

attribute [local irreducible] Wp WL WO fin finB rnd Exit.then Exit.inBlock G GD LT Rd Fn FnB FvB Iter
attribute [local go_sem] RV.row TD.row
end Go.Proofs.Ytkdjbiekjgeafaa
