/- Rangetree: trees and regions as they lie in memory. -/
import Derived.Test.YtnbohogkfdeddaaRta
import Derived.Test.YtnbohogkfdeddaaWk
set_option linter.unusedSimpArgs false
set_option linter.unusedVariables false
namespace Go.Proofs.Ytnbohogkfdeddaa
open Go.RowKit

/-! ### Regions and trees -/
def RV.cs (x : RV) : List Value := [.int .i64 x.s, .int .i64 x.p, .int .i64 x.r, .int .i64 x.f, .int .i64 x.i, .int .i64 x.x]
def RV.z : RV := ⟨0, 0, 0, 0, 0, 0⟩
structure TV where
  h : Int
  f : Int
  l : Int
  g : Int
  x : RV
  k : Value
def TV.cs (t : TV) : List Value := [.int .i64 t.h, .int .i64 t.f, .int .i64 t.l, .int .i64 t.g, .int .i64 t.x.s, .int .i64 t.x.p, .int .i64 t.x.r, .int .i64 t.x.f, .int .i64 t.x.i, .int .i64 t.x.x, t.k]
def TV.z : TV := ⟨0, 0, 0, 0, RV.z, .slice none 0 0⟩
section
variable (x : RV) (t : TV)
@[go_sem] theorem RV.get0 : x.cs[0]? = some (.int .i64 x.s) := rfl
@[go_sem] theorem RV.get1 : x.cs[1]? = some (.int .i64 x.p) := rfl
@[go_sem] theorem RV.get2 : x.cs[2]? = some (.int .i64 x.r) := rfl
@[go_sem] theorem RV.get3 : x.cs[3]? = some (.int .i64 x.f) := rfl
@[go_sem] theorem RV.get4 : x.cs[4]? = some (.int .i64 x.i) := rfl
@[go_sem] theorem RV.get5 : x.cs[5]? = some (.int .i64 x.x) := rfl
@[go_sem] theorem TV.get0 : t.cs[0]? = some (.int .i64 t.h) := rfl
@[go_sem] theorem TV.get1 : t.cs[1]? = some (.int .i64 t.f) := rfl
@[go_sem] theorem TV.get2 : t.cs[2]? = some (.int .i64 t.l) := rfl
@[go_sem] theorem TV.get3 : t.cs[3]? = some (.int .i64 t.g) := rfl
@[go_sem] theorem TV.get4 : t.cs[4]? = some (.int .i64 t.x.s) := rfl
@[go_sem] theorem TV.get5 : t.cs[5]? = some (.int .i64 t.x.p) := rfl
@[go_sem] theorem TV.get6 : t.cs[6]? = some (.int .i64 t.x.r) := rfl
@[go_sem] theorem TV.get7 : t.cs[7]? = some (.int .i64 t.x.f) := rfl
@[go_sem] theorem TV.get8 : t.cs[8]? = some (.int .i64 t.x.i) := rfl
@[go_sem] theorem TV.get9 : t.cs[9]? = some (.int .i64 t.x.x) := rfl
@[go_sem] theorem TV.get10 : t.cs[10]? = some t.k := rfl
end
theorem Try.infoT : (Try.prog.info? 28).map (·.size) = some 11 := by kernel_rfl
theorem Try.infoR : (Try.prog.info? 25).map (·.size) = some 6 := by kernel_rfl

/-- A tree whose nodes have two kids each; its numbers may be any. -/
inductive BT where
  | E
  | N (h f l g : Int) (a : BT) (x : RV) (b : BT)
/-- The tree t lies in w behind v, in blocks of A. -/
def isT (A : Nat → Prop) (w : World) : BT → TV → Prop
  | .E, v => v.h = 0 ∧ v.f = 0 ∧ v.l = 0 ∧ v.g = 0 ∧ v.x = RV.z ∧ ∃ a c, v.k = .slice a 0 c
  | .N h f l g a x b, v => v.h = h ∧ v.f = f ∧ v.l = l ∧ v.g = g ∧ v.x = x ∧ h ≠ 0 ∧ ∃ r o c va vb, v.k = .slice (some ⟨r, o, none⟩) 2 c ∧ 2 ≤ c ∧ r < w.heap.size ∧ A r ∧ w.rangeAt r o va.cs ∧ w.rangeAt r (o + 11) vb.cs ∧ isT A w a va ∧ isT A w b vb
theorem isT.ext {A : Nat → Prop} {w w' : World} (hE : Ext w w') : ∀ {t : BT} {v : TV}, isT A w t v → isT A w' t v
  | .E, v, h => h
  | .N _ _ _ _ a x b, v, ⟨h1, h2, h3, h4, h5, h6, r, o, c, va, vb, h7, h8, h9, hA, h10, h11, h12, h13⟩ =>
    ⟨h1, h2, h3, h4, h5, h6, r, o, c, va, vb, h7, h8, Nat.lt_of_lt_of_le h9 hE.below.size, hA, rangeAt.ext h10 h9 hE, rangeAt.ext h11 h9 hE, isT.ext hE h12, isT.ext hE h13⟩
theorem isT.mono {A A' : Nat → Prop} {w : World} (hA : ∀ g, g < w.heap.size → A g → A' g) : ∀ {t : BT} {v : TV}, isT A w t v → isT A' w t v
  | .E, v, h => h
  | .N _ _ _ _ a x b, v, ⟨h1, h2, h3, h4, h5, h6, r, o, c, va, vb, h7, h8, h9, hr, h10, h11, h12, h13⟩ =>
    ⟨h1, h2, h3, h4, h5, h6, r, o, c, va, vb, h7, h8, h9, hA r h9 hr, h10, h11, isT.mono hA h12, isT.mono hA h13⟩
theorem isT.kept {A : Nat → Prop} {w w' : World} {k : Nat} (hg : w.grownBy w' (some k)) (hk : ¬ A k) : ∀ {t : BT} {v : TV}, isT A w t v → isT A w' t v
  | .E, v, h => h
  | .N _ _ _ _ a x b, v, ⟨h1, h2, h3, h4, h5, h6, r, o, c, va, vb, h7, h8, h9, hr, h10, h11, h12, h13⟩ =>
    have hne : some r ≠ some k := fun e => hk (by cases e; exact hr)
    ⟨h1, h2, h3, h4, h5, h6, r, o, c, va, vb, h7, h8, Nat.lt_of_lt_of_le h9 hg.size, hr, rangeAt.kept h10 h9 hg hne, rangeAt.kept h11 h9 hg hne, isT.kept hg hk h12, isT.kept hg hk h13⟩
theorem isT_z (A : Nat → Prop) (w : World) : isT A w .E TV.z := ⟨rfl, rfl, rfl, rfl, rfl, none, 0, rfl⟩
theorem TV.one (t : TV) (h : t.k.oneCell' = true) : t.cs.toArray.all (·.oneCell') = true := by
  cases hk : t.k <;> simp_all [TV.cs, Value.oneCell']
theorem RV.one (x : RV) : x.cs.toArray.all (·.oneCell') = true := by
  simp [RV.cs, Value.oneCell']
theorem isT.one {A : Nat → Prop} {w : World} : ∀ {t : BT} {v : TV}, isT A w t v → v.k.oneCell' = true
  | .E, v, ⟨_, _, _, _, _, a, c, h⟩ => by rw [h]; rfl
  | .N _ _ _ _ _ _ _, v, ⟨_, _, _, _, _, _, r, o, c, va, vb, h, _⟩ => by rw [h]; rfl

end Go.Proofs.Ytnbohogkfdeddaa
