/- What holds at the head of the loop over the events, and how the events keep it in memory. -/
import Derived.Test.YtdghgkajjhcbkaaErq
import Derived.Test.YtdghgkajjhcbkaaSl
set_option linter.unusedSimpArgs false
set_option linter.unusedVariables false
namespace Go.Proofs.Ytdghgkajjhcbkaa
open Go.RowKit

theorem who_ok (x : Int) : -4 < x.tmod 4 ∧ x.tmod 4 < 4 ∧ ∃ j : Nat, j < 4 ∧ (x.tmod 4 + 4).tmod 4 = (j : Int) ∧ (x.tmod 4 + 4) % 4 = (j : Int) := by
  have h1 : x.tmod 4 < 4 := Int.tmod_lt_of_pos x (by omega)
  have h2 : -4 < x.tmod 4 := by
    rw [Int.tmod_eq_emod]; split <;> omega
  generalize x.tmod 4 = y at h1 h2 ⊢
  have : y = -3 ∨ y = -2 ∨ y = -1 ∨ y = 0 ∨ y = 1 ∨ y = 2 ∨ y = 3 := by omega
  rcases this with rfl | rfl | rfl | rfl | rfl | rfl | rfl
  · exact ⟨by omega, by omega, 1, by omega, rfl, rfl⟩
  · exact ⟨by omega, by omega, 2, by omega, rfl, rfl⟩
  · exact ⟨by omega, by omega, 3, by omega, rfl, rfl⟩
  · exact ⟨by omega, by omega, 0, by omega, rfl, rfl⟩
  · exact ⟨by omega, by omega, 1, by omega, rfl, rfl⟩
  · exact ⟨by omega, by omega, 2, by omega, rfl, rfl⟩
  · exact ⟨by omega, by omega, 3, by omega, rfl, rfl⟩

def eF (c : Int) (s : Bool) : Nat → Value
  | 0 => .int .i64 c
  | _ => .bool s

/-- What holds at the head of the loop over the events. -/
structure PlayInv (w0 : World) (base bw bk bb be ba k : Nat) (wr : World) (told : Value) (c : Int) (s : Bool) (E S : Int) (K : Nat → Int) (B : Nat → Bool) (A : Nat → Int) : Prop where
  inv : OInv k c s E S K B A
  mem : MemW wr bw bk bb E S K B
  re : wr.rowIs be 23 2 (eF c s)
  ra : wr.rowIs ba 41 4 (iF A)
  own : ∃ m xs, m ≤ k ∧ wr.ownsRow base 4 1 told m xs
  old : Below w0.heap.size w0 wr
  sz : base ≤ wr.heap.size

/-- The blocks' places. -/
structure Places (w0 : World) (base bw bk bb be ba : Nat) : Prop where
  bw0 : w0.heap.size ≤ bw
  bk0 : w0.heap.size ≤ bk
  bb0 : w0.heap.size ≤ bb
  be0 : w0.heap.size ≤ be
  ba0 : w0.heap.size ≤ ba
  bw1 : bw < ba
  bk1 : bk < ba
  bb1 : bb < ba
  ba1 : ba < be
  be1 : be < base


section
variable {w0 wr : World} {base bw bk bb be ba k : Nat} {told : Value} {c : Int} {s : Bool} {E S : Int} {K : Nat → Int} {B : Nat → Bool} {A : Nat → Int}

theorem own_wext {w : World} {e : TypeId} {m n : Nat} {v : Value} {xs : List Value} (h : w.ownsRow base e m v n xs) (os : Array Obj) (k : Nat) : (wext w os k).ownsRow base e m v n xs := own_ext h ⟨_, _, rfl⟩
theorem own_set {w : World} {e : TypeId} {m n : Nat} {v : Value} {xs : List Value} (h : w.ownsRow base e m v n xs) {b : Nat} (hb : b < base) (i : Nat) (u : Value) : (w.setCell ⟨b, i, none⟩ u).ownsRow base e m v n xs := ownsRow_setCell_below h hb u
theorem own_grown {w w' : World} {e : TypeId} {m n : Nat} {v : Value} {xs : List Value} (h : w.ownsRow base e m v n xs) (hE : Ext w w') : w'.ownsRow base e m v n xs := own_ext h hE

theorem PlayInv.ext (h : PlayInv w0 base bw bk bb be ba k wr told c s E S K B A) {w' : World} (hE : Ext wr w') : PlayInv w0 base bw bk bb be ba k w' told c s E S K B A := by
  obtain ⟨os, n, rfl⟩ := hE
  obtain ⟨m, xs, hm, ho⟩ := h.own
  exact ⟨h.inv, h.mem.wext _ _, rowIs_wext h.re _ _, rowIs_wext h.ra _ _, ⟨m, xs, hm, own_ext ho ⟨_, _, rfl⟩⟩, Below.wext h.old h.old.size _ _, by have := h.sz; simp; omega⟩

theorem rowIs_set2 {w : World} {b : Nat} {t : TypeId} {c c' : Int} {s s' : Bool} (h : w.rowIs b t 2 (eF c s)) : ((w.setCell ⟨b, 0, none⟩ (.int .i64 c')).setCell ⟨b, 1, none⟩ (.bool s')).rowIs b t 2 (eF c' s') :=
  ((h.set 0 _).set 1 _).congr fun i hi => by match i, hi with | 0, _ => rfl | 1, _ => rfl
theorem rowIs_setI {w : World} {b : Nat} {t : TypeId} {n : Nat} {A : Nat → Int} (h : w.rowIs b t n (iF A)) (j : Nat) (v : Int) : (w.setCell ⟨b, j, none⟩ (.int .i64 v)).rowIs b t n (iF (up A j v)) :=
  (h.set j _).congr fun i hi => by unfold iF up; split <;> simp_all
theorem rowIs_setB {w : World} {b : Nat} {t : TypeId} {n : Nat} {A : Nat → Bool} (h : w.rowIs b t n (bF A)) (j : Nat) (v : Bool) : (w.setCell ⟨b, j, none⟩ (.bool v)).rowIs b t n (bF (up A j v)) :=
  (h.set j _).congr fun i hi => by unfold bF up; split <;> simp_all
theorem rowIs_setE {w : World} {b : Nat} {t : TypeId} {E S E' : Int} {x y : Nat} (h : w.rowIs b t 4 (wF E S x y)) : (w.setCell ⟨b, 0, none⟩ (.int .i64 E')).rowIs b t 4 (wF E' S x y) :=
  (h.set 0 _).congr fun i hi => by match i, hi with | 0, _ => rfl | 1, _ => rfl | 2, _ => rfl | 3, _ => rfl
theorem rowIs_setS {w : World} {b : Nat} {t : TypeId} {E S S' : Int} {x y : Nat} (h : w.rowIs b t 4 (wF E S x y)) : (w.setCell ⟨b, 1, none⟩ (.int .i64 S')).rowIs b t 4 (wF E S' x y) :=
  (h.set 1 _).congr fun i hi => by match i, hi with | 0, _ => rfl | 1, _ => rfl | 2, _ => rfl | 3, _ => rfl

theorem step_fail (h : PlayInv w0 base bw bk bb be ba k wr told c s E S K B A) (hp : Places w0 base bw bk bb be ba) {c' : Int} {s' : Bool} (hI : OInv (k + 1) c' s' (E + 1) S K B A) :
    PlayInv w0 base bw bk bb be ba (k + 1) (((wr.setCell ⟨be, 0, none⟩ (.int .i64 c')).setCell ⟨be, 1, none⟩ (.bool s')).setCell ⟨bw, 0, none⟩ (.int .i64 (E + 1))) told c' s' (E + 1) S K B A := by
  obtain ⟨q1, q2, q3, q4, q5, q6, q7, q8, q9, q10⟩ := hp
  obtain ⟨m, xs, hm, ho⟩ := h.own
  have n1 := h.mem.n1; have n2 := h.mem.n2; have n3 := h.mem.n3
  refine ⟨hI, ⟨rowIs_setE ((h.mem.rw.setOther (by show bw ≠ be; omega) _).setOther (by show bw ≠ be; omega) _), ((h.mem.rk.setOther (by show bk ≠ be; omega) _).setOther (by show bk ≠ be; omega) _).setOther (by show bk ≠ bw; omega) _, ((h.mem.rb.setOther (by show bb ≠ be; omega) _).setOther (by show bb ≠ be; omega) _).setOther (by show bb ≠ bw; omega) _, n1, n2, n3⟩, (rowIs_set2 h.re).setOther (by show be ≠ bw; omega) _, ((h.ra.setOther (by show ba ≠ be; omega) _).setOther (by show ba ≠ be; omega) _).setOther (by show ba ≠ bw; omega) _, ⟨m, xs, by omega, ?_⟩, ?_, ?_⟩
  · exact ownsRow_setCell_below (ownsRow_setCell_below (ownsRow_setCell_below ho (by show be < base; omega) _) (by show be < base; omega) _) (by show bw < base; omega) _
  · exact ((h.old.setCell (by show _ ≤ be; omega) _).setCell (by show _ ≤ be; omega) _).setCell (by show _ ≤ bw; omega) _
  · have := h.sz; simp; omega

theorem step_begin (h : PlayInv w0 base bw bk bb be ba k wr told c s E S K B A) (hp : Places w0 base bw bk bb be ba) {p : Int} {j : Nat} (hI : OInv (k + 1) c s E S (up K j S) (up B j true) (up A j p)) :
    PlayInv w0 base bw bk bb be ba (k + 1) (((wr.setCell ⟨ba, j, none⟩ (.int .i64 p)).setCell ⟨bb, j, none⟩ (.bool true)).setCell ⟨bk, j, none⟩ (.int .i64 S)) told c s E S (up K j S) (up B j true) (up A j p) := by
  obtain ⟨q1, q2, q3, q4, q5, q6, q7, q8, q9, q10⟩ := hp
  obtain ⟨m, xs, hm, ho⟩ := h.own
  have n1 := h.mem.n1; have n2 := h.mem.n2; have n3 := h.mem.n3
  refine ⟨hI, ⟨((h.mem.rw.setOther (by show bw ≠ ba; omega) _).setOther (by show bw ≠ bb; omega) _).setOther (by show bw ≠ bk; omega) _, rowIs_setI ((h.mem.rk.setOther (by show bk ≠ ba; omega) _).setOther (by show bk ≠ bb; omega) _) _ _, (rowIs_setB (h.mem.rb.setOther (by show bb ≠ ba; omega) _) _ _).setOther (by show bb ≠ bk; omega) _, n1, n2, n3⟩, ((h.re.setOther (by show be ≠ ba; omega) _).setOther (by show be ≠ bb; omega) _).setOther (by show be ≠ bk; omega) _, ((rowIs_setI h.ra _ _).setOther (by show ba ≠ bb; omega) _).setOther (by show ba ≠ bk; omega) _, ⟨m, xs, by omega, ?_⟩, ?_, ?_⟩
  · exact ownsRow_setCell_below (ownsRow_setCell_below (ownsRow_setCell_below ho (by show ba < base; omega) _) (by show bb < base; omega) _) (by show bk < base; omega) _
  · exact ((h.old.setCell (by show _ ≤ ba; omega) _).setCell (by show _ ≤ bb; omega) _).setCell (by show _ ≤ bk; omega) _
  · have := h.sz; simp; omega

theorem step_told (h : PlayInv w0 base bw bk bb be ba k wr told c s E S K B A) (hp : Places w0 base bw bk bb be ba) {c' p : Int} {s' : Bool} {j : Nat} (hI : OInv (k + 1) c' s' E E (up K j E) B (up A j p)) :
    PlayInv w0 base bw bk bb be ba (k + 1) (((((wr.setCell ⟨bw, 1, none⟩ (.int .i64 E)).setCell ⟨bk, j, none⟩ (.int .i64 E)).setCell ⟨be, 0, none⟩ (.int .i64 c')).setCell ⟨be, 1, none⟩ (.bool s')).setCell ⟨ba, j, none⟩ (.int .i64 p)) told c' s' E E (up K j E) B (up A j p) := by
  obtain ⟨q1, q2, q3, q4, q5, q6, q7, q8, q9, q10⟩ := hp
  obtain ⟨m, xs, hm, ho⟩ := h.own
  have n1 := h.mem.n1; have n2 := h.mem.n2; have n3 := h.mem.n3
  refine ⟨hI, ⟨((((rowIs_setS h.mem.rw).setOther (by show bw ≠ bk; omega) _).setOther (by show bw ≠ be; omega) _).setOther (by show bw ≠ be; omega) _).setOther (by show bw ≠ ba; omega) _, (((rowIs_setI (h.mem.rk.setOther (by show bk ≠ bw; omega) _) _ _).setOther (by show bk ≠ be; omega) _).setOther (by show bk ≠ be; omega) _).setOther (by show bk ≠ ba; omega) _, ((((h.mem.rb.setOther (by show bb ≠ bw; omega) _).setOther (by show bb ≠ bk; omega) _).setOther (by show bb ≠ be; omega) _).setOther (by show bb ≠ be; omega) _).setOther (by show bb ≠ ba; omega) _, n1, n2, n3⟩, (rowIs_set2 ((h.re.setOther (by show be ≠ bw; omega) _).setOther (by show be ≠ bk; omega) _)).setOther (by show be ≠ ba; omega) _, rowIs_setI ((((h.ra.setOther (by show ba ≠ bw; omega) _).setOther (by show ba ≠ bk; omega) _).setOther (by show ba ≠ be; omega) _).setOther (by show ba ≠ be; omega) _) _ _, ⟨m, xs, by omega, ?_⟩, ?_, ?_⟩
  · exact ownsRow_setCell_below (ownsRow_setCell_below (ownsRow_setCell_below (ownsRow_setCell_below (ownsRow_setCell_below ho (by show bw < base; omega) _) (by show bk < base; omega) _) (by show be < base; omega) _) (by show be < base; omega) _) (by show ba < base; omega) _
  · exact ((((h.old.setCell (by show _ ≤ bw; omega) _).setCell (by show _ ≤ bk; omega) _).setCell (by show _ ≤ be; omega) _).setCell (by show _ ≤ be; omega) _).setCell (by show _ ≤ ba; omega) _
  · have := h.sz; simp; omega

theorem step_quiet (h : PlayInv w0 base bw bk bb be ba k wr told c s E S K B A) (hp : Places w0 base bw bk bb be ba) {c' p : Int} {s' : Bool} {j : Nat} (hI : OInv (k + 1) c' s' E S (up K j E) B (up A j p)) :
    PlayInv w0 base bw bk bb be ba (k + 1) ((((wr.setCell ⟨bk, j, none⟩ (.int .i64 E)).setCell ⟨be, 0, none⟩ (.int .i64 c')).setCell ⟨be, 1, none⟩ (.bool s')).setCell ⟨ba, j, none⟩ (.int .i64 p)) told c' s' E S (up K j E) B (up A j p) := by
  obtain ⟨q1, q2, q3, q4, q5, q6, q7, q8, q9, q10⟩ := hp
  obtain ⟨m, xs, hm, ho⟩ := h.own
  have n1 := h.mem.n1; have n2 := h.mem.n2; have n3 := h.mem.n3
  refine ⟨hI, ⟨(((h.mem.rw.setOther (by show bw ≠ bk; omega) _).setOther (by show bw ≠ be; omega) _).setOther (by show bw ≠ be; omega) _).setOther (by show bw ≠ ba; omega) _, (((rowIs_setI h.mem.rk _ _).setOther (by show bk ≠ be; omega) _).setOther (by show bk ≠ be; omega) _).setOther (by show bk ≠ ba; omega) _, (((h.mem.rb.setOther (by show bb ≠ bk; omega) _).setOther (by show bb ≠ be; omega) _).setOther (by show bb ≠ be; omega) _).setOther (by show bb ≠ ba; omega) _, n1, n2, n3⟩, (rowIs_set2 (h.re.setOther (by show be ≠ bk; omega) _)).setOther (by show be ≠ ba; omega) _, rowIs_setI (((h.ra.setOther (by show ba ≠ bk; omega) _).setOther (by show ba ≠ be; omega) _).setOther (by show ba ≠ be; omega) _) _ _, ⟨m, xs, by omega, ?_⟩, ?_, ?_⟩
  · exact ownsRow_setCell_below (ownsRow_setCell_below (ownsRow_setCell_below (ownsRow_setCell_below ho (by show bk < base; omega) _) (by show be < base; omega) _) (by show be < base; omega) _) (by show ba < base; omega) _
  · exact (((h.old.setCell (by show _ ≤ bk; omega) _).setCell (by show _ ≤ be; omega) _).setCell (by show _ ≤ be; omega) _).setCell (by show _ ≤ ba; omega) _
  · have := h.sz; simp; omega

theorem step_skip (h : PlayInv w0 base bw bk bb be ba k wr told c s E S K B A) : PlayInv w0 base bw bk bb be ba (k + 1) wr told c s E S K B A := by
  obtain ⟨m, xs, hm, ho⟩ := h.own
  exact ⟨h.inv.mono (by omega), h.mem, h.re, h.ra, ⟨m, xs, by omega, ho⟩, h.old, h.sz⟩

/-- The same behind an append to what was told. -/
theorem PlayInv.grown (h : PlayInv w0 base bw bk bb be ba k wr told c s E S K B A) (hp : Places w0 base bw bk bb be ba) {w1 : World} {row : Option Nat} {v : Value} {m : Nat} {xs : List Value} (hg : wr.grownBy w1 row) (hr : ∀ x, row = some x → base ≤ x) (hm : m ≤ k) (ho : w1.ownsRow base 4 1 v m xs) :
    PlayInv w0 base bw bk bb be ba k w1 v c s E S K B A := by
  obtain ⟨q1, q2, q3, q4, q5, q6, q7, q8, q9, q10⟩ := hp
  have hb : Below base wr w1 := below_of_grown hg h.sz hr
  have hz := h.sz
  have kp : ∀ {b n t f}, b < base → wr.rowIs b t n f → w1.rowIs b t n f := fun hb1 hrow => hrow.of_block (hb.block _ hb1)
  exact ⟨h.inv, ⟨kp (by omega) h.mem.rw, kp (by omega) h.mem.rk, kp (by omega) h.mem.rb, h.mem.n1, h.mem.n2, h.mem.n3⟩, kp (by omega) h.re, kp (by omega) h.ra, ⟨m, xs, hm, ho⟩, h.old.trans (hb.mono (by omega)), by have := hg.size; omega⟩
end

end Go.Proofs.Ytdghgkajjhcbkaa
