/- Slices: 'w.isSl v m n xs': the slice v of n elements, m cells each, reads in w as the cells xs. -/
import Derived.Test.YtohpbfcechbngaaLib
set_option linter.unusedSimpArgs false
set_option linter.unusedVariables false
namespace Go.Proofs.Ytohpbfcechbngaa
open Go.RowKit

def isSl (w : World) (v : Value) (m n : Nat) (xs : List Value) : Prop :=
  xs.length = n * m ∧ ((∃ a c, v = .slice a 0 c ∧ n = 0) ∨
    ∃ b o cap, v = .slice (some ⟨b, o, none⟩) n cap ∧ n ≤ cap ∧ cap ≤ maxLen ∧ b < w.heap.size ∧ ∀ j, j < n * m → w.cell? ⟨b, o + j, none⟩ = xs[j]?)

theorem isSl_nil (w : World) (m : Nat) : isSl w (.slice none 0 0) m 0 [] := ⟨by simp, .inl ⟨none, 0, rfl, rfl⟩⟩

theorem isSl.below {w w' : World} {v : Value} {m n : Nat} {xs : List Value} (h : isSl w v m n xs) (hb : Below w.heap.size w w') : isSl w' v m n xs := by
  obtain ⟨h1, h2⟩ := h
  refine ⟨h1, ?_⟩
  rcases h2 with h2 | ⟨b, o, cap, hv, hn, hc, hlt, hx⟩
  · exact .inl h2
  · exact .inr ⟨b, o, cap, hv, hn, hc, Nat.lt_of_lt_of_le hlt hb.size, fun j hj => (hb.cell (p := ⟨b, o + j, none⟩) hlt).trans (hx j hj)⟩
theorem isSl.ext {w w' : World} {v : Value} {m n : Nat} {xs : List Value} (h : isSl w v m n xs) (hb : Ext w w') : isSl w' v m n xs := h.below hb.below

theorem isSl_of_own {w : World} {base : Nat} {e : TypeId} {m n : Nat} {v : Value} {xs : List Value} (h : w.ownsRow base e m v n xs) : isSl w v m n xs := by
  have h0 := h
  obtain ⟨h1, h2⟩ := h
  refine ⟨h1, ?_⟩
  rcases h2 with h2 | ⟨g, cap, cur, hv, hg, hh, hn, hc, hcs, hx⟩
  · exact .inl ⟨none, 0, h2.1, h2.2⟩
  · refine .inr ⟨g, 0, cap, hv, hn, hc, (Array.getElem?_eq_some_iff.1 hh).1, fun j hj => ?_⟩
    rw [hv] at h0
    rw [Nat.zero_add]
    exact h0.cellAt j hj

/-- A slice of known length is nil or at an address. -/
theorem isSl.cell {w : World} {v : Value} {m n : Nat} {xs : List Value} (h : isSl w v m n xs) (hn : 0 < n) :
    ∃ b o cap, v = .slice (some ⟨b, o, none⟩) n cap ∧ n ≤ cap ∧ cap ≤ maxLen ∧ b < w.heap.size ∧ ∀ j, j < n * m → w.cell? ⟨b, o + j, none⟩ = xs[j]? := by
  obtain ⟨_, h2⟩ := h
  rcases h2 with ⟨_, _, _, h2⟩ | h2
  · omega
  · exact h2

theorem ext_of_grown {w w' : World} (h : w.grownBy w' none) : ∃ os n, w' = wext w os n :=
  Ext.of_below ⟨h.os, h.tape, h.output, h.size, fun k hk => h.block k hk (by simp)⟩

theorem below_of_grown {w w' : World} {row : Option Nat} {B : Nat} (h : w.grownBy w' row) (hB : B ≤ w.heap.size) (hr : ∀ k, row = some k → B ≤ k) : Below B w w' :=
  Below.grown (Below.refl B w) h hB hr

/-- The cells of a new block. -/
theorem cells_new (W : World) (news : List Value) (T : TypeId) : ∀ (j : Nat) (u : Value), news[j]? = some u → (W.alloc (.cells news.toArray T)).cell? ((⟨W.heap.size, 0, none⟩ : Addr).add j) = some u := by
  intro j u h
  have : ((⟨W.heap.size, 0, none⟩ : Addr).add j) = ⟨W.heap.size, j, none⟩ := by
    unfold Addr.add
    split
    · rename_i h0; rw [h0]
    · simp
  rw [this, World.cell?_alloc_new]
  simpa using h

theorem grown_cells {w w' : World} {row : Option Nat} (h : w.grownBy w' row) : ∀ b i, b < w.heap.size → some b ≠ row → w'.cell? ⟨b, i, none⟩ = w.cell? ⟨b, i, none⟩ :=
  fun b i hb hr => World.cell?_of_block (h.block b hb hr)

theorem cells_new2 (W : World) (b : Nat) (news : List Value) (T : TypeId) (hb : b = W.heap.size) : ∀ (j : Nat) (u : Value), news[j]? = some u → (W.alloc (.cells news.toArray T)).cell? ((⟨b, 0, none⟩ : Addr).add j) = some u := by
  subst hb; exact cells_new W news T

theorem isSl_new1 (W : World) (b : Nat) (news : List Value) (T : TypeId) (hb : b = W.heap.size) : isSl (W.alloc (.cells news.toArray T)) (.slice (some ⟨b, 0, none⟩) 1 1) news.length 1 news := by
  subst hb
  refine ⟨by simp, .inr ⟨_, _, _, rfl, Nat.le_refl _, by unfold maxLen; omega, by simp, fun j hj => ?_⟩⟩
  rw [Nat.zero_add, World.cell?_alloc_new]
  simp

theorem own_ext {w w' : World} {base : Nat} {e : TypeId} {m n : Nat} {v : Value} {xs : List Value} (h : w.ownsRow base e m v n xs) (hE : Ext w w') : w'.ownsRow base e m v n xs := by
  obtain ⟨os, k, rfl⟩ := hE
  have hg : w.grownBy (wext w os k) none := ⟨rfl, rfl, rfl, by simp, fun b hb _ => wext_block w os k b hb⟩
  refine h.kept hg ?_
  cases hv : v.ownBlock with
  | none => exact .inl rfl
  | some g => exact .inr (by simp)

end Go.Proofs.Ytohpbfcechbngaa
