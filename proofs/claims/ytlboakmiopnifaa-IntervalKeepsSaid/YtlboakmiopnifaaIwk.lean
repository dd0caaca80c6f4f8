/- Layer 02: the law IntervalKeeps. -/
import Derived.Test.YtlboakmiopnifaaIwj
set_option linter.unusedSimpArgs false
set_option linter.unusedVariables false
namespace Go.Proofs.Ytlboakmiopnifaa
open Go.RowKit

/-- A slice of n pairs of ints that may be written, in a block from B on and below T. -/
def room (w : World) (B T : Nat) (v : Value) (n : Nat) : Prop :=
  (∃ a c, v = .slice a 0 c ∧ n = 0) ∨ ∃ g c, v = .slice (some ⟨g, 0, none⟩) n c ∧ n ≤ c ∧ c ≤ maxLen ∧ B ≤ g ∧ g < T ∧ g < w.heap.size ∧ ∀ j, j < n * 2 → (∃ x : Int, w.cell? ⟨g, j, none⟩ = some (.int .i64 x)) ∧ w.frozen? ⟨g, j, none⟩ = false
theorem ivF_int (l : List (Int × Int)) (j : Nat) (hj : j < l.length * 2) : ∃ x : Int, (ivF l)[j]? = some (.int .i64 x) := by
  induction l generalizing j with
  | nil => simp at hj
  | cons y l ih =>
    match j with
    | 0 => exact ⟨_, rfl⟩
    | 1 => exact ⟨_, rfl⟩
    | j + 2 => exact ih j (by simp at hj; omega)
theorem room_form {w : World} {B T n : Nat} {v : Value} (h : room w B T v n) : ∃ a c, v = .slice a n c := by
  rcases h with ⟨a', c', h, h0⟩ | ⟨g, c', h, _⟩
  · exact ⟨a', c', by rw [h, h0]⟩
  · exact ⟨_, _, h⟩
theorem room_own {w : World} {B : Nat} {T : TypeId} {l : List (Int × Int)} {v : Value} (h : w.ownsRow B T 2 v l.length (ivF l)) : room w B w.heap.size v l.length := by
  rcases h.2 with ⟨h1, h2⟩ | ⟨g, cap, cur, rfl, hg, hh, hn, hc, hcs, hx⟩
  · exact .inl ⟨none, 0, h1, h2⟩
  · have hlt := (h.lt g rfl).2
    refine .inr ⟨g, cap, rfl, hn, hc, hg, hlt, hlt, fun j hj => ⟨?_, h.frozenAt j⟩⟩
    rw [h.cellAt j hj]
    exact ivF_int l j hj
theorem room_mono {w w' : World} {B B' T T' n : Nat} {v : Value} (h : room w B T v n) (hB : B' ≤ B) (hT : T ≤ T') (hE : Ext w w') : room w' B' T' v n := by
  rcases h with h | ⟨g, c, hv, h1, h2, h3, h4, h5, h6⟩
  · exact .inl h
  · have hb := hE.below
    refine .inr ⟨g, c, hv, h1, h2, by omega, by omega, Nat.lt_of_lt_of_le h5 hb.size, fun j hj => ?_⟩
    rw [hb.cell (p := ⟨g, j, none⟩) h5, hb.frozen (p := ⟨g, j, none⟩) h5]
    exact h6 j hj
theorem room_set {w : World} {B T n : Nat} {v : Value} (h : room w B T v n) (p : Addr) (hp : (w.cell? p).isSome = true) (x : Int) : room (w.setCell p (.int .i64 x)) B T v n := by
  rcases h with h | ⟨g, c, hv, h1, h2, h3, h4, h5, h6⟩
  · exact .inl h
  · refine .inr ⟨g, c, hv, h1, h2, h3, h4, by simpa using h5, fun j hj => ⟨?_, by simpa using (h6 j hj).2⟩⟩
    by_cases he : p = ⟨g, j, none⟩
    · subst he
      exact ⟨x, World.cell?_setCell_same' w _ _ hp⟩
    · obtain ⟨y, hy⟩ := (h6 j hj).1
      exact ⟨y, by rw [World.cell?_setCell_other _ _ _ _ he, hy]⟩
theorem res_room {fn : Nat} {args : Array Value} {w : World} {l : List (Int × Int)} {x : Int} (h : Calls Try.prog fn args w (resP w.heap.size l x w)) :
    Calls Try.prog fn args w fun e w' => ∃ (a : Option Addr) (c : Nat) (x : Int) (m : Nat), e = .returned (.tuple #[.slice a m c, .int .i64 x]) ∧ room w' w.heap.size w'.heap.size (.slice a m c) m ∧ Ext w w' := by
  refine h.mono ?_
  rintro e w' ⟨r, rfl, h1, h2⟩
  obtain ⟨a, c, rfl⟩ := room_form (room_own h1)
  exact ⟨a, c, x, l.length, rfl, room_own h1, Ext.of_below h2⟩
/-- What stands while the results are overwritten. -/
def keepR (W : World) (bl : Nat) (RS : List (Value × Nat)) (w : World) : Prop :=
  Ext W w ∧ W.heap.size ≤ bl ∧ bl < w.heap.size ∧ (∀ k u, (RS.map Prod.fst)[k]? = some u → w.cell? ⟨bl, k, none⟩ = some u) ∧ ∀ x ∈ RS, room w W.heap.size bl x.1 x.2
theorem keepR_ext {W w w' : World} {bl : Nat} {RS : List (Value × Nat)} (h : keepR W bl RS w) (hE : Ext w w') : keepR W bl RS w' := by
  obtain ⟨h1, h2, h3, h4, h5⟩ := h
  refine ⟨h1.trans hE, h2, Nat.lt_of_lt_of_le h3 hE.below.size, fun k u hu => ?_, fun x hx => room_mono (h5 x hx) (Nat.le_refl _) (Nat.le_refl _) hE⟩
  rw [hE.below.cell (p := ⟨bl, k, none⟩) h3]
  exact h4 k u hu
theorem keepR_set {W w : World} {bl g j : Nat} {RS : List (Value × Nat)} (h : keepR W bl RS w) (h1 : W.heap.size ≤ g) (h2 : g < bl) (hp : (w.cell? ⟨g, j, none⟩).isSome = true) (x : Int) : keepR W bl RS (w.setCell ⟨g, j, none⟩ (.int .i64 x)) := by
  obtain ⟨k1, k2, k3, k4, k5⟩ := h
  refine ⟨Ext.of_below (Below.setCell k1.below h1 _), k2, by simpa using k3, fun k u hu => ?_, fun y hy => room_set (k5 y hy) _ hp x⟩
  rw [World.cell?_setCell_other _ _ _ _ (by intro he; cases he; omega)]
  exact k4 k u hu
theorem keepR_new {W Y : World} {RS : List (Value × Nat)} {T : TypeId} (hE : Ext W Y) (h : ∀ x ∈ RS, room Y W.heap.size Y.heap.size x.1 x.2) : keepR W Y.heap.size RS (Y.alloc (.cells (RS.map Prod.fst).toArray T)) := by
  have hn : Ext Y (Y.alloc (.cells (RS.map Prod.fst).toArray T)) := by (exact Ext.of_below (by (repeat' (first | (with_reducible exact Below.refl _ _) | (with_reducible assumption) | (with_reducible refine Below.alloc ?_ ?_ _) | (with_reducible refine Below.wext ?_ ?_ _ _) | (with_reducible refine Below.drew ?_) | (with_reducible refine Below.setCell ?_ ?_ _) | (with_reducible exact Nat.le_refl _) | (with_reducible refine Below.drewN' ?_ _) | (simp; omega) | (simp; done)))))
  refine ⟨hE.trans hn, hE.below.size, by simp, fun k u hu => ?_, fun x hx => room_mono (h x hx) (Nat.le_refl _) (Nat.le_refl _) hn⟩
  rw [World.cell?_alloc_new]
  simpa using hu

set_option maxRecDepth 100000 in
set_option maxHeartbeats 16000000 in
theorem keeps_ok (a b : List (Int × Int)) (ad bd : Option Addr) (c d : Nat) (i1 i2 : Int) (w : World) (h : isSl w (.slice ad a.length c) 2 a.length (ivF a)) (h2 : isSl w (.slice bd b.length d) 2 b.length (ivF b)) :
    Calls Try.prog 10 #[.slice ad a.length c, .slice bd b.length d, .agg #[.int .i64 i1, .int .i64 i2]] w fun e w' => e = .returned (.bool true) ∧ Ext w w' := by
  have HV : Hid (isSl w (.slice ad a.length c) 2 a.length (ivF a)) := h
  have HU : Hid (isSl w (.slice bd b.length d) 2 b.length (ivF b)) := h2
  clear h h2
  by_cases hl : a.length ≤ 12 ∧ b.length ≤ 12
  case neg =>
    rcases Nat.lt_or_ge 12 a.length with h1 | h1
    · clear hl
      go_enter Try.func10, Try.ntmps10
      go_upto_region 9999 with (first | (go_at_call 11; refine (few_f (by first | omega | (simp; omega)) _).mono ?_; rintro e w1 ⟨rfl, osF, nF_, rfl⟩) | (go_at_call 12; refine (awake_ok _).mono ?_; rintro e w1 ⟨rfl, osW, nW, rfl⟩))
      all_goals go_ret
      all_goals exact ⟨rfl, by (exact Ext.of_below (by (repeat' (first | (with_reducible exact Below.refl _ _) | (with_reducible assumption) | (with_reducible refine Below.alloc ?_ ?_ _) | (with_reducible refine Below.wext ?_ ?_ _ _) | (with_reducible refine Below.drew ?_) | (with_reducible refine Below.setCell ?_ ?_ _) | (with_reducible exact Nat.le_refl _) | (with_reducible refine Below.drewN' ?_ _) | (simp; omega) | (simp; done)))))⟩
    · have h2' : 12 < b.length := by omega
      clear hl
      go_enter Try.func10, Try.ntmps10
      go_upto_region 9999 with (first | (go_at_call 11; refine (few_f (by first | omega | (simp; omega)) _).mono ?_; rintro e w1 ⟨rfl, osF, nF_, rfl⟩) | (go_at_call 12; refine (awake_ok _).mono ?_; rintro e w1 ⟨rfl, osW, nW, rfl⟩))
      all_goals go_ret
      all_goals exact ⟨rfl, by (exact Ext.of_below (by (repeat' (first | (with_reducible exact Below.refl _ _) | (with_reducible assumption) | (with_reducible refine Below.alloc ?_ ?_ _) | (with_reducible refine Below.wext ?_ ?_ _ _) | (with_reducible refine Below.drew ?_) | (with_reducible refine Below.setCell ?_ ?_ _) | (with_reducible exact Nat.le_refl _) | (with_reducible refine Below.drewN' ?_ _) | (simp; omega) | (simp; done)))))⟩
  obtain ⟨hl1, hl2⟩ := hl
  go_enter Try.func10, Try.ntmps10
  go_upto_region 4 with (first | (go_at_call 11; refine (few_t (by first | omega | (simp; omega)) (by first | omega | (simp; omega)) _).mono ?_; rintro e w1 ⟨rfl, osF, nF_, rfl⟩) | (go_at_call_of 34 (Value.slice ad a.length c); refine (own_any a _ _ _ (HV.out.ext (by (exact Ext.of_below (by (repeat' (first | (with_reducible exact Below.refl _ _) | (with_reducible assumption) | (with_reducible refine Below.alloc ?_ ?_ _) | (with_reducible refine Below.wext ?_ ?_ _ _) | (with_reducible refine Below.drew ?_) | (with_reducible refine Below.setCell ?_ ?_ _) | (with_reducible exact Nat.le_refl _) | (with_reducible refine Below.drewN' ?_ _) | (simp; omega) | (simp; done))))))) (by omega)).mono ?_; rintro e w1 ⟨rx, rfl, hown, hbel⟩; obtain ⟨os_rx, n_rx, rfl⟩ := Ext.of_below hbel; have Hrx : Hid (isSl _ rx 2 a.length (ivF a)) := isSl_of_own hown; clear hown hbel) | (go_at_call_of 34 (Value.slice bd b.length d); refine (own_any b _ _ _ (HU.out.ext (by (exact Ext.of_below (by (repeat' (first | (with_reducible exact Below.refl _ _) | (with_reducible assumption) | (with_reducible refine Below.alloc ?_ ?_ _) | (with_reducible refine Below.wext ?_ ?_ _ _) | (with_reducible refine Below.drew ?_) | (with_reducible refine Below.setCell ?_ ?_ _) | (with_reducible exact Nat.le_refl _) | (with_reducible refine Below.drewN' ?_ _) | (simp; omega) | (simp; done))))))) (by omega)).mono ?_; rintro e w1 ⟨ry, rfl, hown, hbel⟩; obtain ⟨os_ry, n_ry, rfl⟩ := Ext.of_below hbel; have Hry : Hid (isSl _ ry 2 b.length (ivF b)) := isSl_of_own hown; clear hown hbel))
  refine name_wX (fun X hX => ?_)
  have HXE : Hid (Ext w X) := by show Ext w X; rw [hX]; (exact Ext.of_below (by (repeat' (first | (with_reducible exact Below.refl _ _) | (with_reducible assumption) | (with_reducible refine Below.alloc ?_ ?_ _) | (with_reducible refine Below.wext ?_ ?_ _ _) | (with_reducible refine Below.drew ?_) | (with_reducible refine Below.setCell ?_ ?_ _) | (with_reducible exact Nat.le_refl _) | (with_reducible refine Below.drewN' ?_ _) | (simp; omega) | (simp; done)))))
  have HVX : Hid (isSl X (.slice ad a.length c) 2 a.length (ivF a)) := HV.out.ext HXE.out
  have HUX : Hid (isSl X (.slice bd b.length d) 2 b.length (ivF b)) := HU.out.ext HXE.out
  have Hx : Hid (isSl X rx 2 a.length (ivF a)) := by show isSl X rx 2 a.length (ivF a); rw [hX]; exact isSl.ext Hrx.out (by (exact Ext.of_below (by (repeat' (first | (with_reducible exact Below.refl _ _) | (with_reducible assumption) | (with_reducible refine Below.alloc ?_ ?_ _) | (with_reducible refine Below.wext ?_ ?_ _ _) | (with_reducible refine Below.drew ?_) | (with_reducible refine Below.setCell ?_ ?_ _) | (with_reducible exact Nat.le_refl _) | (with_reducible refine Below.drewN' ?_ _) | (simp; omega) | (simp; done))))))
  have Hy : Hid (isSl X ry 2 b.length (ivF b)) := by show isSl X ry 2 b.length (ivF b); rw [hX]; exact isSl.ext Hry.out (by (exact Ext.of_below (by (repeat' (first | (with_reducible exact Below.refl _ _) | (with_reducible assumption) | (with_reducible refine Below.alloc ?_ ?_ _) | (with_reducible refine Below.wext ?_ ?_ _ _) | (with_reducible refine Below.drew ?_) | (with_reducible refine Below.setCell ?_ ?_ _) | (with_reducible exact Nat.le_refl _) | (with_reducible refine Below.drewN' ?_ _) | (simp; omega) | (simp; done))))))
  have b0 : X.cell? ⟨w.heap.size, 0, none⟩ = some (.int .i64 i1) := by rw [hX]; simp [go_sem]
  have b1 : X.cell? ⟨w.heap.size, 1, none⟩ = some (.int .i64 i2) := by rw [hX]; simp [go_sem]
  have zq : LtD w.heap.size X.heap.size := by rw [hX]; show _ < _; simp; omega
  clear hX Hrx Hry
  go_upto_region 10 with (first | (go_at_call 28; refine (res_room (uni_any a b _ _ _ (by exact Hx.out.ext (by (exact Ext.of_below (by (repeat' (first | (with_reducible exact Below.refl _ _) | (with_reducible assumption) | (with_reducible refine Below.alloc ?_ ?_ _) | (with_reducible refine Below.wext ?_ ?_ _ _) | (with_reducible refine Below.drew ?_) | (with_reducible refine Below.setCell ?_ ?_ _) | (with_reducible exact Nat.le_refl _) | (with_reducible refine Below.drewN' ?_ _) | (simp; omega) | (simp; done))))))) (by exact Hy.out.ext (by (exact Ext.of_below (by (repeat' (first | (with_reducible exact Below.refl _ _) | (with_reducible assumption) | (with_reducible refine Below.alloc ?_ ?_ _) | (with_reducible refine Below.wext ?_ ?_ _ _) | (with_reducible refine Below.drew ?_) | (with_reducible refine Below.setCell ?_ ?_ _) | (with_reducible exact Nat.le_refl _) | (with_reducible refine Below.drewN' ?_ _) | (simp; omega) | (simp; done))))))) (by omega))).mono ?_; rintro e w1 ⟨a_ru, c_ru, x_ru, m_ru, rfl, hroom, hext⟩; obtain ⟨os_ru, n_ru, rfl⟩ := hext; have Rru : Hid (room _ _ _ (.slice a_ru m_ru c_ru) m_ru) := hroom; clear hroom) | (go_at_call 29; refine (res_room (int_any a b _ _ _ (by exact Hx.out.ext (by (exact Ext.of_below (by (repeat' (first | (with_reducible exact Below.refl _ _) | (with_reducible assumption) | (with_reducible refine Below.alloc ?_ ?_ _) | (with_reducible refine Below.wext ?_ ?_ _ _) | (with_reducible refine Below.drew ?_) | (with_reducible refine Below.setCell ?_ ?_ _) | (with_reducible exact Nat.le_refl _) | (with_reducible refine Below.drewN' ?_ _) | (simp; omega) | (simp; done))))))) (by exact Hy.out.ext (by (exact Ext.of_below (by (repeat' (first | (with_reducible exact Below.refl _ _) | (with_reducible assumption) | (with_reducible refine Below.alloc ?_ ?_ _) | (with_reducible refine Below.wext ?_ ?_ _ _) | (with_reducible refine Below.drew ?_) | (with_reducible refine Below.setCell ?_ ?_ _) | (with_reducible exact Nat.le_refl _) | (with_reducible refine Below.drewN' ?_ _) | (simp; omega) | (simp; done))))))) (by omega))).mono ?_; rintro e w1 ⟨a_rc, c_rc, x_rc, m_rc, rfl, hroom, hext⟩; obtain ⟨os_rc, n_rc, rfl⟩ := hext; have Rrc : Hid (room _ _ _ (.slice a_rc m_rc c_rc) m_rc) := hroom; clear hroom) | (go_at_call 30; refine (res_room (sub_any a b _ _ _ (by exact Hx.out.ext (by (exact Ext.of_below (by (repeat' (first | (with_reducible exact Below.refl _ _) | (with_reducible assumption) | (with_reducible refine Below.alloc ?_ ?_ _) | (with_reducible refine Below.wext ?_ ?_ _ _) | (with_reducible refine Below.drew ?_) | (with_reducible refine Below.setCell ?_ ?_ _) | (with_reducible exact Nat.le_refl _) | (with_reducible refine Below.drewN' ?_ _) | (simp; omega) | (simp; done))))))) (by exact Hy.out.ext (by (exact Ext.of_below (by (repeat' (first | (with_reducible exact Below.refl _ _) | (with_reducible assumption) | (with_reducible refine Below.alloc ?_ ?_ _) | (with_reducible refine Below.wext ?_ ?_ _ _) | (with_reducible refine Below.drew ?_) | (with_reducible refine Below.setCell ?_ ?_ _) | (with_reducible exact Nat.le_refl _) | (with_reducible refine Below.drewN' ?_ _) | (simp; omega) | (simp; done))))))) (by omega) (by omega))).mono ?_; rintro e w1 ⟨a_rd, c_rd, x_rd, m_rd, rfl, hroom, hext⟩; obtain ⟨os_rd, n_rd, rfl⟩ := hext; have Rrd : Hid (room _ _ _ (.slice a_rd m_rd c_rd) m_rd) := hroom; clear hroom) | (go_at_call 17; refine (res_room (add_any a i1 i2 _ _ (by exact Hx.out.ext (by (exact Ext.of_below (by (repeat' (first | (with_reducible exact Below.refl _ _) | (with_reducible assumption) | (with_reducible refine Below.alloc ?_ ?_ _) | (with_reducible refine Below.wext ?_ ?_ _ _) | (with_reducible refine Below.drew ?_) | (with_reducible refine Below.setCell ?_ ?_ _) | (with_reducible exact Nat.le_refl _) | (with_reducible refine Below.drewN' ?_ _) | (simp; omega) | (simp; done))))))) (by omega))).mono ?_; rintro e w1 ⟨a_re, c_re, x_re, m_re, rfl, hroom, hext⟩; obtain ⟨os_re, n_re, rfl⟩ := hext; have Rre : Hid (room _ _ _ (.slice a_re m_re c_re) m_re) := hroom; clear hroom) | (go_at_call 18; refine (res_room (rem_any a i1 i2 _ _ (by exact Hx.out.ext (by (exact Ext.of_below (by (repeat' (first | (with_reducible exact Below.refl _ _) | (with_reducible assumption) | (with_reducible refine Below.alloc ?_ ?_ _) | (with_reducible refine Below.wext ?_ ?_ _ _) | (with_reducible refine Below.drew ?_) | (with_reducible refine Below.setCell ?_ ?_ _) | (with_reducible exact Nat.le_refl _) | (with_reducible refine Below.drewN' ?_ _) | (simp; omega) | (simp; done))))))) (by omega))).mono ?_; rintro e w1 ⟨a_rf, c_rf, x_rf, m_rf, rfl, hroom, hext⟩; obtain ⟨os_rf, n_rf, rfl⟩ := hext; have Rrf : Hid (room _ _ _ (.slice a_rf m_rf c_rf) m_rf) := hroom; clear hroom) | (go_at_call 22; refine (res_room (gaps_any a i1 i2 _ _ (by exact Hx.out.ext (by (exact Ext.of_below (by (repeat' (first | (with_reducible exact Below.refl _ _) | (with_reducible assumption) | (with_reducible refine Below.alloc ?_ ?_ _) | (with_reducible refine Below.wext ?_ ?_ _ _) | (with_reducible refine Below.drew ?_) | (with_reducible refine Below.setCell ?_ ?_ _) | (with_reducible exact Nat.le_refl _) | (with_reducible refine Below.drewN' ?_ _) | (simp; omega) | (simp; done))))))) (by omega))).mono ?_; rintro e w1 ⟨a_rg, c_rg, x_rg, m_rg, rfl, hroom, hext⟩; obtain ⟨os_rg, n_rg, rfl⟩ := hext; have Rrg : Hid (room _ _ _ (.slice a_rg m_rg c_rg) m_rg) := hroom; clear hroom))
  refine name_wX (fun Y hY => ?_)
  have HYE : Hid (Ext X Y) := by show Ext X Y; rw [hY]; (exact Ext.of_below (by (repeat' (first | (with_reducible exact Below.refl _ _) | (with_reducible assumption) | (with_reducible refine Below.alloc ?_ ?_ _) | (with_reducible refine Below.wext ?_ ?_ _ _) | (with_reducible refine Below.drew ?_) | (with_reducible refine Below.setCell ?_ ?_ _) | (with_reducible exact Nat.le_refl _) | (with_reducible refine Below.drewN' ?_ _) | (simp; omega) | (simp; done)))))
  have Rru' : Hid (room Y X.heap.size Y.heap.size (.slice a_ru m_ru c_ru) m_ru) := by show room Y X.heap.size Y.heap.size _ m_ru; rw [hY]; exact room_mono Rru.out (by first | exact Nat.le_refl _ | (simp; done) | (simp; omega)) (by first | exact Nat.le_refl _ | (simp; done) | (simp; omega)) (by (exact Ext.of_below (by (repeat' (first | (with_reducible exact Below.refl _ _) | (with_reducible assumption) | (with_reducible refine Below.alloc ?_ ?_ _) | (with_reducible refine Below.wext ?_ ?_ _ _) | (with_reducible refine Below.drew ?_) | (with_reducible refine Below.setCell ?_ ?_ _) | (with_reducible exact Nat.le_refl _) | (with_reducible refine Below.drewN' ?_ _) | (simp; omega) | (simp; done))))))
  have Rrc' : Hid (room Y X.heap.size Y.heap.size (.slice a_rc m_rc c_rc) m_rc) := by show room Y X.heap.size Y.heap.size _ m_rc; rw [hY]; exact room_mono Rrc.out (by first | exact Nat.le_refl _ | (simp; done) | (simp; omega)) (by first | exact Nat.le_refl _ | (simp; done) | (simp; omega)) (by (exact Ext.of_below (by (repeat' (first | (with_reducible exact Below.refl _ _) | (with_reducible assumption) | (with_reducible refine Below.alloc ?_ ?_ _) | (with_reducible refine Below.wext ?_ ?_ _ _) | (with_reducible refine Below.drew ?_) | (with_reducible refine Below.setCell ?_ ?_ _) | (with_reducible exact Nat.le_refl _) | (with_reducible refine Below.drewN' ?_ _) | (simp; omega) | (simp; done))))))
  have Rrd' : Hid (room Y X.heap.size Y.heap.size (.slice a_rd m_rd c_rd) m_rd) := by show room Y X.heap.size Y.heap.size _ m_rd; rw [hY]; exact room_mono Rrd.out (by first | exact Nat.le_refl _ | (simp; done) | (simp; omega)) (by first | exact Nat.le_refl _ | (simp; done) | (simp; omega)) (by (exact Ext.of_below (by (repeat' (first | (with_reducible exact Below.refl _ _) | (with_reducible assumption) | (with_reducible refine Below.alloc ?_ ?_ _) | (with_reducible refine Below.wext ?_ ?_ _ _) | (with_reducible refine Below.drew ?_) | (with_reducible refine Below.setCell ?_ ?_ _) | (with_reducible exact Nat.le_refl _) | (with_reducible refine Below.drewN' ?_ _) | (simp; omega) | (simp; done))))))
  have Rre' : Hid (room Y X.heap.size Y.heap.size (.slice a_re m_re c_re) m_re) := by show room Y X.heap.size Y.heap.size _ m_re; rw [hY]; exact room_mono Rre.out (by first | exact Nat.le_refl _ | (simp; done) | (simp; omega)) (by first | exact Nat.le_refl _ | (simp; done) | (simp; omega)) (by (exact Ext.of_below (by (repeat' (first | (with_reducible exact Below.refl _ _) | (with_reducible assumption) | (with_reducible refine Below.alloc ?_ ?_ _) | (with_reducible refine Below.wext ?_ ?_ _ _) | (with_reducible refine Below.drew ?_) | (with_reducible refine Below.setCell ?_ ?_ _) | (with_reducible exact Nat.le_refl _) | (with_reducible refine Below.drewN' ?_ _) | (simp; omega) | (simp; done))))))
  have Rrf' : Hid (room Y X.heap.size Y.heap.size (.slice a_rf m_rf c_rf) m_rf) := by show room Y X.heap.size Y.heap.size _ m_rf; rw [hY]; exact room_mono Rrf.out (by first | exact Nat.le_refl _ | (simp; done) | (simp; omega)) (by first | exact Nat.le_refl _ | (simp; done) | (simp; omega)) (by (exact Ext.of_below (by (repeat' (first | (with_reducible exact Below.refl _ _) | (with_reducible assumption) | (with_reducible refine Below.alloc ?_ ?_ _) | (with_reducible refine Below.wext ?_ ?_ _ _) | (with_reducible refine Below.drew ?_) | (with_reducible refine Below.setCell ?_ ?_ _) | (with_reducible exact Nat.le_refl _) | (with_reducible refine Below.drewN' ?_ _) | (simp; omega) | (simp; done))))))
  have Rrg' : Hid (room Y X.heap.size Y.heap.size (.slice a_rg m_rg c_rg) m_rg) := by show room Y X.heap.size Y.heap.size _ m_rg; rw [hY]; exact room_mono Rrg.out (by first | exact Nat.le_refl _ | (simp; done) | (simp; omega)) (by first | exact Nat.le_refl _ | (simp; done) | (simp; omega)) (by (exact Ext.of_below (by (repeat' (first | (with_reducible exact Below.refl _ _) | (with_reducible assumption) | (with_reducible refine Below.alloc ?_ ?_ _) | (with_reducible refine Below.wext ?_ ?_ _ _) | (with_reducible refine Below.drew ?_) | (with_reducible refine Below.setCell ?_ ?_ _) | (with_reducible exact Nat.le_refl _) | (with_reducible refine Below.drewN' ?_ _) | (simp; omega) | (simp; done))))))
  have HRS : Hid (∀ x ∈ ([(.slice a_ru m_ru c_ru, m_ru), (.slice a_rc m_rc c_rc, m_rc), (.slice a_rd m_rd c_rd, m_rd), (.slice a_re m_re c_re, m_re), (.slice a_rf m_rf c_rf, m_rf), (.slice a_rg m_rg c_rg, m_rg)] : List (Value × Nat)), room Y X.heap.size Y.heap.size x.1 x.2) := by
    intro x hx
    simp only [List.mem_cons, List.not_mem_nil, or_false] at hx
    rcases hx with rfl | rfl | rfl | rfl | rfl | rfl
    · exact Rru'.out
    · exact Rrc'.out
    · exact Rrd'.out
    · exact Rre'.out
    · exact Rrf'.out
    · exact Rrg'.out
  obtain ⟨RS, hRS⟩ : ∃ RS : List (Value × Nat), [(.slice a_ru m_ru c_ru, m_ru), (.slice a_rc m_rc c_rc, m_rc), (.slice a_rd m_rd c_rd, m_rd), (.slice a_re m_re c_re, m_re), (.slice a_rf m_rf c_rf, m_rf), (.slice a_rg m_rg c_rg, m_rg)] = RS := ⟨_, rfl⟩
  have HK : Hid (keepR X Y.heap.size RS (Y.alloc (.cells #[.slice a_ru m_ru c_ru, .slice a_rc m_rc c_rc, .slice a_rd m_rd c_rd, .slice a_re m_re c_re, .slice a_rf m_rf c_rf, .slice a_rg m_rg c_rg] 22))) := by
    subst hRS
    exact keepR_new HYE.out HRS.out
  have hRL : RS.length = 6 := by rw [← hRS]; rfl
  clear hY HRS hRS b0 b1 zq Rru Rrc Rrd Rre Rrf Rrg Rru' Rrc' Rrd' Rre' Rrf' Rrg'
  go_upto_region 12 with fail
  go_loopw [22] (fun vi wr => ∃ k : Nat, vi = .int .i64 k ∧ k ≤ 6 ∧ keepR X Y.heap.size RS wr) (fun vi _ => 6 - (intOf vi).toNat)
  case atStart => exact ⟨0, rfl, by omega, HK.out⟩
  case round =>
    obtain ⟨k, rfl, hk2, hK⟩ := hrel
    obtain ⟨W1, rfl⟩ : ∃ X, X = wr := ⟨_, rfl⟩
    have zbl : LtD Y.heap.size W1.heap.size := hK.2.2.1
    have HK1 : Hid (keepR X Y.heap.size RS W1) := hK
    by_cases hlt : k < 6
    · obtain ⟨⟨v, m⟩, hvm⟩ : ∃ x, RS[k]'(by omega) = x := ⟨_, rfl⟩
      have hm := List.getElem_mem (l := RS) (n := k) (by omega)
      rw [hvm] at hm
      have hvc : (RS.map Prod.fst)[k]? = some v := by
        rw [List.getElem?_map, List.getElem?_eq_getElem (by omega), hvm]; rfl
      have hroom := hK.2.2.2.2 _ hm
      obtain ⟨sa, sc, rfl⟩ := room_form (show room W1 X.heap.size Y.heap.size v m from hroom)
      have hmx : m ≤ maxLen := by
        rcases hroom with ⟨a', c', h, h0⟩ | ⟨g, c', h, h1, h2, _⟩
        · simp only at h0; omega
        · exact Nat.le_trans h1 h2
      unfold maxLen at hmx
      have c00 := hK.2.2.2.1 k _ hvc
      have HM : Hid (((.slice sa m sc : Value), m) ∈ RS) := hm
      have HVC : Hid ((RS.map Prod.fst)[k]? = some (.slice sa m sc)) := hvc
      clear hK hvm hm hvc hroom
      go_upto_region 15 with fail
      go_loopw [23] (fun vi wr => ∃ n : Nat, vi = .int .i64 n ∧ n ≤ m ∧ keepR X Y.heap.size RS wr) (fun vi _ => m - (intOf vi).toNat)
      case atStart => exact ⟨0, rfl, by omega, keepR_ext HK1.out (by (exact Ext.of_below (by (repeat' (first | (with_reducible exact Below.refl _ _) | (with_reducible assumption) | (with_reducible refine Below.alloc ?_ ?_ _) | (with_reducible refine Below.wext ?_ ?_ _ _) | (with_reducible refine Below.drew ?_) | (with_reducible refine Below.setCell ?_ ?_ _) | (with_reducible exact Nat.le_refl _) | (with_reducible refine Below.drewN' ?_ _) | (simp; omega) | (simp; done))))))⟩
      case round =>
        obtain ⟨n, rfl, hn2, hK2⟩ := hrel
        have c0 := hK2.2.2.2.1 k _ HVC.out
        have zb2 : LtD Y.heap.size wr.heap.size := hK2.2.2.1
        have HK2 : Hid (keepR X Y.heap.size RS wr) := hK2
        by_cases hlt2 : n < m
        · rcases hK2.2.2.2.2 _ HM.out with ⟨_, _, _, h0⟩ | ⟨g, cc, hv, r1, r2, r3, r4, r5, r6⟩
          · simp only at h0; omega
          · simp only [Value.slice.injEq, true_and] at hv
            obtain ⟨rfl, rfl⟩ := hv
            obtain ⟨⟨y1, k1⟩, q1⟩ := r6 (n * 2) (by simp only; omega)
            obtain ⟨⟨y2, k2⟩, q2⟩ := r6 (n * 2 + 1) (by simp only; omega)
            have zg : LtD g wr.heap.size := r5
            clear hK2 r6 r5 c00
            go_upto_region 9999 with fail
            go_roundw
            case rel => exact ⟨n + 1, by go_num, by omega, keepR_set (keepR_set HK2.out r3 r4 (by simp [k1]) _) r3 r4 (by simp [go_sem, k1, k2]) _⟩
            case measure => simp [intOf]; omega
        · have HXw : Hid (Ext X wr) := hK2.1
          clear hK2 c00
          go_upto_region 9999 with (first | (go_at_call_of 21 rx; refine (same_c a rx _ _ (by exact isSl.ext Hx.out (HXw.out.trans (by (exact Ext.of_below (by (repeat' (first | (with_reducible exact Below.refl _ _) | (with_reducible assumption) | (with_reducible refine Below.alloc ?_ ?_ _) | (with_reducible refine Below.wext ?_ ?_ _ _) | (with_reducible refine Below.drew ?_) | (with_reducible refine Below.setCell ?_ ?_ _) | (with_reducible exact Nat.le_refl _) | (with_reducible refine Below.drewN' ?_ _) | (simp; omega) | (simp; done)))))))) (by exact isSl.ext HVX.out (HXw.out.trans (by (exact Ext.of_below (by (repeat' (first | (with_reducible exact Below.refl _ _) | (with_reducible assumption) | (with_reducible refine Below.alloc ?_ ?_ _) | (with_reducible refine Below.wext ?_ ?_ _ _) | (with_reducible refine Below.drew ?_) | (with_reducible refine Below.setCell ?_ ?_ _) | (with_reducible exact Nat.le_refl _) | (with_reducible refine Below.drewN' ?_ _) | (simp; omega) | (simp; done))))))))).mono ?_; rintro e w1 ⟨rfl, os_v, n_v, rfl⟩) | (go_at_call_of 21 ry; refine (same_c b ry _ _ (by exact isSl.ext Hy.out (HXw.out.trans (by (exact Ext.of_below (by (repeat' (first | (with_reducible exact Below.refl _ _) | (with_reducible assumption) | (with_reducible refine Below.alloc ?_ ?_ _) | (with_reducible refine Below.wext ?_ ?_ _ _) | (with_reducible refine Below.drew ?_) | (with_reducible refine Below.setCell ?_ ?_ _) | (with_reducible exact Nat.le_refl _) | (with_reducible refine Below.drewN' ?_ _) | (simp; omega) | (simp; done)))))))) (by exact isSl.ext HUX.out (HXw.out.trans (by (exact Ext.of_below (by (repeat' (first | (with_reducible exact Below.refl _ _) | (with_reducible assumption) | (with_reducible refine Below.alloc ?_ ?_ _) | (with_reducible refine Below.wext ?_ ?_ _ _) | (with_reducible refine Below.drew ?_) | (with_reducible refine Below.setCell ?_ ?_ _) | (with_reducible exact Nat.le_refl _) | (with_reducible refine Below.drewN' ?_ _) | (simp; omega) | (simp; done))))))))).mono ?_; rintro e w1 ⟨rfl, os_v, n_v, rfl⟩))
          go_roundw
          case rel => exact ⟨k + 1, by go_num, by omega, keepR_ext HK2.out (by (exact Ext.of_below (by (repeat' (first | (with_reducible exact Below.refl _ _) | (with_reducible assumption) | (with_reducible refine Below.alloc ?_ ?_ _) | (with_reducible refine Below.wext ?_ ?_ _ _) | (with_reducible refine Below.drew ?_) | (with_reducible refine Below.setCell ?_ ?_ _) | (with_reducible exact Nat.le_refl _) | (with_reducible refine Below.drewN' ?_ _) | (simp; omega) | (simp; done))))))⟩
          case measure => simp [intOf]; omega
    · have HXw : Hid (Ext X W1) := hK.1
      clear hK
      go_upto_region 9999 with (first | (go_at_call 12; refine (awake_ok _).mono ?_; rintro e w1 ⟨rfl, osW, nW, rfl⟩))
      all_goals go_ret
      all_goals exact ⟨rfl, HXE.out.trans (HXw.out.trans (by (exact Ext.of_below (by (repeat' (first | (with_reducible exact Below.refl _ _) | (with_reducible assumption) | (with_reducible refine Below.alloc ?_ ?_ _) | (with_reducible refine Below.wext ?_ ?_ _ _) | (with_reducible refine Below.drew ?_) | (with_reducible refine Below.setCell ?_ ?_ _) | (with_reducible exact Nat.le_refl _) | (with_reducible refine Below.drewN' ?_ _) | (simp; omega) | (simp; done)))))))⟩

theorem law_keeps (rows rows2 : List (List Value)) (hr : ∀ x ∈ rows, flatOK [some .i64, some .i64] x) (hr2 : ∀ x ∈ rows2, flatOK [some .i64, some .i64] x) (v u : Value) (i1 i2 : Int) (w : World) (h : inSl w v 2 rows.length rows.flatten) (h2 : inSl w u 2 rows2.length rows2.flatten) :
    Calls Try.prog 10 #[v, u, .agg #[.int .i64 i1, .int .i64 i2]] w fun e w' => e = .returned (.bool true) ∧ Ext w w' := by
  obtain ⟨l, hl⟩ := iv_arg hr h
  obtain ⟨a, c, rfl⟩ := sl_form hl
  obtain ⟨l2, hl2⟩ := iv_arg hr2 h2
  obtain ⟨a2, c2, rfl⟩ := sl_form hl2
  exact keeps_ok l l2 a a2 c c2 i1 i2 w hl hl2

end Go.Proofs.Ytlboakmiopnifaa
