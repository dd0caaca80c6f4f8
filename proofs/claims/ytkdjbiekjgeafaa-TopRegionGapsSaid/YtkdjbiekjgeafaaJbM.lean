/- Lists of intervals for the walk in states: from the older contracts. -/
import Derived.Test.YtkdjbiekjgeafaaQw
import Derived.Test.YtkdjbiekjgeafaaVaM
set_option linter.unusedSimpArgs false
set_option linter.unusedVariables false
namespace Go.Proofs.Ytkdjbiekjgeafaa
open Go.RowKit Iv

def ivR (x : Int × Int) : List D := [.s (.int .i64 x.1), .s (.int .i64 x.2)]
def ivs (l : List (Int × Int)) : List (List D) := l.map ivR
theorem ivs_len (l : List (Int × Int)) : (ivs l).length = l.length := by simp [ivs]
theorem RL.sints {own : Nat → Prop} {W : World} {vs us : List Value} (h : RL own W vs (us.map .s)) : vs = us := by
  induction vs generalizing us with
  | nil => cases us with
    | nil => rfl
    | cons u us => cases h
  | cons v vs ih =>
    cases us with
    | nil => cases h
    | cons u us =>
      cases h with
      | cons h t =>
        cases h with
        | s h => rw [ih t]
theorem RL.iv {own : Nat → Prop} {W : World} {vs : List Value} {x : Int × Int} (h : RL own W vs (ivR x)) : vs = [.int .i64 x.1, .int .i64 x.2] := RL.sints (us := [.int .i64 x.1, .int .i64 x.2]) h
theorem sl_of {own : Nat → Prop} {W : World} {v : Value} {l : List (Int × Int)} (h : RD own W v (.l (ivs l))) : isSl W v 2 l.length (ivF l) := by
  refine ⟨ivF_len l, ?_⟩
  generalize hr : ivs l = rows at h
  cases h with
  | @nl a c =>
    have : l = [] := by cases l with
      | nil => rfl
      | cons => cases hr
    subst this
    exact .inl ⟨_, _, rfl, rfl⟩
  | @l r o n c m _ f hn hc hmx hlt ho h1 h2 h3 =>
    have hl : l.length = n := by rw [hn, ← hr, ivs_len]
    refine .inr ⟨r, o, c, by rw [hl], by omega, hmx, hlt, fun j hj => ?_⟩
    have hjd := Nat.div_add_mod j 2
    have hj2 : j / 2 < l.length := by omega
    have hrow : rows[j / 2]? = some (ivR l[j / 2]) := by rw [← hr]; simp [ivs, hj2]
    have hm : m = 2 := by have := h1 _ _ hrow; exact this.symm
    subst hm
    have hf := RL.iv (h3 _ _ hrow)
    have hra := h2 _ _ hrow
    rw [hf] at hra
    have e1 := ivF_fst l (j / 2) hj2
    have e2 := ivF_snd l (j / 2) hj2
    rcases Nat.mod_two_eq_zero_or_one j with hz | hz
    · have := hra 0 _ rfl
      rw [show j = j / 2 * 2 by omega, e1, ← this]
      congr 2
    · have := hra 1 _ rfl
      rw [show j = j / 2 * 2 + 1 by omega, e2, ← this]
      congr 2
theorem of_own {own : Nat → Prop} {W : World} {v : Value} {l : List (Int × Int)} {base : Nat} {T : TypeId} (h : W.ownsRow base T 2 v l.length (ivF l)) (ho : ∀ r, own r → r < base) : RD own W v (.l (ivs l)) := by
  obtain ⟨h1, ⟨rfl, h0⟩ | ⟨g, cap, cur, rfl, hb, hg, hn, hc, hsz, hx⟩⟩ := h
  · have : l = [] := List.length_eq_zero_iff.1 h0
    subst this
    exact .nl
  · have hgl : g < W.heap.size := (Array.getElem?_eq_some_iff.1 hg).1
    have hcell : ∀ j, j < l.length * 2 → W.cell? ⟨g, j, none⟩ = (ivF l)[j]? := fun j hj => by
      rw [← hx, List.getElem?_take_of_lt hj]
      simp [World.cell?, hg]
    refine RD.l (m := 2) (fun i => (ivF l).drop (i * 2) |>.take 2) (by rw [ivs_len]) hn hc hgl (fun h => by have := ho _ h; omega) (fun i row hi => ?_) (fun i row hi => ?_) (fun i row hi => ?_)
    · simp only [ivs, List.getElem?_map, Option.map_eq_some_iff] at hi
      obtain ⟨x, _, rfl⟩ := hi
      rfl
    · simp only [ivs, List.getElem?_map, Option.map_eq_some_iff] at hi
      obtain ⟨x, hx2, rfl⟩ := hi
      have hil := (List.getElem?_eq_some_iff.1 hx2).1
      intro j u hu
      have hj : j < 2 := by
        have := (List.getElem?_eq_some_iff.1 hu).1
        simp at this
        omega
      rw [List.getElem?_take_of_lt hj, List.getElem?_drop] at hu
      rw [Nat.zero_add, hcell _ (by omega), hu]
    · simp only [ivs, List.getElem?_map, Option.map_eq_some_iff] at hi
      obtain ⟨x, hx2, rfl⟩ := hi
      have hil := (List.getElem?_eq_some_iff.1 hx2).1
      have e1 := ivF_fst l i hil
      have e2 := ivF_snd l i hil
      have ex : l[i] = x := by rw [List.getElem?_eq_getElem hil] at hx2; exact Option.some.inj hx2
      rw [ex] at e1 e2
      have e3 : ((ivF l).drop (i * 2)).take 2 = [.int .i64 x.1, .int .i64 x.2] := by
        have h2 := ivF_len l
        apply List.ext_getElem?
        intro k
        match k with
        | 0 => rw [List.getElem?_take_of_lt (by omega), List.getElem?_drop]; exact e1
        | 1 => rw [List.getElem?_take_of_lt (by omega), List.getElem?_drop]; exact e2
        | k + 2 => rw [List.getElem?_eq_none (by simp; omega)]; simp
      rw [e3]
      exact .cons (.s rfl) (.cons (.s rfl) .nil)
def setT (x : List (Int × Int) × Int) : D := .tup [.l (ivs x.1), .s (.int .i64 x.2)]
theorem RL.two {own : Nat → Prop} {W : World} {vs : List Value} {a b : D} (h : RL own W vs [a, b]) : ∃ v u, vs = [v, u] ∧ RD own W v a ∧ RD own W u b := by
  cases h with
  | cons h1 t => cases t with
    | cons h2 t => cases t with
      | nil => exact ⟨_, _, rfl, h1, h2⟩
theorem RD.ivst {own : Nat → Prop} {W : World} {u : Value} {x : Int × Int} (h : RD own W u (.st (ivR x))) : u = .agg #[.int .i64 x.1, .int .i64 x.2] := by
  cases h with
  | st h => rw [RL.iv h]
def addI (l : List (Int × Int)) (f t : Int) : List (Int × Int) × Int := (if errI l f t = 0 then uniL l (oneI (f, t)) else [], errI l f t)
def remI (l : List (Int × Int)) (f t : Int) : List (Int × Int) × Int := (if errI l f t = 0 then cutI l (oneI (f, t)) else [], errI l f t)
theorem add_F (l : List (Int × Int)) (hl : l.length ≤ 190) (f t : Int) : Fn Try.prog 14 [.l (ivs l), .st [.s (.int .i64 f), .s (.int .i64 t)]] (· = setT (addI l f t)) :=
  ⟨by kernel_rfl, fun own W vs ho hv => by
    obtain ⟨v, u, rfl, h1, h2⟩ := hv.two
    obtain rfl := RD.ivst (x := (f, t)) h2
    refine (add_any l f t v W (sl_of h1) hl).mono ?_
    rintro e W' ⟨r, rfl, hr, hb⟩
    exact ⟨_, _, rfl, rfl, Ext.of_below hb, .tup (.cons (of_own hr ho) (.cons (.s rfl) .nil))⟩⟩
theorem rem_F (l : List (Int × Int)) (hl : l.length ≤ 190) (f t : Int) : Fn Try.prog 16 [.l (ivs l), .st [.s (.int .i64 f), .s (.int .i64 t)]] (· = setT (remI l f t)) :=
  ⟨by kernel_rfl, fun own W vs ho hv => by
    obtain ⟨v, u, rfl, h1, h2⟩ := hv.two
    obtain rfl := RD.ivst (x := (f, t)) h2
    refine (rem_any l f t v W (sl_of h1) hl).mono ?_
    rintro e W' ⟨r, rfl, hr, hb⟩
    exact ⟨_, _, rfl, rfl, Ext.of_below hb, .tup (.cons (of_own hr ho) (.cons (.s rfl) .nil))⟩⟩
theorem isame_F (l r : List (Int × Int)) : Fn Try.prog 7 [.l (ivs l), .l (ivs r)] (· = .s (.bool (decide (l = r)))) :=
  ⟨by kernel_rfl, fun own W vs ho hv => by
    obtain ⟨v, u, rfl, h1, h2⟩ := hv.two
    refine (same_any l r v u W (sl_of h1) (sl_of h2)).mono ?_
    rintro e W' ⟨rfl, hE⟩
    exact ⟨_, _, rfl, rfl, hE, .s rfl⟩⟩
theorem fg_F (l : List (Int × Int)) (hl : l.length ≤ 190) (lo hi n : Int) : Fn Try.prog 9 [.l (ivs l), .s (.int .i64 lo), .s (.int .i64 hi), .s (.int .i64 n)] (· = .tup [.s (.int .i64 (fgI l lo hi n (cutI (oneI (lo, hi)) l)).1), .s (.int .i64 (fgI l lo hi n (cutI (oneI (lo, hi)) l)).2)]) :=
  ⟨by kernel_rfl, fun own W vs ho hv => by
    cases hv with
    | cons h1 t => cases t with
      | cons h2 t => cases t with
        | cons h3 t => cases t with
          | cons h4 t => cases t with
            | nil =>
              cases h2; cases h3; cases h4
              refine (fg_any l lo hi n _ W (sl_of h1) (by omega)).mono ?_
              rintro e W' ⟨rfl, hE⟩
              exact ⟨_, _, rfl, rfl, hE, .tup (.cons (.s rfl) (.cons (.s rfl) .nil))⟩⟩

end Go.Proofs.Ytkdjbiekjgeafaa
