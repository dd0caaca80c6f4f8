/- Rangetree, plain: trees of regions, their lists, and what insertion and removal do. -/
import Derived.Test.YtmajkjkakciaiaaQa
set_option linter.unusedSimpArgs false
set_option linter.unusedVariables false
namespace Go.Proofs.Ytmajkjkakciaiaa

/-- A region. -/
structure RV where
  s : Int
  p : Int
  r : Int
  f : Int
  i : Int
  x : Int
def RV.e (x : RV) : Int := x.s + x.p
/-- A tree whose numbers are those that its shape says. -/
inductive PT where
  | E
  | N (l : PT) (x : RV) (r : PT)
def PT.ht : PT → Int
  | .E => 0
  | .N l _ r => 1 + max l.ht r.ht
def PT.fst : PT → Int
  | .E => 0
  | .N l x _ => if 0 < l.ht then l.fst else x.s
def PT.lst : PT → Int
  | .E => 0
  | .N _ x r => if 0 < r.ht then r.lst else x.e
def gapN (l : PT) (lg ll : Int) (x : RV) (r : PT) (rg rf : Int) : Int :=
  if 0 < r.ht then max (if 0 < l.ht then max (max lg rg) (x.s - ll) else max lg rg) (rf - x.e) else (if 0 < l.ht then max (max lg rg) (x.s - ll) else max lg rg)
def PT.gp : PT → Int
  | .E => 0
  | .N l x r => gapN l l.gp l.lst x r r.gp r.fst
def PT.flat : PT → List RV
  | .E => []
  | .N l x r => l.flat ++ x :: r.flat

theorem PT.ht_nn : ∀ t : PT, 0 ≤ t.ht
  | .E => by simp [PT.ht]
  | .N l x r => by have := PT.ht_nn l; have := PT.ht_nn r; simp only [PT.ht]; omega
theorem PT.ht_pos (l : PT) (x : RV) (r : PT) : 0 < (PT.N l x r).ht := by
  have := PT.ht_nn l; have := PT.ht_nn r; simp only [PT.ht]; omega
theorem PT.ht_zero {t : PT} (h : t.ht ≤ 0) : t = .E := by
  cases t with
  | E => rfl
  | N l x r => have := PT.ht_pos l x r; omega

def vld (x : RV) : Prop := 0 ≤ x.s ∧ 1 ≤ x.p ∧ x.p ≤ 512 ∧ x.s + x.p ≤ 512
def apart (a b : RV) : Prop := a.e ≤ b.s
/-- Valid regions, in order. -/
structure ord (l : List RV) : Prop where
  v : ∀ x ∈ l, vld x
  o : l.Pairwise apart
def PT.bal : PT → Prop
  | .E => True
  | .N l _ r => l.bal ∧ r.bal ∧ l.ht ≤ r.ht + 1 ∧ r.ht ≤ l.ht + 1
structure good (t : PT) : Prop where
  b : t.bal
  o : ord t.flat

def joinP (l : PT) (x : RV) (r : PT) : PT :=
  if r.ht + 1 < l.ht then
    match l with
    | .E => .N l x r
    | .N a y b => if b.ht ≤ a.ht then .N a y (.N b x r) else
      match b with
      | .E => .N l x r
      | .N c z d => .N (.N a y c) z (.N d x r)
  else if l.ht + 1 < r.ht then
    match r with
    | .E => .N l x r
    | .N b y c => if b.ht ≤ c.ht then .N (.N l x b) y c else
      match b with
      | .E => .N l x r
      | .N d z e => .N (.N l x d) z (.N e y c)
  else .N l x r

theorem join_flat (l : PT) (x : RV) (r : PT) : (joinP l x r).flat = l.flat ++ x :: r.flat := by
  unfold joinP
  repeat' split
  all_goals simp [PT.flat]

theorem join_bal {l : PT} {x : RV} {r : PT} (hl : l.bal) (hr : r.bal) (h1 : l.ht ≤ r.ht + 2) (h2 : r.ht ≤ l.ht + 2) :
    (joinP l x r).bal ∧ max l.ht r.ht ≤ (joinP l x r).ht ∧ (joinP l x r).ht ≤ 1 + max l.ht r.ht ∧ (l.ht ≤ r.ht + 1 → r.ht ≤ l.ht + 1 → (joinP l x r).ht = 1 + max l.ht r.ht) := by
  unfold joinP
  by_cases c1 : r.ht + 1 < l.ht
  · rw [if_pos c1]
    cases l with
    | E => have := PT.ht_nn r; simp only [PT.ht] at c1; omega
    | N a y b =>
      simp only
      obtain ⟨ba, bb, b1, b2⟩ := hl
      simp only [PT.ht] at c1 h1 h2
      by_cases c2 : b.ht ≤ a.ht
      · rw [if_pos c2]
        simp only [PT.bal, PT.ht]
        refine ⟨⟨ba, ⟨bb, hr, ?_, ?_⟩, ?_, ?_⟩, ?_, ?_, ?_⟩ <;> omega
      · rw [if_neg c2]
        cases b with
        | E => have := PT.ht_nn a; simp only [PT.ht] at c2; omega
        | N c z d =>
          obtain ⟨bc, bd, b3, b4⟩ := bb
          simp only [PT.ht] at c2 c1 b1 b2 h1 h2
          simp only [PT.bal, PT.ht]
          refine ⟨⟨⟨ba, bc, ?_, ?_⟩, ⟨bd, hr, ?_, ?_⟩, ?_, ?_⟩, ?_, ?_, ?_⟩ <;> omega
  · rw [if_neg c1]
    by_cases c3 : l.ht + 1 < r.ht
    · rw [if_pos c3]
      cases r with
      | E => have := PT.ht_nn l; simp only [PT.ht] at c3; omega
      | N b y c =>
        simp only
        obtain ⟨bb, bc, b1, b2⟩ := hr
        simp only [PT.ht] at c3 c1 h1 h2
        by_cases c2 : b.ht ≤ c.ht
        · rw [if_pos c2]
          simp only [PT.bal, PT.ht]
          refine ⟨⟨⟨hl, bb, ?_, ?_⟩, bc, ?_, ?_⟩, ?_, ?_, ?_⟩ <;> omega
        · rw [if_neg c2]
          cases b with
          | E => have := PT.ht_nn c; simp only [PT.ht] at c2; omega
          | N d z e =>
            obtain ⟨bd, be, b3, b4⟩ := bb
            simp only [PT.ht] at c2 c1 c3 b1 b2 h1 h2
            simp only [PT.bal, PT.ht]
            refine ⟨⟨⟨hl, bd, ?_, ?_⟩, ⟨be, bc, ?_, ?_⟩, ?_, ?_⟩, ?_, ?_, ?_⟩ <;> omega
    · rw [if_neg c3]
      simp only [PT.bal, PT.ht]
      refine ⟨⟨hl, hr, ?_, ?_⟩, ?_, ?_, ?_⟩ <;> first | omega | (intros; omega) | (intros; trivial)

def insP : PT → RV → PT
  | .E, r => .N .E r .E
  | .N a x b, r => if r.s < x.s then joinP (insP a r) x b else joinP a x (insP b r)
theorem ins_bal : ∀ (t : PT) (r : RV), t.bal → (insP t r).bal ∧ t.ht ≤ (insP t r).ht ∧ (insP t r).ht ≤ t.ht + 1
  | .E, r, _ => by simp [insP, PT.bal, PT.ht]
  | .N a x b, r, h => by
    obtain ⟨ba, bb, h1, h2⟩ := h
    unfold insP
    by_cases c : r.s < x.s
    · rw [if_pos c]
      obtain ⟨i1, i2, i3⟩ := ins_bal a r ba
      obtain ⟨j1, j2, j3, j4⟩ := join_bal (x := x) i1 bb (by omega) (by omega)
      simp only [PT.ht]
      refine ⟨j1, ?_, ?_⟩
      · by_cases c4 : (insP a r).ht ≤ b.ht + 1
        · have := j4 c4 (by omega); omega
        · omega
      · by_cases c4 : (insP a r).ht ≤ b.ht + 1
        · have := j4 c4 (by omega); omega
        · omega
    · rw [if_neg c]
      obtain ⟨i1, i2, i3⟩ := ins_bal b r bb
      obtain ⟨j1, j2, j3, j4⟩ := join_bal (x := x) ba i1 (by omega) (by omega)
      simp only [PT.ht]
      refine ⟨j1, ?_, ?_⟩
      · by_cases c4 : (insP b r).ht ≤ a.ht + 1
        · have := j4 (by omega) c4; omega
        · omega
      · by_cases c4 : (insP b r).ht ≤ a.ht + 1
        · have := j4 (by omega) c4; omega
        · omega
def minP : PT → RV → RV
  | .E, d => d
  | .N l x _, _ => minP l x
def remP : PT → Int → PT
  | .E, _ => .E
  | .N a x b, s => if s < x.s then joinP (remP a s) x b else if x.s < s then joinP a x (remP b s) else if a.ht = 0 then b else if b.ht = 0 then a else joinP a (minP b x) (remP b (minP b x).s)
theorem rem_bal : ∀ (t : PT) (s : Int), t.bal → (remP t s).bal ∧ t.ht - 1 ≤ (remP t s).ht ∧ (remP t s).ht ≤ t.ht
  | .E, s, _ => by simp [remP, PT.bal, PT.ht]
  | .N a x b, s, h => by
    obtain ⟨ba, bb, h1, h2⟩ := h
    have na := PT.ht_nn a
    have nb := PT.ht_nn b
    unfold remP
    by_cases c : s < x.s
    · rw [if_pos c]
      obtain ⟨i1, i2, i3⟩ := rem_bal a s ba
      obtain ⟨j1, j2, j3, j4⟩ := join_bal (x := x) i1 bb (by omega) (by omega)
      simp only [PT.ht]
      refine ⟨j1, ?_, ?_⟩
      · by_cases c4 : b.ht ≤ (remP a s).ht + 1
        · have := j4 (by omega) c4; omega
        · omega
      · by_cases c4 : b.ht ≤ (remP a s).ht + 1
        · have := j4 (by omega) c4; omega
        · omega
    · rw [if_neg c]
      by_cases c' : x.s < s
      · rw [if_pos c']
        obtain ⟨i1, i2, i3⟩ := rem_bal b s bb
        obtain ⟨j1, j2, j3, j4⟩ := join_bal (x := x) ba i1 (by omega) (by omega)
        simp only [PT.ht]
        refine ⟨j1, ?_, ?_⟩
        · by_cases c4 : a.ht ≤ (remP b s).ht + 1
          · have := j4 c4 (by omega); omega
          · omega
        · by_cases c4 : a.ht ≤ (remP b s).ht + 1
          · have := j4 c4 (by omega); omega
          · omega
      · rw [if_neg c']
        by_cases c5 : a.ht = 0
        · rw [if_pos c5]; simp only [PT.ht]; exact ⟨bb, by omega, by omega⟩
        · rw [if_neg c5]
          by_cases c6 : b.ht = 0
          · rw [if_pos c6]; simp only [PT.ht]; exact ⟨ba, by omega, by omega⟩
          · rw [if_neg c6]
            obtain ⟨i1, i2, i3⟩ := rem_bal b (minP b x).s bb
            obtain ⟨j1, j2, j3, j4⟩ := join_bal (x := minP b x) ba i1 (by omega) (by omega)
            simp only [PT.ht]
            refine ⟨j1, ?_, ?_⟩
            · by_cases c4 : a.ht ≤ (remP b (minP b x).s).ht + 1
              · have := j4 c4 (by omega); omega
              · omega
            · by_cases c4 : a.ht ≤ (remP b (minP b x).s).ht + 1
              · have := j4 c4 (by omega); omega
              · omega

/-! ### Lists -/
def insL : List RV → RV → List RV
  | [], r => [r]
  | y :: l, r => if r.s < y.s then r :: y :: l else y :: insL l r
theorem insL_left : ∀ (A : List RV) (x : RV) (B : List RV) (r : RV), r.s < x.s → insL (A ++ x :: B) r = insL A r ++ x :: B
  | [], x, B, r, h => by simp [insL, h]
  | y :: A, x, B, r, h => by
    simp only [List.cons_append, insL]
    split
    · rfl
    · rw [insL_left A x B r h]; rfl
theorem insL_right : ∀ (A B : List RV) (r : RV), (∀ y ∈ A, y.s ≤ r.s) → insL (A ++ B) r = A ++ insL B r
  | [], B, r, h => rfl
  | y :: A, B, r, h => by
    have h1 := h y (by simp)
    simp only [List.cons_append, insL]
    rw [if_neg (by omega), insL_right A B r (fun z hz => h z (by simp [hz]))]
theorem ord_append {A B : List RV} (h : ord (A ++ B)) : ord A ∧ ord B ∧ ∀ a ∈ A, ∀ b ∈ B, apart a b := by
  obtain ⟨h1, h2⟩ := h
  rw [List.pairwise_append] at h2
  exact ⟨⟨fun x hx => h1 x (by simp [hx]), h2.1⟩, ⟨fun x hx => h1 x (by simp [hx]), h2.2.1⟩, h2.2.2⟩
theorem ord_cons {x : RV} {B : List RV} (h : ord (x :: B)) : vld x ∧ ord B ∧ ∀ b ∈ B, apart x b := by
  obtain ⟨h1, h2⟩ := h
  rw [List.pairwise_cons] at h2
  exact ⟨h1 x (by simp), ⟨fun y hy => h1 y (by simp [hy]), h2.2⟩, h2.1⟩
theorem ord_mk {A : List RV} {x : RV} {B : List RV} (hA : ord A) (hx : vld x) (hB : ord B) (h1 : ∀ a ∈ A, apart a x) (h2 : ∀ b ∈ B, apart x b) : ord (A ++ x :: B) := by
  refine ⟨fun y hy => ?_, ?_⟩
  · rcases List.mem_append.1 hy with h | h
    · exact hA.v y h
    · rcases List.mem_cons.1 h with rfl | h
      · exact hx
      · exact hB.v y h
  · rw [List.pairwise_append, List.pairwise_cons]
    refine ⟨hA.o, ⟨h2, hB.o⟩, fun a ha b hb => ?_⟩
    rcases List.mem_cons.1 hb with rfl | hb
    · exact h1 a ha
    · have e1 := h1 a ha
      have e2 := h2 b hb
      obtain ⟨_, v2, _, _⟩ := hx
      unfold apart RV.e at *
      omega
theorem ord_node {l : PT} {x : RV} {r : PT} (h : ord (PT.N l x r).flat) : ord l.flat ∧ vld x ∧ ord r.flat ∧ (∀ a ∈ l.flat, apart a x) ∧ (∀ b ∈ r.flat, apart x b) := by
  obtain ⟨h1, h2, h3⟩ := ord_append (show ord (l.flat ++ x :: r.flat) from h)
  obtain ⟨h4, h5, h6⟩ := ord_cons h2
  exact ⟨h1, h4, h5, fun a ha => h3 a ha x (by simp), h6⟩
theorem apart_lt {a b : RV} (h : apart a b) (hv : vld a) : a.s < b.s := by
  obtain ⟨_, h2, _, _⟩ := hv
  unfold apart RV.e at h
  omega

theorem ins_flat : ∀ (t : PT) (r : RV), ord t.flat → (insP t r).flat = insL t.flat r
  | .E, r, _ => rfl
  | .N a x b, r, h => by
    obtain ⟨h1, h2, h3, h4, h5⟩ := ord_node h
    unfold insP
    by_cases c : r.s < x.s
    · rw [if_pos c, join_flat, ins_flat a r h1, PT.flat, insL_left _ _ _ _ c]
    · rw [if_neg c, join_flat, ins_flat b r h3, PT.flat, insL_right _ _ _ (fun y hy => by have := apart_lt (h4 y hy) (h1.v y hy); omega)]
      simp only [insL]
      rw [if_neg c]
theorem insL_mem : ∀ (l : List RV) (r x : RV), x ∈ insL l r ↔ x = r ∨ x ∈ l
  | [], r, x => by simp [insL]
  | y :: l, r, x => by
    simp only [insL]
    split
    · simp
    · simp only [List.mem_cons, insL_mem l r x]
      constructor
      · rintro (h | h | h) <;> simp [h]
      · rintro (h | h | h) <;> simp [h]
theorem insL_len : ∀ (l : List RV) (r : RV), (insL l r).length = l.length + 1
  | [], r => rfl
  | y :: l, r => by
    simp only [insL]
    split
    · simp
    · simp [insL_len l r]
/-- r meets no region of l. -/
def meets (a r : RV) : Prop := a.s < r.e ∧ r.s < a.e
theorem insL_ord : ∀ (l : List RV) (r : RV), ord l → vld r → (∀ x ∈ l, ¬ meets x r) → ord (insL l r)
  | [], r, h, hv, hm => ⟨by simp [insL, hv], by simp [insL]⟩
  | y :: l, r, h, hv, hm => by
    obtain ⟨h1, h2, h3⟩ := ord_cons h
    have hy := hm y (by simp)
    simp only [insL]
    split
    · rename_i c
      refine ord_mk (A := []) ⟨by simp, by simp⟩ hv h (by simp) (fun b hb => ?_)
      have e1 : apart r y := by
        obtain ⟨_, q2, _, _⟩ := h1
        unfold meets at hy
        unfold apart
        unfold RV.e at *
        omega
      rcases List.mem_cons.1 hb with rfl | hb
      · exact e1
      · have e2 := h3 b hb
        obtain ⟨_, q2, _, _⟩ := h1
        unfold apart RV.e at *
        omega
    · rename_i c
      have e1 : apart y r := by
        obtain ⟨_, q2, _, _⟩ := hv
        unfold meets at hy
        unfold apart
        unfold RV.e at *
        omega
      refine ord_mk (A := []) ⟨by simp, by simp⟩ h1 (insL_ord l r h2 hv (fun x hx => hm x (by simp [hx]))) (by simp) (fun b hb => ?_)
      rcases (insL_mem l r b).1 hb with rfl | hb
      · exact e1
      · exact h3 b hb
theorem ins_good {t : PT} {r : RV} (h : good t) (hv : vld r) (hm : ∀ x ∈ t.flat, ¬ meets x r) : good (insP t r) :=
  ⟨(ins_bal t r h.b).1, by rw [ins_flat t r h.o]; exact insL_ord _ _ h.o hv hm⟩

theorem min_flat : ∀ (b : PT) (d : RV), 0 < b.ht → ∃ B, b.flat = minP b d :: B
  | .E, d, h => by simp [PT.ht] at h
  | .N l x r, d, _ => by
    unfold minP
    cases l with
    | E => exact ⟨r.flat, rfl⟩
    | N a y c =>
      obtain ⟨B, hB⟩ := min_flat (.N a y c) x (PT.ht_pos _ _ _)
      exact ⟨B ++ x :: r.flat, by show (PT.N a y c).flat ++ x :: r.flat = _; rw [hB]; rfl⟩
def remL (l : List RV) (s : Int) : List RV := l.filter (fun x => x.s != s)
theorem remL_none {l : List RV} {s : Int} (h : ∀ x ∈ l, x.s ≠ s) : remL l s = l := by
  unfold remL
  rw [List.filter_eq_self]
  intro x hx
  simpa using h x hx
theorem remL_app (A B : List RV) (s : Int) : remL (A ++ B) s = remL A s ++ remL B s := List.filter_append _ _
theorem remL_cons (x : RV) (B : List RV) (s : Int) : remL (x :: B) s = if x.s = s then remL B s else x :: remL B s := by
  unfold remL
  rw [List.filter_cons]
  by_cases c : x.s = s <;> simp [c]
theorem rem_flat : ∀ (t : PT) (s : Int), ord t.flat → (remP t s).flat = remL t.flat s
  | .E, s, _ => rfl
  | .N a x b, s, h => by
    obtain ⟨h1, h2, h3, h4, h5⟩ := ord_node h
    have l1 : ∀ y ∈ a.flat, y.s < x.s := fun y hy => apart_lt (h4 y hy) (h1.v y hy)
    have l2 : ∀ y ∈ b.flat, x.s < y.s := fun y hy => apart_lt (h5 y hy) h2
    show _ = remL (a.flat ++ x :: b.flat) s
    rw [remL_app, remL_cons]
    unfold remP
    by_cases c : s < x.s
    · rw [if_pos c, join_flat, rem_flat a s h1, if_neg (by omega), remL_none (l := b.flat) (fun y hy => by have := l2 y hy; omega)]
    · rw [if_neg c]
      by_cases c' : x.s < s
      · rw [if_pos c', join_flat, rem_flat b s h3, if_neg (by omega), remL_none (l := a.flat) (fun y hy => by have := l1 y hy; omega)]
      · rw [if_neg c', if_pos (show x.s = s by omega), remL_none (l := a.flat) (fun y hy => by have := l1 y hy; omega), remL_none (l := b.flat) (fun y hy => by have := l2 y hy; omega)]
        by_cases c5 : a.ht = 0
        · rw [if_pos c5, PT.ht_zero (t := a) (by omega)]; rfl
        · rw [if_neg c5]
          by_cases c6 : b.ht = 0
          · rw [if_pos c6, PT.ht_zero (t := b) (by omega)]; simp [PT.flat]
          · rw [if_neg c6, join_flat, rem_flat b _ h3]
            have hb := PT.ht_nn b
            obtain ⟨B, hB⟩ := min_flat b x (by omega)
            have h3' := h3
            rw [hB] at h3'
            obtain ⟨g1, g2, g3⟩ := ord_cons h3'
            congr 1
            rw [hB, remL_cons, if_pos rfl, remL_none (fun y hy => by have := apart_lt (g3 y hy) g1; omega)]
theorem remL_ord {l : List RV} (h : ord l) (s : Int) : ord (remL l s) :=
  ⟨fun x hx => h.v x (List.mem_filter.1 hx).1, h.o.filter _⟩
theorem rem_good {t : PT} (h : good t) (s : Int) : good (remP t s) :=
  ⟨(rem_bal t s h.b).1, by rw [rem_flat t s h.o]; exact remL_ord h.o s⟩

/-! ### The first region that ends behind a page -/
def aftP : PT → Int → Option RV
  | .E, _ => none
  | .N a x b, pg => if pg < x.e then (match aftP a pg with | some y => some y | none => some x) else aftP b pg
def aftL (l : List RV) (pg : Int) : Option RV := l.find? (fun x => decide (pg < x.e))
theorem aft_flat : ∀ (t : PT) (pg : Int), ord t.flat → aftP t pg = aftL t.flat pg
  | .E, pg, _ => rfl
  | .N a x b, pg, h => by
    obtain ⟨h1, h2, h3, h4, h5⟩ := ord_node h
    show _ = aftL (a.flat ++ x :: b.flat) pg
    unfold aftP
    rw [aft_flat a pg h1, aft_flat b pg h3]
    unfold aftL
    rw [List.find?_append, List.find?_cons]
    by_cases c : pg < x.e
    · simp only [if_pos c, decide_eq_true c]
      cases List.find? (fun x => decide (pg < x.e)) a.flat <;> rfl
    · simp only [if_neg c, decide_eq_false c]
      have : List.find? (fun x => decide (pg < x.e)) a.flat = none := by
        rw [List.find?_eq_none]
        intro y hy
        have e1 := h4 y hy
        obtain ⟨_, q2, _, _⟩ := h2
        unfold apart RV.e at *
        simp only [decide_eq_true_eq]
        omega
      rw [this]; rfl

/-! ### First, last, the greatest gap -/
theorem flat_ne (l : PT) (x : RV) (r : PT) : (PT.N l x r).flat ≠ [] := by simp [PT.flat]
def fstL : List RV → Int
  | [] => 0
  | x :: _ => x.s
def lstL : List RV → Int
  | [] => 0
  | [x] => x.e
  | _ :: y :: l => lstL (y :: l)
def gapL : List RV → Int
  | [] => 0
  | [_] => 0
  | x :: y :: l => max (y.s - x.e) (gapL (y :: l))
theorem gapL_nn : ∀ l : List RV, 0 ≤ gapL l
  | [] => by simp [gapL]
  | [_] => by simp [gapL]
  | x :: y :: l => by have := gapL_nn (y :: l); simp only [gapL]; omega
theorem lstL_app : ∀ (A : List RV) (x : RV) (B : List RV), lstL (A ++ x :: B) = lstL (x :: B)
  | [], x, B => rfl
  | [y], x, B => rfl
  | y :: z :: A, x, B => lstL_app (z :: A) x B
theorem fst_flat : ∀ t : PT, t.fst = fstL t.flat
  | .E => rfl
  | .N l x r => by
    unfold PT.fst
    cases l with
    | E => simp [PT.ht, PT.flat, fstL]
    | N a y b =>
      rw [if_pos (PT.ht_pos _ _ _), fst_flat (.N a y b)]
      show _ = fstL ((PT.N a y b).flat ++ x :: r.flat)
      cases h : (PT.N a y b).flat with
      | nil => exact absurd h (flat_ne _ _ _)
      | cons z Z => rfl
theorem lst_flat : ∀ t : PT, t.lst = lstL t.flat
  | .E => rfl
  | .N l x r => by
    unfold PT.lst
    show _ = lstL (l.flat ++ x :: r.flat)
    rw [lstL_app]
    cases r with
    | E => simp [PT.ht, PT.flat, lstL]
    | N a y b =>
      rw [if_pos (PT.ht_pos _ _ _), lst_flat (.N a y b)]
      cases h : (PT.N a y b).flat with
      | nil => exact absurd h (flat_ne _ _ _)
      | cons z Z => rfl
theorem gapL_cons (x : RV) (B : List RV) : gapL (x :: B) = match B with | [] => 0 | y :: _ => max (y.s - x.e) (gapL B) := by
  cases B <;> rfl
theorem gapL_app : ∀ (A : List RV) (x : RV) (B : List RV), A ≠ [] → gapL (A ++ x :: B) = max (max (gapL A) (x.s - lstL A)) (gapL (x :: B))
  | [], x, B, h => absurd rfl h
  | [y], x, B, _ => by have := gapL_nn (x :: B); simp only [List.cons_append, List.nil_append, gapL, lstL]; omega
  | y :: z :: A, x, B, _ => by
    have := gapL_app (z :: A) x B (by simp)
    simp only [List.cons_append] at this ⊢
    simp only [gapL, lstL]
    rw [this]
    omega
theorem gap_flat : ∀ t : PT, t.gp = gapL t.flat
  | .E => rfl
  | .N l x r => by
    unfold PT.gp gapN
    rw [gap_flat l, gap_flat r, lst_flat l, fst_flat r]
    have n1 := gapL_nn l.flat
    have n2 := gapL_nn r.flat
    show _ = gapL (l.flat ++ x :: r.flat)
    have hr : gapL (x :: r.flat) = if 0 < r.ht then max (fstL r.flat - x.e) (gapL r.flat) else 0 := by
      cases r with
      | E => simp [PT.ht, PT.flat, gapL]
      | N a y b =>
        rw [if_pos (PT.ht_pos _ _ _), gapL_cons]
        cases h : (PT.N a y b).flat with
        | nil => exact absurd h (flat_ne _ _ _)
        | cons z Z => rfl
    have hz : ¬ 0 < r.ht → gapL r.flat = 0 := fun h => by rw [PT.ht_zero (t := r) (by omega)]; rfl
    cases l with
    | E =>
      simp only [PT.ht, PT.flat, List.nil_append]
      rw [hr]
      simp only [gapL]
      split <;> rename_i c
      · simp; omega
      · have := hz c; simp; omega
    | N a y b =>
      rw [gapL_app _ _ _ (flat_ne a y b), hr]
      simp only [if_pos (PT.ht_pos a y b)]
      split <;> rename_i c
      · omega
      · have := hz c; omega

end Go.Proofs.Ytmajkjkakciaiaa
