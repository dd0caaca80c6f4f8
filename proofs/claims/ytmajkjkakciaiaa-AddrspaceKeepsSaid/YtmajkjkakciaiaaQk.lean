/- Address spaces, plain: lists of regions, merged. -/
/- Address spaces, the program's side: check, Unmap. -/
/- Address spaces, the program's side: Unmap. -/
/- Address spaces, the program's side: covered, divide. -/
import Derived.Test.YtmajkjkakciaiaaQj
set_option linter.unusedSimpArgs false
set_option linter.unusedVariables false
namespace Go.Proofs.Ytmajkjkakciaiaa
open Go.RowKit

theorem cnd1 (b : Bool) (t : Int) : (bif b then (1 : Int) else t) = 0 ↔ b = false ∧ t = 0 := by cases b <;> simp
theorem cnd2 (b : Bool) (t : Int) : (bif b then (2 : Int) else t) = 0 ↔ b = false ∧ t = 0 := by cases b <;> simp
theorem chk_iff (x : RV) : chkV x = 0 ↔ 1 ≤ x.p ∧ (x.r = 1 ∨ x.r = 3) ∧ (0 ≤ x.f ∧ x.f ≤ 15) ∧ (-1 ≤ x.i ∧ x.i ≤ 3) ∧ (x.i = -1 → bits .and .i64 x.f 1 = 0) ∧ (x.i ≠ -1 → bits .and .i64 x.f 10 = 0) ∧ 0 ≤ x.s ∧ x.s + x.p ≤ 512 ∧ 0 ≤ x.x ∧ (x.i = -1 → x.x = 0) ∧ (x.i ≠ -1 → x.x + x.p ≤ 16) := by
  obtain ⟨s, p, r, f, i, x⟩ := x
  simp only [chkV, chkR, cnd1, cnd2, Bool.or_eq_false_iff, Bool.and_eq_false_iff, decide_eq_false_iff_not, bne_eq_false_iff_eq, beq_eq_false_iff_ne, and_true]
  generalize bits .and .i64 f 1 = u
  generalize bits .and .i64 f 10 = v
  constructor <;> intro h <;> omega
theorem mrg_iff {a b : RV} (ha : chkV a = 0) (hb : chkV b = 0) : mrgV a b = true ↔ a.s + a.p = b.s ∧ ¬ (a.f / 2 % 2 = 1) ∧ a.r = b.r ∧ a.f = b.f ∧ a.i = b.i ∧ (a.i < 0 ∨ b.x = a.x + a.p) := by
  rw [← mrgW_eq]
  simp only [mrgW, ha, hb, bne_self_eq_false, Bool.false_or]
  by_cases h1 : a.s + a.p = b.s <;> by_cases h2 : a.f / 2 % 2 = 1 <;> by_cases h3 : a.r = b.r <;> by_cases h4 : a.f = b.f <;> by_cases h5 : a.i = b.i <;> simp_all
/-- Two regions as one. -/
def one2 (a b : RV) : RV := ⟨a.s, a.p + b.p, a.r, a.f, a.i, a.x⟩
theorem merge_ok {a b : RV} (ha : chkV a = 0) (hb : chkV b = 0) : mergeV a b = if mrgV a b = true then (one2 a b, 0) else (RV.z, 11) := by
  simp only [mergeV, ha, hb, bne_self_eq_false, cond_false]
  cases mrgV a b <;> rfl
theorem one2_ok {a b : RV} (ha : chkV a = 0) (hb : chkV b = 0) (h : mrgV a b = true) : chkV (one2 a b) = 0 := by
  rw [mrg_iff ha hb] at h
  have h1 := (chk_iff a).1 ha
  have h2 := (chk_iff b).1 hb
  obtain ⟨g1, g2, g3, g4, g5, g6⟩ := h
  refine (chk_iff _).2 ?_
  simp only [one2]
  rw [g5] at h1 ⊢
  refine ⟨by omega, by omega, by omega, by omega, fun e => h1.2.2.2.2.1 e, fun e => h1.2.2.2.2.2.1 e, by omega, by omega, by omega, by omega, by omega⟩
/-- Valid regions, in order, none over another. -/
structure okl (l : List RV) : Prop where
  c : ∀ x ∈ l, chkV x = 0
  o : l.Pairwise apart
theorem okl.ord {l : List RV} (h : okl l) : ord l := ⟨fun x hx => by have := chkV_bd (h.c x hx); unfold vld; omega, h.o⟩
theorem okl.le {l : List RV} (h : okl l) : l.length ≤ 512 := ord_le h.ord
/-- No two neighbours can be merged. -/
def far : List RV → Prop
  | x :: y :: l => mrgV x y = false ∧ far (y :: l)
  | _ => True
theorem far_any : ∀ l : List RV, far l ↔ anyM l = false
  | [] => by simp [far, anyM]
  | [x] => by simp [far, anyM]
  | x :: y :: l => by simp only [far, anyM, Bool.or_eq_false_iff, far_any (y :: l)]
theorem far_snoc : ∀ (l : List RV) (a x : RV), far (l ++ [a]) → mrgV a x = false → far (l ++ [a, x])
  | [], a, x, _, h => ⟨h, trivial⟩
  | [b], a, x, h1, h => ⟨h1.1, h, trivial⟩
  | b :: c :: l, a, x, h1, h => ⟨h1.1, far_snoc (c :: l) a x h1.2 h⟩
theorem far_last : ∀ (l : List RV) (a a' : RV), far (l ++ [a]) → (∀ b ∈ l, mrgV b a = false → mrgV b a' = false) → far (l ++ [a'])
  | [], a, a', _, _ => trivial
  | [b], a, a', h1, h => ⟨h b (by simp) h1.1, trivial⟩
  | b :: c :: l, a, a', h1, h => ⟨h1.1, far_last (c :: l) a a' h1.2 (fun y hy => h y (by simp [List.mem_cons] at hy ⊢; exact .inr hy))⟩
theorem okl.app {l m : List RV} (h1 : okl l) (h2 : okl m) (h : ∀ x ∈ l, ∀ y ∈ m, apart x y) : okl (l ++ m) :=
  ⟨fun x hx => by rcases List.mem_append.1 hx with hx | hx; exact h1.c x hx; exact h2.c x hx, List.pairwise_append.2 ⟨h1.o, h2.o, h⟩⟩
theorem okl.app1 {l m : List RV} (h : okl (l ++ m)) : okl l ∧ okl m ∧ ∀ x ∈ l, ∀ y ∈ m, apart x y := by
  obtain ⟨c, o⟩ := h
  obtain ⟨o1, o2, o3⟩ := List.pairwise_append.1 o
  exact ⟨⟨fun x hx => c x (List.mem_append_left _ hx), o1⟩, ⟨fun x hx => c x (List.mem_append_right _ hx), o2⟩, o3⟩
theorem okl.one {x : RV} (h : chkV x = 0) : okl [x] := ⟨fun y hy => by simp at hy; subst hy; exact h, by simp⟩
theorem last_split {out : List RV} {a : RV} (h : out.getLast? = some a) : out = out.dropLast ++ [a] := by
  have hne : out ≠ [] := by rintro rfl; simp at h
  rw [List.getLast?_eq_some_getLast hne] at h
  cases h
  exact (List.dropLast_concat_getLast hne).symm
/-- What a merged list keeps: valid, in order, nothing to merge, below the regions to come. -/
structure nrm (out rest : List RV) : Prop where
  l : okl (out ++ rest)
  f : far out
theorem nrm.step {out rest : List RV} {x : RV} (h : nrm out (x :: rest)) : nrm (stepN out x) rest := by
  have hx : chkV x = 0 := h.l.c x (by simp)
  unfold stepN
  cases hl : out.getLast? with
  | none =>
    have : out = [] := List.getLast?_eq_none_iff.1 hl
    subst this
    exact ⟨h.l, trivial⟩
  | some a =>
    have e := last_split hl
    have ha : chkV a = 0 := h.l.c a (by rw [e]; simp)
    have hf := h.f
    have hk := h.l
    rw [e] at hf hk
    simp only [merge_ok ha hx]
    by_cases hm : mrgV a x = true
    · rw [if_pos hm]
      simp only [if_true]
      have hi := (mrg_iff ha hx).1 hm
      have bb := chkV_bd hx
      have ba := chkV_bd ha
      have hk' : okl (out.dropLast ++ (a :: x :: rest)) := by simpa using hk
      obtain ⟨k1, k2, k3⟩ := hk'.app1
      obtain ⟨q1, q2⟩ := List.pairwise_cons.1 k2.o
      obtain ⟨q3, q4⟩ := List.pairwise_cons.1 q2
      refine ⟨?_, far_last _ a _ hf (fun b hb h1 => ?_)⟩
      · rw [List.append_assoc]
        refine k1.app (l := out.dropLast) (m := [one2 a x] ++ rest) ((okl.one (one2_ok ha hx hm)).app ⟨fun y hy => k2.c y (by simp [hy]), q4⟩ (fun y hy z hz => ?_)) (fun y hy z hz => ?_)
        · simp at hy; subst hy
          have := q3 z hz
          unfold apart RV.e one2 at *
          simp only
          omega
        · rcases List.mem_append.1 hz with hz | hz
          · simp at hz; subst hz
            exact k3 y hy a (by simp)
          · exact k3 y hy z (by simp [hz])
      · have hb' := k1.c b hb
        rw [← Bool.not_eq_true, mrg_iff hb' (one2_ok ha hx hm)]
        rw [← Bool.not_eq_true, mrg_iff hb' ha] at h1
        exact h1
    · rw [if_neg hm]
      simp only [show ((11 : Int) = 0) = False by simp, if_false]
      refine ⟨by simpa using h.l, ?_⟩
      have h2 := far_snoc _ a x hf (by simpa using hm)
      rw [e, List.append_assoc]
      simpa using h2
theorem nrm_fold : ∀ (l out : List RV), nrm out l → nrm (l.foldl stepN out) []
  | [], out, h => h
  | x :: l, out, h => nrm_fold l (stepN out x) h.step
theorem normL_ok {l : List RV} (h : okl l) : okl (normL l) ∧ far (normL l) := by
  have := nrm_fold l [] ⟨h, trivial⟩
  have h1 := this.l
  rw [List.append_nil] at h1
  exact ⟨h1, this.f⟩
theorem far_at {a x : RV} {l : List RV} : ∀ m : List RV, far (m ++ ([a] ++ x :: l)) → mrgV a x = false
  | [], h => h.1
  | [b], h => h.2.1
  | b :: c :: m, h => far_at (c :: m) h.2
/-- Nothing to merge: the list stays. -/
theorem fold_far : ∀ (l out : List RV), okl (out ++ l) → far (out ++ l) → l.foldl stepN out = out ++ l
  | [], out, _, _ => by simp
  | x :: l, out, h, hf => by
    have e : stepN out x = out ++ [x] := by
      unfold stepN
      cases hl : out.getLast? with
      | none => rw [List.getLast?_eq_none_iff.1 hl]; rfl
      | some a =>
        have e := last_split hl
        have ha : chkV a = 0 := h.c a (by rw [e]; simp)
        have hx : chkV x = 0 := h.c x (by simp)
        have hm : mrgV a x = false := by
          rw [e] at hf
          rw [List.append_assoc] at hf
          exact far_at _ hf
        simp [merge_ok ha hx, hm]
    rw [List.foldl_cons, e, fold_far l (out ++ [x]) (by simpa using h) (by simpa using hf)]
    simp
theorem normL_far {l : List RV} (h : okl l) (hf : far l) : normL l = l := by
  have := fold_far l [] h hf
  simpa [normL] using this
theorem fstE_iff : ∀ l : List RV, fstE l = 0 ↔ ∀ x ∈ l, chkV x = 0
  | [] => by simp [fstE]
  | x :: l => by
    simp only [fstE]
    by_cases h : chkV x = 0
    · rw [if_pos h, fstE_iff l]; simp [h]
    · rw [if_neg h]; simp [h]
theorem chkL_iff (l : List RV) : chkL l = 0 ↔ (∀ x ∈ l, chkV x = 0) ∧ far l ∧ l.length ≤ 12 := by
  unfold chkL
  by_cases h1 : fstE l = 0
  · rw [if_pos h1, far_any, fstE_iff] at *
    cases h2 : anyM l
    · by_cases h3 : 12 < l.length
      · simp [h3]
      · simp [h3, h1]; exact ⟨h1, by omega⟩
    · simp
  · rw [if_neg h1]
    rw [fstE_iff] at h1
    constructor
    · intro h
      exact absurd ((fstE_iff l).1 h) h1
    · rintro ⟨h, _⟩
      exact absurd h h1
theorem ASP.l {p : PT} (h : ASP p) : okl p.flat := ⟨((chkL_iff _).1 h.c).1, h.g.o.o⟩
theorem ASP.f {p : PT} (h : ASP p) : far p.flat := ((chkL_iff _).1 h.c).2.1
theorem ASP.n {p : PT} (h : ASP p) : p.flat.length ≤ 12 := ((chkL_iff _).1 h.c).2.2
/-- What the tree of a list is, and the error. -/
def resT (l : List RV) : PT × Int := if 12 < (normL l).length then (.E, 9) else (bldT (normL l), 0)
theorem resT_asp {l : List RV} (h : okl l) (h0 : (resT l).2 = 0) : ASP (resT l).1 ∧ (resT l).1.flat = normL l := by
  unfold resT at h0 ⊢
  by_cases h1 : 12 < (normL l).length
  · rw [if_pos h1] at h0; cases h0
  · rw [if_neg h1]
    obtain ⟨g1, g2⟩ := normL_ok h
    obtain ⟨k1, k2, _⟩ := bldT_good _ g1.ord
    refine ⟨⟨k1, ?_⟩, k2⟩
    rw [k2, chkL_iff]
    exact ⟨g1.c, g2, by omega⟩
def resD (r : PT × Int) : D := .tup [.st r.1.td.row, .s (.int .i64 r.2)]
theorem build_N {l : List RV} (h : okl l) : Fn Try.prog 29 [.l (rws (normL l))] (· = resD (resT l)) := by
  unfold resT
  by_cases h1 : 12 < (normL l).length
  · rw [if_pos h1]; exact build_L _ h1
  · rw [if_neg h1]; exact build_P _ (normL_ok h).1.ord (by omega)

end Go.Proofs.Ytmajkjkakciaiaa

set_option linter.unusedSimpArgs false
set_option linter.unusedVariables false
namespace Go.Proofs.Ytmajkjkakciaiaa
open Go.RowKit

/-- What check says of a range. -/
def rngV (g c : Int) : Int := bif decide (c < 1) then 1 else bif (decide (g < 0) || decide (512 < g)) || decide (512 - g < c) then 2 else 0
theorem rngV_ok {g c : Int} (h : rngV g c = 0) : 0 ≤ g ∧ 1 ≤ c ∧ g + c ≤ 512 := by
  simp only [rngV, cnd1, cnd2, Bool.or_eq_false_iff, decide_eq_false_iff_not, and_true] at h
  omega
/-- The parts of the regions of a list, one after another. -/
def cat (f : RV → List RV) (l : List RV) : List RV := l.flatMap f
def catN (f : RV → List RV) (l : List RV) (i : Nat) : Nat := (cat f (l.take i)).length
theorem catN_succ (f : RV → List RV) {l : List RV} {i : Nat} (h : i < l.length) : catN f l (i + 1) = catN f l i + (f l[i]).length := by
  simp only [catN, cat]
  rw [take_snoc (List.getElem?_eq_getElem h), List.flatMap_append, List.length_append]
  simp
theorem catN_all (f : RV → List RV) (l : List RV) : catN f l l.length = (cat f l).length := by simp [catN]
theorem cat_get (f : RV → List RV) {l : List RV} {i j : Nat} {x : RV} (h : i < l.length) (hj : (f l[i])[j]? = some x) : (dst (cat f l))[catN f l i + j]? = some (.st x.row) := by
  have e : cat f l = cat f (l.take i) ++ (f l[i] ++ cat f (l.drop (i + 1))) := by
    unfold cat
    rw [← List.flatMap_cons, ← List.flatMap_append, ← List.drop_eq_getElem_cons h, List.take_append_drop]
  rw [e]
  simp only [dst, List.getElem?_map]
  rw [List.getElem?_append_right (by simp [catN])]
  rw [show catN f l i + j - (cat f (List.take i l)).length = j by simp [catN]]
  rw [List.getElem?_append_left (List.getElem?_eq_some_iff.1 hj).1, hj]
  rfl

attribute [local irreducible] Wp WL WO fin finB rnd Exit.then Exit.inBlock G GD LT Rd Fn FnB FvB Iter
attribute [local go_sem] RV.row TD.row
theorem range_E {t : TD} {e : Int} (he : e ≠ 0) (hc : Fn Try.prog 25 [.st t.row] (· = .s (.int .i64 e))) (g c : Int) : Fn Try.prog 33 [.st t.row, .s (.int .i64 g), .s (.int .i64 c)] (· = .s (.int .i64 e)) := by
  have hb : (e != 0) = true := by simpa using he
  refine Fn.of Try.func33 Try.ntmps33 rfl (by kernel_rfl) (fun w o => ?_)
  (repeat (first | refine G.cW (hc) ?_ | refine G.cgW (hc) ?_ | refine GD.cW (hc) ?_ | refine GD.cgW (hc) ?_ | ((repeat (revert hK; revert K)); refine wk ?_; repeat intro K hK) | refine wkg ?_))
  refine G.fin1 (by first | exact rvOk.tmp | exact rvOk.cellS | exact rvOk.cell1 | fail) rfl ?_
  rfl
theorem range_P {t : TD} (hc : Fn Try.prog 25 [.st t.row] (· = .s (.int .i64 0))) (g c : Int) : Fn Try.prog 33 [.st t.row, .s (.int .i64 g), .s (.int .i64 c)] (· = .s (.int .i64 (rngV g c))) := by
  by_cases h1 : c < 1
  · have hb1 : decide (c < 1) = true := by simpa using h1
    refine Fn.of Try.func33 Try.ntmps33 rfl (by kernel_rfl) (fun w o => ?_)
    (repeat (first | refine G.cW (hc) ?_ | refine G.cgW (hc) ?_ | refine GD.cW (hc) ?_ | refine GD.cgW (hc) ?_ | ((repeat (revert hK; revert K)); refine wk ?_; repeat intro K hK) | refine wkg ?_))
    refine G.fin1 (by first | exact rvOk.tmp | exact rvOk.cellS | exact rvOk.cell1 | fail) rfl ?_
    simp only [rngV, hb1, cond_true]
  · have hb1 : decide (c < 1) = false := by simpa using h1
    by_cases h2 : g < 0 ∨ 512 < g ∨ 512 - g < c
    · have hb2 : ((decide (g < 0) || decide (512 < g)) || decide (512 - g < c)) = true := by simp; omega
      refine Fn.of Try.func33 Try.ntmps33 rfl (by kernel_rfl) (fun w o => ?_)
      (repeat (first | refine G.cW (hc) ?_ | refine G.cgW (hc) ?_ | refine GD.cW (hc) ?_ | refine GD.cgW (hc) ?_ | ((repeat (revert hK; revert K)); refine wk ?_; repeat intro K hK) | refine wkg ?_))
      refine G.fin1 (by first | exact rvOk.tmp | exact rvOk.cellS | exact rvOk.cell1 | fail) rfl ?_
      simp only [rngV, hb1, hb2, cond_true, cond_false]
    · have hb2 : ((decide (g < 0) || decide (512 < g)) || decide (512 - g < c)) = false := by simp; omega
      refine Fn.of Try.func33 Try.ntmps33 rfl (by kernel_rfl) (fun w o => ?_)
      (repeat (first | refine G.cW (hc) ?_ | refine G.cgW (hc) ?_ | refine GD.cW (hc) ?_ | refine GD.cgW (hc) ?_ | ((repeat (revert hK; revert K)); refine wk ?_; repeat intro K hK) | refine wkg ?_))
      refine G.fin1 (by first | exact rvOk.tmp | exact rvOk.cellS | exact rvOk.cell1 | fail) rfl ?_
      simp only [rngV, hb1, hb2, cond_true, cond_false]
def umI (p : PT) (g c : Int) (l : Nat) (cb : Nat → Nat → Option (TypeId × List AV)) (i : Nat) : List (Nat × AV) × Bs := ([(14, .d (.s (.int .i64 (i : Int)))), (13, .d (.s (.int .i64 (rws p.flat).length))), (12, .d (.l (rws p.flat))), (3, .d (.pe [.s (.int .i64 c)] 0)), (2, .d (.pe [.s (.int .i64 g)] 0)), (0, yv l)], Is (cb (catN (fun r => (cutV r g c).1) p.flat i)))
def unI (p : PT) (g c : Int) (x : RV) (l i : Nat) (cb : Nat → Nat → Option (TypeId × List AV)) (j : Nat) : List (Nat × AV) × Bs := ([(27, .d (.s (.int .i64 (j : Int)))), (26, .d (.s (.int .i64 (rws (cutV x g c).1).length))), (25, .d (.l (rws (cutV x g c).1))), (14, .d (.s (.int .i64 (i : Int)))), (13, .d (.s (.int .i64 (rws p.flat).length))), (12, .d (.l (rws p.flat))), (3, .d (.pe [.s (.int .i64 c)] 0)), (2, .d (.pe [.s (.int .i64 g)] 0)), (0, yv l)], Is (cb (catN (fun r => (cutV r g c).1) p.flat i + j)))
theorem cut_le (x : RV) (g c : Int) : (cutV x g c).1.length ≤ 2 := by
  simp only [cutV, cutL]
  repeat' (first | split | (rw [Bool.cond_eq_ite]; split))
  all_goals (try simp)
theorem unmap_I {p : PT} (hp : good p) (g c : Int) : Iter Try.prog (.fn 37 [.pe p.td.row 0, .pe [.s (.int .i64 g)] 0, .pe [.s (.int .i64 c)] 0]) (dst (cat (fun r => (cutV r g c).1) p.flat)) := by
  refine Iter.of fun C hCc ly cb hcl hy => ?_
  have hlen : ((rws p.flat).length : Int) = p.flat.length := by rw [rws_len]
  have h512 := good_len hp
  have hpl := plist_P hp
  refine FnB.vd (ds := [.pe p.td.row 0, .pe [.s (.int .i64 g)] 0, .pe [.s (.int .i64 c)] 0]) (xs := [yv ly]) ?_
  show FnB _ _ _ [yv ly, .d (.pe p.td.row 0), .d (.pe [.s (.int .i64 g)] 0), .d (.pe [.s (.int .i64 c)] 0)] _ _ _
  have hlen2 : (dst (cat (fun r => (cutV r g c).1) p.flat)).length = (cat (fun r => (cutV r g c).1) p.flat).length := by simp [dst]
  rw [hlen2, ← catN_all]
  have hc0 : catN (fun r => (cutV r g c).1) p.flat 0 = 0 := rfl
  rw [← hc0]
  refine FnB.of (ks := [100, 102, 104]) hCc Try.func37 Try.ntmps37 rfl (by kernel_rfl) (fun w o m E0 hCX => ?_) (hks := kns_Is _); (try dsimp only [Is])
  (repeat (first | refine G.cW (hpl) ?_ | refine G.cgW (hpl) ?_ | refine GD.cW (hpl) ?_ | refine GD.cgW (hpl) ?_ | ((repeat (revert hK; revert K)); refine wk ?_; repeat intro K hK) | refine wkg ?_))
  refine G.loop (umI p g c ly cb) (fun i => i ≤ p.flat.length) (fun i => p.flat.length - i) ?_ ?_
  · exact G.atR 0 (Nat.zero_le _) (by first | ((repeat (first | exact trivial | refine ⟨.inl rfl, ?_⟩ | refine ⟨.inr rfl, ?_⟩)); done) | fail) (Is.cl (hcl _)) rfl (by first | ((repeat (first | exact trivial | refine ⟨⟨rfl, by first | rfl | assumption | fail⟩, ?_⟩)); done) | fail)
  · intro i hi
    dsimp only [umI, Is]
    by_cases h : i < p.flat.length
    · have hr := rws_get p.flat i h
      have hcu := cut_F p.flat[i] g c
      have hl2 := cut_le p.flat[i] g c
      have hlen3 : ((rws (cutV p.flat[i] g c).1).length : Int) = (cutV p.flat[i] g c).1.length := by rw [rws_len]
      have hs := catN_succ (fun r => (cutV r g c).1) h
      (repeat (first | refine G.cW (hcu) ?_ | refine G.cgW (hcu) ?_ | refine GD.cW (hcu) ?_ | refine GD.cgW (hcu) ?_ | (show G _ _ _ _ (WL _ _ _ _ (⟨some _, .indexAddr _ _ _, _, _, _, none⟩ :: _)); refine G.w1 ?_ (by first | exact LT.rd (Rd.ixv i (hr)) rfl | fail)) | (show G _ _ _ _ (WL _ _ _ _ (⟨some _, .indexAddr _ _ _, _, _, _, some _⟩ :: _)); refine G.gC ?_ (by first | (refine gi ?_; intros; exact LT.rd (Rd.ixv i (hr)) rfl) | fail) rfl rfl) | (show GD _ _ _ _ _ _ _ _ _ _ (⟨some _, .indexAddr _ _ _, _, _, _, none⟩ :: _); refine GD.w1 ?_ (by first | exact LT.rd (Rd.ixv i (hr)) rfl | fail)) | (show GD _ _ _ _ _ _ _ _ _ _ (⟨some _, .indexAddr _ _ _, _, _, _, some _⟩ :: _); refine GD.gC ?_ (by first | (refine gi ?_; intros; exact LT.rd (Rd.ixv i (hr)) rfl) | fail) rfl rfl) | ((repeat (revert hK; revert K)); refine wk ?_; repeat intro K hK) | refine wkg ?_))
      refine G.loop (unI p g c p.flat[i] ly i cb) (fun j => j ≤ (cutV p.flat[i] g c).1.length) (fun j => (cutV p.flat[i] g c).1.length - j) ?_ ?_
      · exact G.atR 0 (Nat.zero_le _) (by first | ((repeat (first | exact trivial | refine ⟨.inl rfl, ?_⟩ | refine ⟨.inr rfl, ?_⟩)); done) | fail) (Is.cl (hcl _)) rfl (by first | ((repeat (first | exact trivial | refine ⟨⟨rfl, by first | rfl | assumption | fail⟩, ?_⟩)); done) | fail)
      · intro j hj
        dsimp only [unI, Is]
        by_cases h' : j < (cutV p.flat[i] g c).1.length
        · have hr2 := rws_get (cutV p.flat[i] g c).1 j h'
          have hyi := hy (catN (fun r => (cutV r g c).1) p.flat i + j) _ (cat_get (fun r => (cutV r g c).1) h (List.getElem?_eq_getElem h'))
          rw [Nat.add_assoc] at hyi
          (repeat (first | (show G _ _ _ _ (WL _ _ _ _ (⟨some _, .indexAddr _ _ _, _, _, _, none⟩ :: _)); refine G.w1 ?_ (by first | exact LT.rd (Rd.ixv j (hr2)) rfl | fail)) | (show G _ _ _ _ (WL _ _ _ _ (⟨some _, .indexAddr _ _ _, _, _, _, some _⟩ :: _)); refine G.gC ?_ (by first | (refine gi ?_; intros; exact LT.rd (Rd.ixv j (hr2)) rfl) | fail) rfl rfl) | (show GD _ _ _ _ _ _ _ _ _ _ (⟨some _, .indexAddr _ _ _, _, _, _, none⟩ :: _); refine GD.w1 ?_ (by first | exact LT.rd (Rd.ixv j (hr2)) rfl | fail)) | (show GD _ _ _ _ _ _ _ _ _ _ (⟨some _, .indexAddr _ _ _, _, _, _, some _⟩ :: _); refine GD.gC ?_ (by first | (refine gi ?_; intros; exact LT.rd (Rd.ixv j (hr2)) rfl) | fail) rfl rfl) | (show G _ _ _ _ (WL _ _ _ _ (⟨some _, .call _, _, _, _, none⟩ :: _)); refine G.cvCW (hyi) hCc hCX ?_) | ((repeat (revert hK; revert K)); refine wkT ?_; repeat intro K hK) | refine wkg ?_))
          refine G.atR (j + 1) ⟨by omega, by omega⟩ (by first | ((repeat (first | exact trivial | refine ⟨.inl rfl, ?_⟩ | refine ⟨.inr rfl, ?_⟩)); done) | fail) (Is.cl (hcl _)) rfl (by first | ((repeat (first | exact trivial | refine ⟨⟨rfl, by first | rfl | assumption | fail⟩, ?_⟩)); done) | fail)
        · have e : j = (cutV p.flat[i] g c).1.length := by omega
          subst e
          rw [← hs]
          (repeat (first | ((repeat (revert hK; revert K)); refine wk ?_; repeat intro K hK) | refine wkg ?_))
          refine G.atR (i + 1) ⟨by omega, by omega⟩ (by first | ((repeat (first | exact trivial | refine ⟨.inl rfl, ?_⟩ | refine ⟨.inr rfl, ?_⟩)); done) | fail) (Is.cl (hcl _)) rfl (by first | ((repeat (first | exact trivial | refine ⟨⟨rfl, by first | rfl | assumption | fail⟩, ?_⟩)); done) | fail)
    · have e : i = p.flat.length := by omega
      subst e
      (repeat (first | ((repeat (revert hK; revert K)); refine wk ?_; repeat intro K hK) | refine wkg ?_))
      (try refine G.finBn ?_); refine G.finB0 rfl (by first | ((repeat (first | exact trivial | refine ⟨.inl rfl, ?_⟩ | refine ⟨.inr rfl, ?_⟩)); done) | fail) (by first | exact Is.cl (hcl _) | exact Is.cl6 (hcl _) | ((repeat (first | exact trivial | refine ⟨ClE.some rfl, ?_⟩ | (with_reducible refine ClB.d ?_) | (with_reducible refine ⟨ClE.some (numsL_d _ _), ?_⟩) | refine ⟨ClE.none, ?_⟩)); done) | fail) (by rfl)

end Go.Proofs.Ytmajkjkakciaiaa

set_option linter.unusedSimpArgs false
set_option linter.unusedVariables false
namespace Go.Proofs.Ytmajkjkakciaiaa
open Go.RowKit

theorem flag_keep : ∀ n : Fin 16, (0 ≤ bits .andNot .i64 (n.1 : Int) 2 ∧ bits .andNot .i64 (n.1 : Int) 2 ≤ 15) ∧ (bits .and .i64 (n.1 : Int) 1 = 0 → bits .and .i64 (bits .andNot .i64 (n.1 : Int) 2) 1 = 0) ∧ (bits .and .i64 (n.1 : Int) 10 = 0 → bits .and .i64 (bits .andNot .i64 (n.1 : Int) 2) 10 = 0) := by decide
theorem nat16 {f : Int} (h0 : 0 ≤ f) (h1 : f ≤ 15) : ∃ n : Fin 16, f = (n.1 : Int) := ⟨⟨f.toNat, by omega⟩, by simp; omega⟩
theorem spLo_ok {x : RV} {g : Int} (hx : chkV x = 0) (h1 : x.s < g) (h2 : g < x.s + x.p) : chkV (spLo x g) = 0 := by
  have h := (chk_iff x).1 hx
  refine (chk_iff _).2 ?_
  simp only [spLo]
  refine ⟨by omega, by omega, by omega, by omega, h.2.2.2.2.1, h.2.2.2.2.2.1, by omega, by omega, by omega, by omega, by omega⟩
theorem spHi_ok {x : RV} {g : Int} (hx : chkV x = 0) (h1 : x.s < g) (h2 : g < x.s + x.p) : chkV (spHi x g) = 0 := by
  have h := (chk_iff x).1 hx
  obtain ⟨n, hn⟩ := nat16 h.2.2.1.1 h.2.2.1.2
  have hk := flag_keep n
  rw [← hn] at hk
  refine (chk_iff _).2 ?_
  simp only [spHi]
  refine ⟨by omega, by omega, hk.1, by omega, fun e => hk.2.1 (h.2.2.2.2.1 e), fun e => hk.2.2 (h.2.2.2.2.2.1 e), by omega, by omega, ?_, ?_, ?_⟩
  · split <;> omega
  · intro e; rw [if_pos e]; omega
  · intro e; rw [if_neg e]; omega
theorem endV_ok {x : RV} (hx : chkV x = 0) : endV x = x.s + x.p := by simp [endV, hx]
theorem split_in {x : RV} {g : Int} (hx : chkV x = 0) (h1 : x.s < g) (h2 : g < x.s + x.p) : splitV x g = (spLo x g, spHi x g, 0) := by
  have e : (decide (g ≤ x.s) || decide (endV x ≤ g)) = false := by rw [endV_ok hx]; simp; omega
  simp [splitV, hx, e]
theorem split_out {x : RV} {g : Int} (hx : chkV x = 0) (h : g ≤ x.s ∨ x.s + x.p ≤ g) : splitV x g = (RV.z, RV.z, 2) := by
  have e : (decide (g ≤ x.s) || decide (endV x ≤ g)) = true := by rw [endV_ok hx]; simpa using h
  simp [splitV, hx, e]
/-- Parts of a region: valid, in order, inside it. -/
structure part (x : RV) (l : List RV) : Prop where
  k : okl l
  i : ∀ y ∈ l, x.s ≤ y.s ∧ y.e ≤ x.e
theorem part.nil (x : RV) : part x [] := ⟨⟨fun y hy => by simp at hy, .nil⟩, fun y hy => by simp at hy⟩
theorem part.one {x y : RV} (h : chkV y = 0) (h1 : x.s ≤ y.s) (h2 : y.e ≤ x.e) : part x [y] := ⟨okl.one h, fun z hz => by simp at hz; subst hz; exact ⟨h1, h2⟩⟩
theorem part.cons {x y : RV} {l : List RV} (h : chkV y = 0) (h1 : x.s ≤ y.s) (h2 : y.e ≤ x.e) (hl : part x l) (h3 : ∀ z ∈ l, y.e ≤ z.s) : part x (y :: l) :=
  ⟨(okl.one h).app (m := l) hl.k (fun a ha b hb => by simp at ha; subst ha; exact h3 b hb), fun z hz => by
    rcases List.mem_cons.1 hz with rfl | hz
    · exact ⟨h1, h2⟩
    · exact hl.i z hz⟩
theorem okl_cat {f : RV → List RV} : ∀ {l : List RV}, okl l → (∀ x ∈ l, part x (f x)) → okl (cat f l)
  | [], _, _ => ⟨fun y hy => by simp [cat] at hy, .nil⟩
  | x :: l, h, hf => by
    have hx := hf x (by simp)
    obtain ⟨k1, k2, k3⟩ := okl.app1 (l := [x]) (m := l) h
    have ih := okl_cat k2 (fun y hy => hf y (by simp [hy]))
    refine okl.app (l := f x) (m := cat f l) hx.k ih (fun y hy z hz => ?_)
    obtain ⟨r, hr, hz⟩ := List.mem_flatMap.1 hz
    have h1 := hx.i y hy
    have h2 := (hf r (by simp [hr])).i z hz
    have h3 := k3 x (by simp) r hr
    unfold apart at *
    omega
theorem cut_part {x : RV} {g c : Int} (hx : chkV x = 0) (hr : rngV g c = 0) : part x (cutV x g c).1 := by
  have b := rngV_ok hr
  have bx := chkV_bd hx
  have e0 : (chkV x != 0) = false := by simp [hx]
  have e1 : decide (c < 1) = false := by simp; omega
  have e2 : (decide (g < 0) || decide (g > 512) || decide (c > 512 - g)) = false := by simp; omega
  by_cases h3 : endV x ≤ g ∨ g + c ≤ x.s
  · have e3 : (decide (endV x ≤ g) || decide (g + c ≤ x.s)) = true := by simpa using h3
    simp only [cutV, e0, e1, e2, e3, cond_true, cond_false]
    exact part.one hx (by omega) (by omega)
  · have e3 : (decide (endV x ≤ g) || decide (g + c ≤ x.s)) = false := by simpa using h3
    simp only [cutV, e0, e1, e2, e3, cond_true, cond_false, cutL]
    rw [endV_ok hx] at h3
    by_cases h4 : x.s < g
    · rw [split_in hx h4 (by omega)]
      have q1 := spLo_ok hx h4 (by omega)
      by_cases h5 : g + c < x.s + x.p
      · rw [split_in hx (by omega) h5]
        have q2 := spHi_ok (g := g + c) hx (by omega) h5
        simp only [beq_self_eq_true, cond_true]
        refine part.cons q1 (by simp [spLo]) (by simp [spLo, RV.e]; omega) (part.one q2 (by simp [spHi]; omega) (by simp [spHi, RV.e]; omega)) (fun z hz => ?_)
        simp at hz; subst hz
        simp [spLo, spHi, RV.e]; omega
      · rw [split_out hx (.inr (by omega))]
        exact part.one q1 (by simp [spLo]) (by simp [spLo, RV.e]; omega)
    · rw [split_out hx (.inl (by omega))]
      by_cases h5 : g + c < x.s + x.p
      · rw [split_in hx (by omega) h5]
        have q2 := spHi_ok (g := g + c) hx (by omega) h5
        exact part.one q2 (by simp [spHi]; omega) (by simp [spHi, RV.e]; omega)
      · rw [split_out hx (.inr (by omega))]
        exact part.nil x
theorem acheck_P {p : PT} (hp : ASP p) : Fn Try.prog 25 [.st p.td.row] (· = .s (.int .i64 0)) := hp.c ▸ acheck_ok hp.g
/-- What Unmap answers. -/
def cutA (g c : Int) (l : List RV) : List RV := cat (fun r => (cutV r g c).1) l
def unmapT (p : PT) (g c : Int) : PT × Int := if rngV g c = 0 then resT (cutA g c p.flat) else (.E, rngV g c)

attribute [local irreducible] Wp WL WO fin finB rnd Exit.then Exit.inBlock G GD LT Rd Fn FnB FvB Iter
attribute [local go_sem] RV.row TD.row
theorem unmap_P {p : PT} (hp : ASP p) (g c : Int) : Fn Try.prog 14 [.st p.td.row, .s (.int .i64 g), .s (.int .i64 c)] (· = resD (unmapT p g c)) := by
  have hrp := range_P (acheck_P hp) g c
  by_cases h0 : rngV g c = 0
  · have hb : (rngV g c != 0) = false := by simp [h0]
    have hk : okl (cutA g c p.flat) := okl_cat hp.l (fun x hx => cut_part (hp.l.c x hx) h0)
    have hn := normal_F _ _ (cutA g c p.flat) (by have := hk.le; omega) ⟨_, _, rfl, by kernel_rfl⟩ (show Iter _ _ (dst (cutA g c p.flat)) from unmap_I hp.g g c)
    have hbd := build_N hk
    unfold resD at hbd
    rw [show unmapT p g c = resT (cutA g c p.flat) by unfold unmapT; rw [if_pos h0]]
    refine Fn.of Try.func14 Try.ntmps14 rfl (by kernel_rfl) (fun w o => ?_)
    (repeat (first | ((repeat (revert hK; revert K)); refine wkS ?_; repeat intro K hK) | refine wkg ?_))
    refine G.frzP (ds := p.td.row) 3 ?_
    refine G.frzP (ds := [.s (.int .i64 g)]) 4 ?_
    refine G.frzP (ds := [.s (.int .i64 c)]) 5 ?_
    (refine G.k (by assumption) ?_; clear hK K)
    (repeat (first | refine G.cW (hrp) ?_ | refine G.cgW (hrp) ?_ | refine GD.cW (hrp) ?_ | refine GD.cgW (hrp) ?_ | refine G.cW (hn) ?_ | refine G.cgW (hn) ?_ | refine GD.cW (hn) ?_ | refine GD.cgW (hn) ?_ | refine G.cW (hbd) ?_ | refine G.cgW (hbd) ?_ | refine GD.cW (hbd) ?_ | refine GD.cgW (hbd) ?_ | ((repeat (revert hK; revert K)); refine wk ?_; repeat intro K hK) | refine wkg ?_))
    refine G.fin2 (by first | exact rvOk.tmp | exact rvOk.cellS | exact rvOk.cell1 | fail) (by first | exact rvOk.tmp | exact rvOk.cellS | exact rvOk.cell1 | fail) rfl ?_
    rfl
  · have hb : (rngV g c != 0) = true := by simp [h0]
    rw [show unmapT p g c = (.E, rngV g c) by unfold unmapT; rw [if_neg h0]]
    refine Fn.of Try.func14 Try.ntmps14 rfl (by kernel_rfl) (fun w o => ?_)
    (repeat (first | refine G.cW (hrp) ?_ | refine G.cgW (hrp) ?_ | refine GD.cW (hrp) ?_ | refine GD.cgW (hrp) ?_ | ((repeat (revert hK; revert K)); refine wk ?_; repeat intro K hK) | refine wkg ?_))
    refine G.leB 3 PT.E.td.row le_EL ?_
    refine G.fin2 (by first | exact rvOk.tmp | exact rvOk.cellS | exact rvOk.cell1 | fail) (by first | exact rvOk.tmp | exact rvOk.cellS | exact rvOk.cell1 | fail) rfl ?_
    rfl
theorem unmap_E {t : TD} {e : Int} (he : e ≠ 0) (hc : Fn Try.prog 25 [.st t.row] (· = .s (.int .i64 e))) (g c : Int) : Fn Try.prog 14 [.st t.row, .s (.int .i64 g), .s (.int .i64 c)] (· = resD (.E, e)) := by
  have hb : (e != 0) = true := by simpa using he
  have hrp := range_E he hc g c
  refine Fn.of Try.func14 Try.ntmps14 rfl (by kernel_rfl) (fun w o => ?_)
  (repeat (first | refine G.cW (hrp) ?_ | refine G.cgW (hrp) ?_ | refine GD.cW (hrp) ?_ | refine GD.cgW (hrp) ?_ | ((repeat (revert hK; revert K)); refine wk ?_; repeat intro K hK) | refine wkg ?_))
  refine G.leB 3 PT.E.td.row le_EL ?_
  refine G.fin2 (by first | exact rvOk.tmp | exact rvOk.cellS | exact rvOk.cell1 | fail) (by first | exact rvOk.tmp | exact rvOk.cellS | exact rvOk.cell1 | fail) rfl ?_
  rfl

end Go.Proofs.Ytmajkjkakciaiaa

set_option linter.unusedSimpArgs false
set_option linter.unusedVariables false
namespace Go.Proofs.Ytmajkjkakciaiaa
open Go.RowKit

theorem nextV_cons (x : RV) (l : List RV) (g : Int) : nextV (x :: l) g = if g < x.s + x.p then (x, true) else nextV l g := by
  unfold nextV
  by_cases h : g < x.s + x.p <;> simp [List.find?, h]
theorem find_spec (g : Int) : ∀ l : List RV, okl l → ((findV l g).2 = true → (findV l g).1 ∈ l ∧ (findV l g).1.s ≤ g ∧ g < (findV l g).1.s + (findV l g).1.p) ∧ ((findV l g).2 = false → ∀ x ∈ l, ¬ (x.s ≤ g ∧ g < x.s + x.p))
  | [], _ => ⟨fun h => by simp [findV, nextV] at h, fun _ x hx => by simp at hx⟩
  | x :: l, h => by
    obtain ⟨k1, k2, k3⟩ := okl.app1 (l := [x]) (m := l) h
    have hx := chkV_bd (h.c x (by simp))
    have ih := find_spec g l k2
    by_cases c : g < x.s + x.p
    · have e : findV (x :: l) g = if g < x.s then (RV.z, false) else (x, true) := by
        unfold findV
        rw [nextV_cons, if_pos c]
        by_cases d : g < x.s <;> simp [d]
      rw [e]
      by_cases d : g < x.s
      · rw [if_pos d]
        refine ⟨fun h => (by cases h), fun _ y hy => ?_⟩
        rcases List.mem_cons.1 hy with rfl | hy
        · omega
        · have := k3 x (by simp) y hy
          unfold apart RV.e at this
          omega
      · rw [if_neg d]
        exact ⟨fun _ => ⟨by simp, by simp; omega, c⟩, fun h => by cases h⟩
    · have e : findV (x :: l) g = findV l g := by
        unfold findV
        rw [nextV_cons, if_neg c]
      rw [e]
      refine ⟨fun h => ⟨List.mem_cons_of_mem _ (ih.1 h).1, (ih.1 h).2⟩, fun h y hy => ?_⟩
      rcases List.mem_cons.1 hy with rfl | hy
      · omega
      · exact ih.2 h y hy
theorem find_iff {l : List RV} (h : okl l) (g : Int) : (findV l g).2 = true ↔ ∃ x ∈ l, x.s ≤ g ∧ g < x.s + x.p := by
  have hs := find_spec g l h
  constructor
  · intro h1; exact ⟨_, hs.1 h1⟩
  · rintro ⟨x, h1, h2⟩
    cases hq : (findV l g).2 with
    | true => rfl
    | false => exact absurd h2 (hs.2 hq x h1)
/-- All pages of a range are in regions. -/
def covV (l : List RV) (g c : Int) : Bool := (List.range c.toNat).all (fun i => (findV l (g + i)).2)
theorem covV_iff (l : List RV) (g c : Int) : covV l g c = true ↔ ∀ q, g ≤ q → q < g + c → (findV l q).2 = true := by
  simp only [covV, List.all_eq_true, List.mem_range]
  constructor
  · intro h q h1 h2
    have := h (q - g).toNat (by omega)
    rwa [show g + ((q - g).toNat : Int) = q by omega] at this
  · intro h i hi
    exact h _ (by omega) (by omega)

attribute [local irreducible] Wp WL WO fin finB rnd Exit.then Exit.inBlock G GD LT Rd Fn FnB FvB Iter
attribute [local go_sem] RV.row TD.row
def coI (p : PT) (z : Int × Int) : List (Nat × AV) × Bs := ([(3, .p 0 0), (1, .d (.s (.int .i64 z.1))), (2, .d (.s (.int .i64 z.2)))], [(0, some (26, p.td.row.map .d))])
theorem covered_P {p : PT} (hp : ASP p) (g c : Int) (hr : rngV g c = 0) : Fn Try.prog 63 [.st p.td.row, .s (.int .i64 g), .s (.int .i64 c)] (· = .s (.bool (covV p.flat g c))) := by
  have b := rngV_ok hr
  refine Fn.of Try.func63 Try.ntmps63 rfl (by kernel_rfl) (fun w o => ?_)
  (repeat (first | ((repeat (revert hK; revert K)); refine wk ?_; repeat intro K hK) | refine wkg ?_))
  refine G.loop (coI p) (fun z => z.1 + z.2 = g + c ∧ g ≤ z.1 ∧ z.1 ≤ 512 ∧ ∀ q, g ≤ q → q < z.1 → (findV p.flat q).2 = true) (fun z => z.2.toNat) ?_ ?_
  · exact G.at (g, c) [(0, 0)] ⟨rfl, by omega, by omega, fun q h1 h2 => by omega⟩ (by repeat (first | exact trivial | refine ⟨⟨rfl, rfl⟩, ?_⟩)) (by repeat (first | exact trivial | refine ⟨⟨rfl, rfl, rfl⟩, ?_⟩ | refine ⟨⟨rfl, by rw [renL_d]; rfl, kbL_d _ _⟩, ?_⟩ | refine ⟨rfl, ?_⟩)) (by decide)
  · rintro ⟨u, v⟩ ⟨h1, h2, h3, h4⟩
    dsimp only [coI]
    dsimp only at h1 h2 h3 h4
    have hf := pfind_P hp.g u
    by_cases h : 0 < v
    · cases hq : (findV p.flat u).2 with
      | false =>
        rw [hq] at hf
        (repeat (first | refine G.cW (hf) ?_ | refine G.cgW (hf) ?_ | refine GD.cW (hf) ?_ | refine GD.cgW (hf) ?_ | ((repeat (revert hK; revert K)); refine wk ?_; repeat intro K hK) | refine wkg ?_))
        refine G.fin1 (by first | exact rvOk.tmp | exact rvOk.cellS | exact rvOk.cell1 | fail) rfl ?_
        have : covV p.flat g c = false := by
          rw [← Bool.not_eq_true, covV_iff]
          intro hh
          rw [hh u h2 (by omega)] at hq
          cases hq
        rw [this]
      | true =>
        rw [hq] at hf
        have hs := (find_spec u p.flat hp.l).1 hq
        have hc := hp.l.c _ hs.1
        have hbd := chkV_bd hc
        have he := endV_ok hc
        generalize (findV p.flat u).1 = x at hf hs hc hbd he
        have hef := end_F x
        rw [he] at hef
        (repeat (first | refine G.cW (hf) ?_ | refine G.cgW (hf) ?_ | refine GD.cW (hf) ?_ | refine GD.cgW (hf) ?_ | refine G.cW (hef) ?_ | refine G.cgW (hef) ?_ | refine GD.cW (hef) ?_ | refine GD.cgW (hef) ?_ | ((repeat (revert hK; revert K)); refine wk ?_; repeat intro K hK) | refine wkg ?_))
        refine G.at (u + (x.s + x.p - u), v - (x.s + x.p - u)) [(0, 0)] ⟨⟨by simp only; omega, by simp only; omega, by simp only; omega, fun q g1 g2 => ?_⟩, by simp only; omega⟩ (by repeat (first | exact trivial | refine ⟨⟨rfl, rfl⟩, ?_⟩)) (by repeat (first | exact trivial | refine ⟨⟨rfl, rfl, rfl⟩, ?_⟩ | refine ⟨⟨rfl, by rw [renL_d]; rfl, kbL_d _ _⟩, ?_⟩ | refine ⟨rfl, ?_⟩)) (by decide)
        by_cases h5 : q < u
        · exact h4 q g1 h5
        · simp only at g2
          exact (find_iff hp.l q).2 ⟨x, hs.1, by omega, by omega⟩
    · (repeat (first | ((repeat (revert hK; revert K)); refine wk ?_; repeat intro K hK) | refine wkg ?_))
      refine G.fin1 (by first | exact rvOk.tmp | exact rvOk.cellS | exact rvOk.cell1 | fail) rfl ?_
      have : covV p.flat g c = true := (covV_iff _ _ _).2 (fun q g1 g2 => h4 q g1 (by omega))
      rw [this]

end Go.Proofs.Ytmajkjkakciaiaa
