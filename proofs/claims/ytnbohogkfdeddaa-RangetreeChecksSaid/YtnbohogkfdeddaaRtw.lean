/- Rangetree: what Check says of a tree with its own numbers. -/
import Derived.Test.YtnbohogkfdeddaaRtv
set_option linter.unusedSimpArgs false
set_option linter.unusedVariables false
namespace Go.Proofs.Ytnbohogkfdeddaa
open Go.RowKit

theorem nodes_flat : ∀ p : PT, p.bt.nodes.map BT.rg = p.flat
  | .E => rfl
  | .N l x r => by
    simp only [PT.bt, BT.nodes, List.map_append, List.map_cons, nodes_flat l, nodes_flat r]
    rfl
theorem ht_len : ∀ p : PT, p.ht ≤ p.flat.length
  | .E => by simp [PT.ht, PT.flat]
  | .N l x r => by
    have h1 := ht_len l
    have h2 := ht_len r
    simp only [PT.ht, PT.flat, List.length_append, List.length_cons]
    omega
theorem ord_len : ∀ (l : List RV) (m : Int), ord l → (∀ x ∈ l, m ≤ x.s) → 0 ≤ m → m ≤ 512 → (l.length : Int) ≤ 512 - m
  | [], m, _, _, h0, h1 => by simp; omega
  | x :: l, m, h, hm, h0, h1 => by
    obtain ⟨hx, hl, ha⟩ := ord_cons h
    have e := hm x (by simp)
    obtain ⟨v1, v2, v3, v4⟩ := hx
    have := ord_len l x.e hl (fun y hy => ha y hy) (by unfold RV.e; omega) (by unfold RV.e; omega)
    unfold RV.e at this
    simp only [List.length_cons]
    omega
theorem good_len {p : PT} (h : good p) : p.flat.length ≤ 512 := by
  have := ord_len p.flat 0 h.o (fun x hx => (h.o.v x hx).1) (by omega) (by omega)
  omega
theorem good_ht {p : PT} (h : good p) : p.ht ≤ 512 := by
  have := ht_len p
  have := good_len h
  omega
theorem good_bd {p : PT} (h : good p) : bd p := ⟨h.o.v, by have := good_ht h; omega⟩
theorem good_node {l : PT} {x : RV} {r : PT} (h : good (.N l x r)) : good l ∧ vld x ∧ good r := by
  obtain ⟨h1, h2⟩ := h
  obtain ⟨a, b, c, _, _⟩ := ord_node h2
  exact ⟨⟨h1.1, a⟩, b, ⟨h1.2.1, c⟩⟩
theorem foldl_nodes {σ : Type} (f : σ → RV → σ) (l : List BT) (s : σ) : l.foldl (fun s b => f s b.rg) s = (l.map BT.rg).foldl f s := by
  rw [List.foldl_map]
theorem av_fold : ∀ (l : List RV) (ok : Bool), (∀ x ∈ l, vld x) → l.foldl (fun ok x => ok && vldB x) ok = ok
  | [], ok, _ => rfl
  | x :: l, ok, h => by
    rw [List.foldl_cons, (vldB_iff x).2 (h x (by simp)), Bool.and_true]
    exact av_fold l ok (fun y hy => h y (by simp [hy]))
theorem od_fold : ∀ (l : List RV) (m : Int), ord l → (∀ x ∈ l, m ≤ x.s) → (l.foldl (fun (s : Bool × Int) x => (s.1 && decide (s.2 ≤ x.s), x.e)) (true, m)).1 = true
  | [], m, _, _ => rfl
  | x :: l, m, h, hm => by
    obtain ⟨hx, hl, ha⟩ := ord_cons h
    have e := hm x (by simp)
    rw [List.foldl_cons]
    simp only [Bool.true_and, decide_eq_true e]
    exact od_fold l x.e hl (fun y hy => ha y hy)
theorem bt_tv (p : PT) (k : Value) : (p.bt.tv k).h = p.ht ∧ (p.bt.tv k).f = p.fst ∧ (p.bt.tv k).l = p.lst ∧ (p.bt.tv k).g = p.gp := by
  cases p <;> exact ⟨rfl, rfl, rfl, rfl⟩
theorem badN_P {l : PT} {x : RV} {r : PT} (h : good (.N l x r)) : badN (PT.N l x r).bt = false := by
  obtain ⟨gl, gx, gr⟩ := good_node h
  obtain ⟨a1, a2, a3, a4⟩ := bt_tv l (.int .i64 0)
  obtain ⟨b1, b2, b3, b4⟩ := bt_tv r (.int .i64 0)
  have bl := good_bd gl
  have br := good_bd gr
  have nl := PT.ht_nn l
  have nr := PT.ht_nn r
  have hl' := bl.h
  have hr' := br.h
  obtain ⟨l1, l2, l3, l4, l5, l6⟩ := num_bd bl.v
  obtain ⟨r1, r2, r3, r4, r5, r6⟩ := num_bd br.v
  obtain ⟨x1, x2, x3, x4⟩ := gx
  have hb := h.b
  have hn : nodeV (l.bt.tv (.int .i64 0)) x (r.bt.tv (.int .i64 0)) (.int .i64 0) = ⟨(PT.N l x r).ht, (PT.N l x r).fst, (PT.N l x r).lst, (PT.N l x r).gp, x, .int .i64 0⟩ := by
    unfold nodeV gapV
    rw [a1, a2, a3, a4, b1, b2, b3, b4]
    simp only [mx_max, PT.ht, PT.fst, PT.lst, PT.gp, gapN]
    rw [W64_in (a := 1 + max l.ht r.ht) (by omega), W64_in (a := x.s - l.lst) (by omega), W64_in (a := r.fst - x.e) (by unfold RV.e; omega)]
  have hd : W64 (l.bt.h - r.bt.h) = l.ht - r.ht := by
    rw [← tv_h l.bt (.int .i64 0), ← tv_h r.bt (.int .i64 0), a1, b1, W64_in (by omega)]
  obtain ⟨_, _, c1, c2⟩ := hb
  show badV _ (nodeV _ x _ _) (W64 _) = false
  rw [hn, hd]
  simp [badV]
  omega
theorem num_fold : ∀ (l : List BT) (ok : Bool), (∀ b ∈ l, badN b = false) → l.foldl (fun ok b => bif badN b then false else ok) ok = ok
  | [], ok, _ => rfl
  | b :: l, ok, h => by
    rw [List.foldl_cons, h b (by simp)]
    exact num_fold l ok (fun c hc => h c (by simp [hc]))
theorem bad_nodes : ∀ (p : PT), good p → ∀ b ∈ p.bt.nodes, badN b = false
  | .E, _, b, hb => by cases hb
  | .N l x r, h, b, hb => by
    obtain ⟨gl, gx, gr⟩ := good_node h
    rcases List.mem_append.1 (show b ∈ l.bt.nodes ++ (PT.N l x r).bt :: r.bt.nodes from hb) with h1 | h1
    · exact bad_nodes l gl b h1
    · rcases List.mem_cons.1 h1 with rfl | h1
      · exact badN_P h
      · exact bad_nodes r gr b h1
theorem chk_good {p : PT} (h : good p) : chkA p.bt = 0 := by
  have h1 : avA p.bt = true := by
    unfold avA
    rw [foldl_nodes (fun ok x => ok && vldB x), nodes_flat]
    exact av_fold _ _ h.o.v
  have h2 : (odA p.bt).1 = true := by
    unfold odA
    rw [foldl_nodes (fun (s : Bool × Int) x => (s.1 && decide (s.2 ≤ x.s), x.e)), nodes_flat]
    exact od_fold _ _ h.o (fun x hx => (h.o.v x hx).1)
  have h3 : numA p.bt = true := num_fold _ _ (bad_nodes p h)
  unfold chkA
  rw [h1, h2, h3]
  rfl
theorem check_P {A : Nat → Prop} (p : PT) (v : TV) (w : World) (hp : good p) (ht : isT A w p.bt v) :
    Calls Try.prog 22 #[.agg v.cs.toArray] w fun e w' => e = .returned (.int .i64 0) ∧ Ext w w' := by
  have := check_any p.bt v w ht
  rwa [chk_good hp] at this

end Go.Proofs.Ytnbohogkfdeddaa
