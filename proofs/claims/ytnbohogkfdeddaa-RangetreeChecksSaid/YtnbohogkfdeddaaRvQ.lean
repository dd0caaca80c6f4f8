/- Rangetree: any tree, as it lies in memory; an argument that is a tree. -/
/- Rangetree: nodes, Few of any tree. -/
/- Rangetree: none, empty of any tree. -/
/- Rangetree: formed of any tree. -/
/- Rangetree: trees that Check refuses. -/
/- Rangetree: the law RangetreeChecks. -/
import Derived.Test.YtnbohogkfdeddaaRum
import Derived.Test.YtnbohogkfdeddaaRvP
import Derived.Test.YtnbohogkfdeddaaRtx
import Derived.Test.YtnbohogkfdeddaaRvd
import Derived.Test.YtnbohogkfdeddaaRux
set_option linter.unusedSimpArgs false
set_option linter.unusedVariables false
namespace Go.Proofs.Ytnbohogkfdeddaa
open Go.ChangeShapes Go.WideShapes Go.ChangeAt Go.RowKit

/-- A list of trees, each with its kids. -/
inductive GK where
  | nil
  | cons (h f l g : Int) (x : RV) (k : GK) (r : GK)
def GK.len : GK → Nat
  | .nil => 0
  | .cons _ _ _ _ _ _ r => r.len + 1
/-- All trees in it. -/
def GK.count : GK → Nat
  | .nil => 0
  | .cons _ _ _ _ _ k r => 1 + k.count + r.count
/-- The trees k lie in w at the block b from o on; what they hold lies in blocks below n. -/
def isK (n : Nat) (w : World) : GK → Nat → Nat → Prop
  | .nil, _, _ => True
  | .cons h f l g x k r, b, o => (∃ v, w.rangeAt b o (TV.cs ⟨h, f, l, g, x, v⟩) ∧ ((k.len = 0 ∧ ∃ a c, v = .slice a 0 c) ∨ ∃ r' o' c, v = .slice (some ⟨r', o', none⟩) k.len c ∧ 0 < k.len ∧ k.len ≤ c ∧ c ≤ maxLen ∧ r' < n ∧ isK n w k r' o')) ∧ isK n w r b (o + 11)
/-- v is a slice of the trees k. -/
def isKv (n : Nat) (w : World) (k : GK) (v : Value) : Prop := (k.len = 0 ∧ ∃ a c, v = .slice a 0 c) ∨ ∃ r' o' c, v = .slice (some ⟨r', o', none⟩) k.len c ∧ 0 < k.len ∧ k.len ≤ c ∧ c ≤ maxLen ∧ r' < n ∧ isK n w k r' o'
theorem isK_cons {n : Nat} {w : World} {h f l g : Int} {x : RV} {k r : GK} {b o : Nat} : isK n w (.cons h f l g x k r) b o ↔ (∃ v, w.rangeAt b o (TV.cs ⟨h, f, l, g, x, v⟩) ∧ isKv n w k v) ∧ isK n w r b (o + 11) := Iff.rfl
theorem isK.ext {n : Nat} {w w' : World} (hn : n ≤ w.heap.size) (hE : Ext w w') : ∀ {k : GK} {b o : Nat}, b < n → isK n w k b o → isK n w' k b o
  | .nil, _, _, _, _ => trivial
  | .cons h f l g x k r, b, o, hb, ⟨⟨v, h1, h2⟩, h3⟩ => by
    refine ⟨⟨v, rangeAt.ext h1 (Nat.lt_of_lt_of_le hb hn) hE, ?_⟩, isK.ext hn hE hb h3⟩
    rcases h2 with h2 | ⟨r', o', c, h4, h5, h6, hm, h7, h8⟩
    · exact .inl h2
    · exact .inr ⟨r', o', c, h4, h5, h6, hm, h7, isK.ext hn hE h7 h8⟩
theorem isKv.ext {n : Nat} {w w' : World} {k : GK} {v : Value} (h : isKv n w k v) (hn : n ≤ w.heap.size) (hE : Ext w w') : isKv n w' k v := by
  rcases h with h2 | ⟨r', o', c, h4, h5, h6, hm, h7, h8⟩
  · exact .inl h2
  · exact .inr ⟨r', o', c, h4, h5, h6, hm, h7, h8.ext hn hE h7⟩
theorem isKv.one {n : Nat} {w : World} {k : GK} {v : Value} (h : isKv n w k v) : v.oneCell' = true := by
  rcases h with ⟨_, a, c, rfl⟩ | ⟨r', o', c, rfl, _⟩ <;> rfl
theorem isKv.shape {n : Nat} {w : World} {k : GK} {v : Value} (h : isKv n w k v) : ∃ a c, v = .slice a k.len c := by
  rcases h with ⟨h0, a, c, rfl⟩ | ⟨r', o', c, rfl, _⟩
  · exact ⟨a, c, by rw [h0]⟩
  · exact ⟨_, _, rfl⟩
/-- P holds of the kids of each tree of the list. -/
def AllK (P : GK → Prop) : GK → Prop
  | .nil => True
  | .cons _ _ _ _ _ k r => P k ∧ AllK P r
theorem GK.all {P : GK → Prop} (hs : ∀ k, AllK P k → P k) : ∀ k, AllK P k
  | .nil => trivial
  | .cons _ _ _ _ _ k r => ⟨hs k (GK.all hs k), GK.all hs r⟩
theorem GK.ind {P : GK → Prop} (hs : ∀ k, AllK P k → P k) (k : GK) : P k := hs k (GK.all hs k)

theorem isK_make {n : Nat} {w : World} {b : Nat} : ∀ (m o : Nat), (∀ i, i < m → ∃ (v : TV) (k : GK), w.rangeAt b (o + i * 11) v.cs ∧ isKv n w k v.k) → ∃ K : GK, K.len = m ∧ isK n w K b o
  | 0, o, _ => ⟨.nil, rfl, trivial⟩
  | m + 1, o, h => by
    obtain ⟨v, k, h1, h2⟩ := h 0 (by omega)
    obtain ⟨K, h3, h4⟩ := isK_make m (o + 11) (fun i hi => by
      obtain ⟨v, k, h5, h6⟩ := h (i + 1) (by omega)
      exact ⟨v, k, by rw [show o + 11 + i * 11 = o + (i + 1) * 11 by omega]; exact h5, h6⟩)
    refine ⟨.cons v.h v.f v.l v.g v.x k K, by simp [GK.len, h3], ⟨v.k, ?_, h2⟩, h4⟩
    simpa using h1
section
variable {H : Type} {enc : TypeId × Value → H} {w : World} {base : Nat} {spare : Nat → Bool} {held : Bool} {v : Value} {d : DataW H} {p : List MemPlace} {r : Reach} {b0 : Nat}
theorem int_cell {fuel : Nat} {cs : List Value} {x : DataW H × List MemPlace} (h : DataW.trod enc Try.prog w base spare held fuel 3 cs = some x) : ∃ n : Int, cs = [.int .i64 n] := by
  obtain ⟨n, h1, _⟩ := DataW.trod_int Try.underlying3 h
  exact ⟨n, h1⟩
theorem gt_cells : ∀ (fuel : Nat) (cs : List Value) (x : DataW H × List MemPlace), DataW.trod enc Try.prog w base spare held fuel 28 cs = some x → ∃ (v : TV) (k : GK), cs = v.cs ∧ isKv w.heap.size w k v.k := by
  intro fuel
  induction fuel using Nat.strongRecOn with
  | ind fuel ih =>
  intro cs x h
  obtain ⟨xs, n, hn, hx, hlen, hl, hg⟩ := DataW.trod_struct Try.underlying28 h
  have h11 : Try.prog.cellsOf 28 = 11 := by kernel_rfl
  rw [h11] at hlen
  have hs : xs.length = 6 := hl
  have ci : Try.prog.cellsOf 3 = 1 := by kernel_rfl
  have cr : Try.prog.cellsOf 25 = 6 := by kernel_rfl
  have ck : Try.prog.cellsOf 26 = 1 := by kernel_rfl
  have g0 : DataW.trod enc Try.prog w base spare held n 3 ((cs.drop 0).take (Try.prog.cellsOf 3)) = xs[0]? := hg 0 _ rfl
  have g1 : DataW.trod enc Try.prog w base spare held n 3 ((cs.drop 1).take (Try.prog.cellsOf 3)) = xs[1]? := hg 1 _ rfl
  have g2 : DataW.trod enc Try.prog w base spare held n 3 ((cs.drop 2).take (Try.prog.cellsOf 3)) = xs[2]? := hg 2 _ rfl
  have g3 : DataW.trod enc Try.prog w base spare held n 3 ((cs.drop 3).take (Try.prog.cellsOf 3)) = xs[3]? := hg 3 _ rfl
  have g4 : DataW.trod enc Try.prog w base spare held n 25 ((cs.drop 4).take (Try.prog.cellsOf 25)) = xs[4]? := hg 4 _ rfl
  have g5 : DataW.trod enc Try.prog w base spare held n 26 ((cs.drop 10).take (Try.prog.cellsOf 26)) = xs[5]? := hg 5 _ rfl
  rw [ci] at g0 g1 g2 g3
  rw [cr] at g4
  rw [ck] at g5
  rw [List.getElem?_eq_getElem (by omega)] at g0 g1 g2 g3 g4 g5
  obtain ⟨a0, h0⟩ := int_cell g0
  obtain ⟨a1, h1⟩ := int_cell g1
  obtain ⟨a2, h2⟩ := int_cell g2
  obtain ⟨a3, h3⟩ := int_cell g3
  obtain ⟨hf, _⟩ := trod_flat R6 Try.underlying25 (by kernel_rfl) (by kernel_rfl) (by kernel_rfl) g4
  obtain ⟨y, hy⟩ := flat6 hf
  have e : cs = (cs.drop 0).take 1 ++ ((cs.drop 1).take 1 ++ ((cs.drop 2).take 1 ++ ((cs.drop 3).take 1 ++ ((cs.drop 4).take 6 ++ (cs.drop 10).take 1)))) := by
    rw [List.take_of_length_le (l := cs.drop 10) (by simp; omega)]
    have e1 : ∀ (a m : Nat), (cs.drop a).take m ++ cs.drop (a + m) = cs.drop a := fun a m => by
      have := List.take_append_drop m (cs.drop a)
      rwa [List.drop_drop] at this
    rw [e1 4 6, e1 3 1, e1 2 1, e1 1 1, e1 0 1, List.drop_zero]
  have slot : ∃ (kv : Value) (k : GK), (cs.drop 10).take 1 = [kv] ∧ isKv w.heap.size w k kv := by
    rcases DataW.trod_slice Try.underlying26 g5 with ⟨hc, _⟩ | ⟨a, len, cap, elems, rest, n', hn', hc, _, hb, hle, hml, hlen2, hel, _, _⟩
    · exact ⟨_, .nil, hc, .inl ⟨rfl, none, 0, rfl⟩⟩
    · by_cases hz : len = 0
      · exact ⟨_, .nil, hc, .inl ⟨rfl, some a, cap, by rw [hz]⟩⟩
      · have cell : ∀ i, i < len → ∃ (v : TV) (k : GK), (∀ j, j < 11 → w.cell? (a.add (i * 11 + j)) = v.cs[j]?) ∧ isKv w.heap.size w k v.k := by
          intro i hi
          have h6 := hel i hi
          rw [List.getElem?_eq_getElem (by omega), h11] at h6
          obtain ⟨cs', h7, h8⟩ := Option.bind_eq_some_iff.1 h6
          obtain ⟨v, k, h9, h10⟩ := ih n' (by omega) cs' _ h8
          refine ⟨v, k, fun j hj => ?_, h10⟩
          obtain ⟨_, _, h12⟩ := World.cells?_some h7
          have h13 := h12 j hj
          rw [Go.Deep.add_add] at h13
          rw [h13, h9]
        obtain ⟨v0, k0, hv0, _⟩ := cell 0 (by omega)
        have hx0 : w.cell? a = some (.int .i64 v0.h) := by have h14 := hv0 0 (by omega); simp only [TV.get0] at h14; simpa [Addr.add] using h14
        obtain ⟨ha, hbl⟩ := spot_none hx0
        obtain ⟨K, hK1, hK2⟩ := isK_make (n := w.heap.size) (w := w) (b := a.block) len a.off (fun i hi => by
          obtain ⟨v, k, h1, h2⟩ := cell i hi
          refine ⟨v, k, fun j u hu => ?_, h2⟩
          have hj : j < 11 := (List.getElem?_eq_some_iff.1 hu).1
          have := h1 j hj
          rw [ha] at this
          simp only [addr_add] at this
          rw [hu] at this
          rw [← this]
          congr 2
          omega)
        exact ⟨_, K, hc, .inr ⟨a.block, a.off, cap, by rw [hK1, ← ha], by omega, by omega, hml, hbl, hK2⟩⟩
  obtain ⟨kv, k, hk, hkv⟩ := slot
  refine ⟨⟨a0, a1, a2, a3, y, kv⟩, k, ?_, hkv⟩
  rw [e, h0, h1, h2, h3, hy, hk]
  rfl
/-- An argument that is a tree. -/
theorem gt_arg (hv : Value.okWide Try.prog w r b0 28 v) (h : DataW.Trod enc Try.prog w base spare held 28 v d p) : ∃ (x : TV) (k : GK), v = .agg x.cs.toArray ∧ isKv w.heap.size w k x.k := by
  obtain ⟨fuel, hf⟩ := h
  obtain ⟨x, k, h1, h2⟩ := gt_cells fuel _ _ hf
  obtain ⟨xs, rfl, hsz⟩ := okWide_struct Try.underlying28 hv
  refine ⟨x, k, ?_, h2⟩
  have h3 : xs.toList = x.cs := h1
  rw [← h3, Array.toArray_toList]
end

end Go.Proofs.Ytnbohogkfdeddaa

set_option linter.unusedSimpArgs false
set_option linter.unusedVariables false
namespace Go.Proofs.Ytnbohogkfdeddaa
open Go.RowKit

/-- What nodes counts of a list of trees, n counted before. -/
def nodL : GK → Int → Int → Int
  | .nil, n, _ => n
  | .cons _ _ _ _ _ k r, n, L => if n ≤ L then nodL r (n + nodL k 1 (L - n)) L else n
theorem nodL_bd : ∀ (r : GK) (n L : Int), 0 ≤ L → 1 ≤ n → n ≤ L + 1 → n ≤ nodL r n L ∧ nodL r n L ≤ L + 1
  | .nil, n, L, _, _, h => ⟨Int.le_refl _, h⟩
  | .cons _ _ _ _ _ k r, n, L, h0, h1, h2 => by
    unfold nodL
    by_cases c : n ≤ L
    · rw [if_pos c]
      obtain ⟨a1, a2⟩ := nodL_bd k 1 (L - n) (by omega) (by omega) (by omega)
      obtain ⟨b1, b2⟩ := nodL_bd r (n + nodL k 1 (L - n)) L h0 (by omega) (by omega)
      omega
    · rw [if_neg c]
      omega
theorem nodL_count : ∀ (r : GK) (n L : Int), 0 ≤ L → 1 ≤ n → n ≤ L + 1 → nodL r n L ≤ L → nodL r n L = n + r.count
  | .nil, n, L, _, _, _, _ => by simp [nodL, GK.count]
  | .cons _ _ _ _ _ k r, n, L, h0, h1, h2, h3 => by
    unfold nodL at h3 ⊢
    by_cases c : n ≤ L
    · rw [if_pos c] at h3 ⊢
      obtain ⟨a1, a2⟩ := nodL_bd k 1 (L - n) (by omega) (by omega) (by omega)
      obtain ⟨b1, b2⟩ := nodL_bd r (n + nodL k 1 (L - n)) L h0 (by omega) (by omega)
      have e1 := nodL_count k 1 (L - n) (by omega) (by omega) (by omega) (by omega)
      have e2 := nodL_count r (n + nodL k 1 (L - n)) L h0 (by omega) (by omega) h3
      simp only [GK.count]
      omega
    · rw [if_neg c] at h3
      omega
theorem hid_mk {p : Prop} (h : p) : Hid p := h
def NodOK (k : GK) : Prop := ∀ (n0 : Nat) (v : TV) (w : World) (L : Int), n0 ≤ w.heap.size → isKv n0 w k v.k → 0 ≤ L → L ≤ 200 →
  Calls Try.prog 46 #[.agg v.cs.toArray, .int .i64 L] w fun e w' => e = .returned (.int .i64 (nodL k 1 L)) ∧ Ext w w'
set_option maxRecDepth 100000 in
set_option maxHeartbeats 4000000 in
theorem nod_step (k : GK) (ih : AllK NodOK k) : NodOK k := by
  intro n0 v w L hn hk h0 h1
  obtain ⟨ka, kc, hkv⟩ := hk.shape
  obtain ⟨vh, vf, vl, vg, vx, vk⟩ := v
  dsimp only at *
  subst hkv
  have HK : Hid (isKv n0 w k (.slice ka k.len kc)) := hk
  have IH : Hid (AllK NodOK k) := ih
  clear hk ih
  go_enter Try.func46, Try.ntmps46
  go_upto_region 1 with fail
  refine name_wX (fun W1 hW => ?_)
  have hE : Ext w W1 := by rw [hW]; repeat' (first | exact Ext.refl _ | apply Ext.al)
  have b0 : Blk W1 (w.heap.size) 28 (TV.cs ⟨vh, vf, vl, vg, vx, .slice ka k.len kc⟩) := by rw [hW]; exact Blk.newAt rfl
  clear hW
  obtain ⟨r0, hr0⟩ : ∃ r, r = w.heap.size := ⟨_, rfl⟩
  rw [← hr0] at b0
  try rw [← hr0]
  have q0 : w.heap.size ≤ r0 := by omega
  clear hr0
  have qz : r0 < W1.heap.size := b0.lt
  go_upto_region 3 with fail
  go_loopw [5, 6] (fun vn vi wr => ∃ (n : Int) (j : Nat) (r : GK), vn = .int .i64 n ∧ vi = .int .i64 j ∧ j + r.len = k.len ∧ nodL k 1 L = nodL r n L ∧ 1 ≤ n ∧ n ≤ L + 1 ∧ AllK NodOK r ∧ (0 < r.len → ∃ b o, ka = some ⟨b, o, none⟩ ∧ b < n0 ∧ k.len ≤ kc ∧ kc ≤ maxLen ∧ isK n0 wr r b (o + j * 11)) ∧ Blk wr r0 28 (TV.cs ⟨vh, vf, vl, vg, vx, .slice ka k.len kc⟩) ∧ Ext w wr) (fun _ vi _ => k.len - (intOf vi).toNat)
  case atStart =>
    refine ⟨1, 0, k, rfl, rfl, by omega, rfl, by omega, by omega, IH.out, fun hp => ?_, b0, hE⟩
    rcases HK.out with ⟨h2, _⟩ | ⟨b, o, c, h2, h3, h4, hm, h5, h6⟩
    · omega
    · cases h2
      exact ⟨b, o, rfl, h5, h4, hm, by simpa using h6.ext hn hE h5⟩
  case round =>
    clear b0 hE qz
    obtain ⟨n, j, r, rfl, rfl, hj, hs, hn1, hn2, hr, hm, b0, hE⟩ := hrel
    obtain ⟨W0, rfl⟩ : ∃ W0, W0 = wr := ⟨_, rfl⟩
    have qz : r0 < W0.heap.size := b0.lt
    replace hs : Hid _ := hs
    replace hr : Hid _ := hr
    by_cases hlt : j < k.len
    · have hb1 : decide ((j : Int) < (k.len : Int)) = true := by simpa using hlt
      have hb2 : decide (j < k.len) = true := by simpa using hlt
      obtain ⟨b, o, rfl, hbn, hkc, hkm, hkk⟩ := hm (by omega)
      have hmx : (k.len : Int) ≤ 9223372036854775807 := by unfold maxLen at hkm; omega
      replace hkm : Hid _ := hkm
      cases r with
      | nil => simp only [GK.len] at hj; omega
      | cons h f l g x kk rr =>
      obtain ⟨⟨kv, hra, hkv⟩, hrest⟩ := isK_cons.1 hkk
      have hn0 : n0 ≤ W0.heap.size := Nat.le_trans hn hE.below.size
      have hbw : b < W0.heap.size := by omega
      clear hm hkk
      have hr1 := hr.out.1
      have hr2 := hr.out.2
      replace hr1 : Hid _ := hr1
      replace hr2 : Hid _ := hr2
      replace hkv : Hid _ := hkv
      replace hrest : Hid _ := hrest
      have hkI : (k.len : Int) ≤ (kc : Int) := by omega
      by_cases hle : n ≤ L
      · have hb3 : decide (n ≤ L) = true := decide_eq_true hle
        go_upto_region 3 with fail
        refine wp_region_lit ?_
        iterate 2 (refine wpList_plain rfl (fun K hK => ?_); go_simp; (try dsimp only); refine hK _ _ ?_; clear hK K; (try simp only [Act.put, Zs, Zz, Zc]))
        refine wpList_plain rfl (fun K hK => ?_); have zc := b0.cell 10; go_simp; clear zc; (try simp only [hb1, hb2, hb3]); (try dsimp only); refine hK _ _ ?_; clear hK K; (try simp only [Act.put, Zs, Zz, Zc])
        refine wpList_plain rfl (fun K hK => ?_); go_simp; (try dsimp only); refine hK _ _ ?_; clear hK K; (try simp only [Act.put, Zs, Zz, Zc])
        refine wpList_plain rfl (fun K hK => ?_); go_simp; (try simp (disch := omega) only [Yq, Yr]); (try simp only [hb1, hb2, hb3]); (try dsimp only); refine hK _ _ ?_; clear hK K; (try simp only [Act.put, Zs, Zz, Zc])
        refine wpList_plain rfl (fun K hK => ?_); go_simp; (try dsimp only); refine hK _ _ ?_; clear hK K; (try simp only [Act.put, Zs, Zz, Zc])
        iterate 2 (refine wpList_step (fun K hK => ?_); rw [if_pos (by rfl)]; go_simp; (try dsimp only); refine hK _ _ ?_; clear hK K; (try simp only [Act.put, Zs, Zz, Zc]))
        refine wpList_step (fun K hK => ?_); rw [if_pos (by rfl)]; go_simp; (try simp (disch := omega) only [Yq, Yr]); (try simp only [hb1, hb2, hb3]); (try dsimp only); refine hK _ _ ?_; clear hK K; (try simp only [Act.put, Zs, Zz, Zc])
        refine wpList_plain rfl (fun K hK => ?_); go_simp; (try dsimp only); refine hK _ _ ?_; clear hK K; (try simp only [Act.put, Zs, Zz, Zc])
        refine wpList_nil ?_
        obtain ⟨c1, c2⟩ := nodL_bd kk 1 (L - n) (by omega) (by omega) (by omega)
        go_upto_region 5 with fail
        refine wp_region_lit ?_
        iterate 2 (refine wpList_plain rfl (fun K hK => ?_); go_simp; (try dsimp only); refine hK _ _ ?_; clear hK K; (try simp only [Act.put, Zs, Zz, Zc]))
        refine wpList_plain rfl (fun K hK => ?_); have zc := b0.cell 10; go_simp; clear zc; (try dsimp only); refine hK _ _ ?_; clear hK K; (try simp only [Act.put, Zs, Zz, Zc])
        iterate 2 (refine wpList_plain rfl (fun K hK => ?_); go_simp; (try dsimp only); refine hK _ _ ?_; clear hK K; (try simp only [Act.put, Zs, Zz, Zc]))
        refine wpList_plain rfl (fun K hK => ?_); (first | (refine wp_ld 28 _ (hra) (by rfl) (by rfl) Try.underlying28 rfl (by exact Try.infoT) ?_)); (try dsimp only); refine hK _ _ ?_; clear hK K; (try simp only [Act.put, Zs, Zz, Zc])
        iterate 2 (refine wpList_plain rfl (fun K hK => ?_); go_simp; (try dsimp only); refine hK _ _ ?_; clear hK K; (try simp only [Act.put, Zs, Zz, Zc]))
        refine wpList_plain rfl (fun K hK => ?_); go_simp; (try simp (disch := omega) only [Yq, Yr]); (try dsimp only); refine hK _ _ ?_; clear hK K; (try simp only [Act.put, Zs, Zz, Zc])
        refine wpList_plain rfl (fun K hK => ?_); go_simp; (go_at_call 46; refine (hr1.out n0 ⟨h, f, l, g, x, kv⟩ _ (L - n) hn0 hkv.out (by omega) (by omega)).mono ?_; intro e W101 hpp; obtain ⟨rfl, hx⟩ := hpp); (try dsimp only); refine hK _ _ ?_; clear hK K; (try simp only [Act.put, Zs, Zz, Zc])
        replace b0 := b0.ext hx
        replace hra := rangeAt.ext hra hbw hx
        replace hbw := Nat.lt_of_lt_of_le hbw hx.below.size
        replace hkv := hid_mk (isKv.ext hkv.out hn0 hx)
        replace hrest := hid_mk (isK.ext hn0 hx hbn hrest.out)
        replace hn0 := Nat.le_trans hn0 hx.below.size
        replace hE := hE.trans hx
        clear hx
        replace qz : r0 < W101.heap.size := b0.lt
        refine wpList_plain rfl (fun K hK => ?_); go_simp; (try simp (disch := omega) only [Yq, Yr]); (try dsimp only); refine hK _ _ ?_; clear hK K; (try simp only [Act.put, Zs, Zz, Zc])
        refine wpList_plain rfl (fun K hK => ?_); go_simp; (try dsimp only); refine hK _ _ ?_; clear hK K; (try simp only [Act.put, Zs, Zz, Zc])
        refine wpList_nil ?_
        go_upto_region 4 with fail
        refine wp_region_lit ?_
        refine wpList_plain rfl (fun K hK => ?_); go_simp; (try dsimp only); refine hK _ _ ?_; clear hK K; (try simp only [Act.put, Zs, Zz, Zc])
        refine wpList_plain rfl (fun K hK => ?_); go_simp; (try simp (disch := omega) only [Yq, Yr]); (try dsimp only); refine hK _ _ ?_; clear hK K; (try simp only [Act.put, Zs, Zz, Zc])
        refine wpList_plain rfl (fun K hK => ?_); go_simp; (try dsimp only); refine hK _ _ ?_; clear hK K; (try simp only [Act.put, Zs, Zz, Zc])
        refine wpList_nil ?_
        go_wp2_with fail
        go_roundw
        case rel =>
          refine ⟨n + nodL kk 1 (L - n), j + 1, rr, rfl, by go_num, by simp only [GK.len] at hj; omega, by rw [hs.out, nodL, if_pos hle], by omega, by omega, hr2.out, fun _ => ⟨b, o, rfl, hbn, hkc, hkm.out, ?_⟩, b0, hE⟩
          have h9 := hrest.out
          rwa [show o + j * 11 + 11 = o + (j + 1) * 11 by omega] at h9
        case measure => simp [intOf]; omega
      · have hb3 : decide (n ≤ L) = false := decide_eq_false hle
        go_upto_region 3 with fail
        refine wp_region_lit ?_
        iterate 2 (refine wpList_plain rfl (fun K hK => ?_); go_simp; (try dsimp only); refine hK _ _ ?_; clear hK K; (try simp only [Act.put, Zs, Zz, Zc]))
        refine wpList_plain rfl (fun K hK => ?_); have zc := b0.cell 10; go_simp; clear zc; (try simp only [hb1, hb2, hb3]); (try dsimp only); refine hK _ _ ?_; clear hK K; (try simp only [Act.put, Zs, Zz, Zc])
        refine wpList_plain rfl (fun K hK => ?_); go_simp; (try dsimp only); refine hK _ _ ?_; clear hK K; (try simp only [Act.put, Zs, Zz, Zc])
        refine wpList_plain rfl (fun K hK => ?_); go_simp; (try simp (disch := omega) only [Yq, Yr]); (try simp only [hb1, hb2, hb3]); (try dsimp only); refine hK _ _ ?_; clear hK K; (try simp only [Act.put, Zs, Zz, Zc])
        refine wpList_plain rfl (fun K hK => ?_); go_simp; (try dsimp only); refine hK _ _ ?_; clear hK K; (try simp only [Act.put, Zs, Zz, Zc])
        iterate 2 (refine wpList_step (fun K hK => ?_); rw [if_pos (by rfl)]; go_simp; (try dsimp only); refine hK _ _ ?_; clear hK K; (try simp only [Act.put, Zs, Zz, Zc]))
        refine wpList_step (fun K hK => ?_); rw [if_pos (by rfl)]; go_simp; (try simp (disch := omega) only [Yq, Yr]); (try simp only [hb1, hb2, hb3]); (try dsimp only); refine hK _ _ ?_; clear hK K; (try simp only [Act.put, Zs, Zz, Zc])
        refine wpList_plain rfl (fun K hK => ?_); go_simp; (try dsimp only); refine hK _ _ ?_; clear hK K; (try simp only [Act.put, Zs, Zz, Zc])
        refine wpList_nil ?_
        go_upto_region 6 with fail
        refine wp_region_lit ?_
        iterate 2 (refine wpList_plain rfl (fun K hK => ?_); go_simp; (try dsimp only); refine hK _ _ ?_; clear hK K; (try simp only [Act.put, Zs, Zz, Zc]))
        refine wpList_nil ?_
        go_wp2_with fail
        go_ret
        exact ⟨ret_i (by rw [hs.out, nodL, if_neg (by omega)]), hE⟩
    · have hb1 : decide ((j : Int) < (k.len : Int)) = false := by simpa using hlt
      have hb2 : decide (j < k.len) = false := by simpa using hlt
      go_upto_region 3 with fail
      refine wp_region_lit ?_
      iterate 2 (refine wpList_plain rfl (fun K hK => ?_); go_simp; (try dsimp only); refine hK _ _ ?_; clear hK K; (try simp only [Act.put, Zs, Zz, Zc]))
      refine wpList_plain rfl (fun K hK => ?_); have zc := b0.cell 10; go_simp; clear zc; (try simp only [hb1, hb2]); (try dsimp only); refine hK _ _ ?_; clear hK K; (try simp only [Act.put, Zs, Zz, Zc])
      refine wpList_plain rfl (fun K hK => ?_); go_simp; (try dsimp only); refine hK _ _ ?_; clear hK K; (try simp only [Act.put, Zs, Zz, Zc])
      refine wpList_plain rfl (fun K hK => ?_); go_simp; (try simp (disch := omega) only [Yq, Yr]); (try simp only [hb1, hb2]); (try dsimp only); refine hK _ _ ?_; clear hK K; (try simp only [Act.put, Zs, Zz, Zc])
      refine wpList_plain rfl (fun K hK => ?_); go_simp; (try dsimp only); refine hK _ _ ?_; clear hK K; (try simp only [Act.put, Zs, Zz, Zc])
      iterate 3 (refine wpList_step (fun K hK => ?_); rw [if_neg (by exact Bool.false_ne_true)]; (try dsimp only); refine hK _ _ ?_; clear hK K; (try simp only [Act.put, Zs, Zz, Zc]))
      refine wpList_plain rfl (fun K hK => ?_); go_simp; (try dsimp only); refine hK _ _ ?_; clear hK K; (try simp only [Act.put, Zs, Zz, Zc])
      refine wpList_nil ?_
      go_upto_region 6 with fail
      refine wp_region_lit ?_
      iterate 2 (refine wpList_plain rfl (fun K hK => ?_); go_simp; (try dsimp only); refine hK _ _ ?_; clear hK K; (try simp only [Act.put, Zs, Zz, Zc]))
      refine wpList_nil ?_
      go_wp2_with fail
      go_ret
      cases r with
      | nil => exact ⟨ret_i (by rw [hs.out]; rfl), hE⟩
      | cons h f l g x kk rr => simp only [GK.len] at hj; omega
theorem nodes_any (k : GK) : NodOK k := GK.ind nod_step k
set_option maxRecDepth 100000 in
set_option maxHeartbeats 4000000 in
theorem few_any {n0 : Nat} (k : GK) (v : TV) (w : World) (hn : n0 ≤ w.heap.size) (hk : isKv n0 w k v.k) :
    Calls Try.prog 23 #[.agg v.cs.toArray] w fun e w' => e = .returned (.bool (decide (nodL k 1 200 ≤ 200))) ∧ Ext w w' := by
  have HK : Hid (isKv n0 w k v.k) := hk
  clear hk
  go_enter Try.func23, Try.ntmps23
  go_upto_region 1 with fail
  refine name_wX (fun W1 hW => ?_)
  have hE : Ext w W1 := by rw [hW]; repeat' (first | exact Ext.refl _ | apply Ext.al)
  have b0 : Blk W1 (w.heap.size) 28 v.cs := by rw [hW]; exact Blk.newAt rfl
  clear hW
  obtain ⟨r0, hr0⟩ : ∃ r, r = w.heap.size := ⟨_, rfl⟩
  rw [← hr0] at b0
  try rw [← hr0]
  have q0 : w.heap.size ≤ r0 := by omega
  clear hr0
  have qz : r0 < W1.heap.size := b0.lt
  go_upto_region 1 with fail
  refine wp_region_lit ?_
  refine wpList_plain rfl (fun K hK => ?_); (first | (refine wp_ld 28 _ (b0.range) (by rfl) (by rfl) Try.underlying28 rfl (by exact Try.infoT) ?_)); (try dsimp only); refine hK _ _ ?_; clear hK K; (try simp only [Act.put, Zs, Zz, Zc])
  refine wpList_plain rfl (fun K hK => ?_); go_simp; (go_at_call 46; refine (nodes_any k n0 v _ 200 (Nat.le_trans hn hE.below.size) (isKv.ext HK.out hn hE) (by omega) (by omega)).mono ?_; intro e W2 hpp; obtain ⟨rfl, hx⟩ := hpp); (try dsimp only); refine hK _ _ ?_; clear hK K; (try simp only [Act.put, Zs, Zz, Zc])
  replace b0 := b0.ext hx
  replace hE := hE.trans hx
  clear hx
  replace qz : r0 < W2.heap.size := b0.lt
  refine wpList_plain rfl (fun K hK => ?_); go_simp; (try simp (disch := omega) only [Yq, Yr]); (try dsimp only); refine hK _ _ ?_; clear hK K; (try simp only [Act.put, Zs, Zz, Zc])
  refine wpList_plain rfl (fun K hK => ?_); go_simp; (try dsimp only); refine hK _ _ ?_; clear hK K; (try simp only [Act.put, Zs, Zz, Zc])
  refine wpList_nil ?_
  go_wp2_with fail
  go_ret
  exact ⟨rfl, hE⟩


end Go.Proofs.Ytnbohogkfdeddaa

set_option linter.unusedSimpArgs false
set_option linter.unusedVariables false
namespace Go.Proofs.Ytnbohogkfdeddaa
open Go.RowKit

/-- An empty tree, but for its height. -/
def fm0 (f l g : Int) (x : RV) (n : Nat) : Bool := (f == 0) && (l == 0) && (g == 0) && eqR x RV.z && (n == 0)
def fm1 (h f l g : Int) (x : RV) (n : Nat) (b : Bool) : Bool := if h = 0 then fm0 f l g x n else (n == 2) && b
/-- All trees of the list are formed. -/
def fmL : GK → Bool
  | .nil => true
  | .cons h f l g x k r => fm1 h f l g x k.len (fmL k) && fmL r
set_option maxRecDepth 100000 in
set_option maxHeartbeats 4000000 in
theorem pnone_0 (f l g : Int) (x : RV) (ka : Option Addr) (n kc : Nat) (w : World) (h0 : (f == 0) = false) :
    Calls Try.prog 57 #[.agg (TV.cs ⟨0, f, l, g, x, .slice ka n kc⟩).toArray] w fun e w' => e = .returned (.bool false) ∧ Ext w w' := by
  go_enter Try.func57, Try.ntmps57
  go_upto_region 1 with fail
  refine name_wX (fun W1 hW => ?_)
  have hE : Ext w W1 := by rw [hW]; repeat' (first | exact Ext.refl _ | apply Ext.al)
  have b0 : Blk W1 (w.heap.size) 28 (TV.cs ⟨0, f, l, g, x, .slice ka n kc⟩) := by rw [hW]; exact Blk.newAt rfl
  clear hW
  obtain ⟨r0, hr0⟩ : ∃ r, r = w.heap.size := ⟨_, rfl⟩
  rw [← hr0] at b0
  try rw [← hr0]
  have q0 : w.heap.size ≤ r0 := by omega
  clear hr0
  have qz : r0 < W1.heap.size := b0.lt
  go_upto_region 1 with fail
  refine wp_region_lit ?_
  refine wpList_plain rfl (fun K hK => ?_); go_simp; (try dsimp only); refine hK _ _ ?_; clear hK K; (try simp only [Act.put, Zs, Zz, Zc])
  refine wpList_plain rfl (fun K hK => ?_); have zc := b0.cell 0; go_simp; clear zc; (try simp only [beq_self_eq_true, h0]); (try dsimp only); refine hK _ _ ?_; clear hK K; (try simp only [Act.put, Zs, Zz, Zc])
  refine wpList_plain rfl (fun K hK => ?_); go_simp; (try simp (disch := omega) only [Yq, Yr]); (try simp only [beq_self_eq_true, h0]); (try dsimp only); refine hK _ _ ?_; clear hK K; (try simp only [Act.put, Zs, Zz, Zc])
  refine wpList_plain rfl (fun K hK => ?_); go_simp; (try dsimp only); refine hK _ _ ?_; clear hK K; (try simp only [Act.put, Zs, Zz, Zc])
  refine wpList_step (fun K hK => ?_); rw [if_pos (by rfl)]; go_simp; (try dsimp only); refine hK _ _ ?_; clear hK K; (try simp only [Act.put, Zs, Zz, Zc])
  refine wpList_step (fun K hK => ?_); rw [if_pos (by rfl)]; have zc := b0.cell 1; go_simp; clear zc; (try simp only [beq_self_eq_true, h0]); (try dsimp only); refine hK _ _ ?_; clear hK K; (try simp only [Act.put, Zs, Zz, Zc])
  refine wpList_step (fun K hK => ?_); rw [if_pos (by rfl)]; go_simp; (try simp (disch := omega) only [Yq, Yr]); (try simp only [beq_self_eq_true, h0]); (try dsimp only); refine hK _ _ ?_; clear hK K; (try simp only [Act.put, Zs, Zz, Zc])
  iterate 2 (refine wpList_plain rfl (fun K hK => ?_); go_simp; (try dsimp only); refine hK _ _ ?_; clear hK K; (try simp only [Act.put, Zs, Zz, Zc]))
  iterate 3 (refine wpList_step (fun K hK => ?_); rw [if_neg (by exact Bool.false_ne_true)]; (try dsimp only); refine hK _ _ ?_; clear hK K; (try simp only [Act.put, Zs, Zz, Zc]))
  iterate 2 (refine wpList_plain rfl (fun K hK => ?_); go_simp; (try dsimp only); refine hK _ _ ?_; clear hK K; (try simp only [Act.put, Zs, Zz, Zc]))
  iterate 3 (refine wpList_step (fun K hK => ?_); rw [if_neg (by exact Bool.false_ne_true)]; (try dsimp only); refine hK _ _ ?_; clear hK K; (try simp only [Act.put, Zs, Zz, Zc]))
  iterate 2 (refine wpList_plain rfl (fun K hK => ?_); go_simp; (try dsimp only); refine hK _ _ ?_; clear hK K; (try simp only [Act.put, Zs, Zz, Zc]))
  iterate 4 (refine wpList_step (fun K hK => ?_); rw [if_neg (by exact Bool.false_ne_true)]; (try dsimp only); refine hK _ _ ?_; clear hK K; (try simp only [Act.put, Zs, Zz, Zc]))
  iterate 2 (refine wpList_plain rfl (fun K hK => ?_); go_simp; (try dsimp only); refine hK _ _ ?_; clear hK K; (try simp only [Act.put, Zs, Zz, Zc]))
  iterate 4 (refine wpList_step (fun K hK => ?_); rw [if_neg (by exact Bool.false_ne_true)]; (try dsimp only); refine hK _ _ ?_; clear hK K; (try simp only [Act.put, Zs, Zz, Zc]))
  iterate 2 (refine wpList_plain rfl (fun K hK => ?_); go_simp; (try dsimp only); refine hK _ _ ?_; clear hK K; (try simp only [Act.put, Zs, Zz, Zc]))
  refine wpList_nil ?_
  go_wp2_with fail
  go_ret
  exact ⟨rfl, hE⟩

set_option maxRecDepth 100000 in
set_option maxHeartbeats 4000000 in
theorem pnone_1 (f l g : Int) (x : RV) (ka : Option Addr) (n kc : Nat) (w : World) (h0 : (f == 0) = true) (h1 : (l == 0) = false) :
    Calls Try.prog 57 #[.agg (TV.cs ⟨0, f, l, g, x, .slice ka n kc⟩).toArray] w fun e w' => e = .returned (.bool false) ∧ Ext w w' := by
  go_enter Try.func57, Try.ntmps57
  go_upto_region 1 with fail
  refine name_wX (fun W1 hW => ?_)
  have hE : Ext w W1 := by rw [hW]; repeat' (first | exact Ext.refl _ | apply Ext.al)
  have b0 : Blk W1 (w.heap.size) 28 (TV.cs ⟨0, f, l, g, x, .slice ka n kc⟩) := by rw [hW]; exact Blk.newAt rfl
  clear hW
  obtain ⟨r0, hr0⟩ : ∃ r, r = w.heap.size := ⟨_, rfl⟩
  rw [← hr0] at b0
  try rw [← hr0]
  have q0 : w.heap.size ≤ r0 := by omega
  clear hr0
  have qz : r0 < W1.heap.size := b0.lt
  go_upto_region 1 with fail
  refine wp_region_lit ?_
  refine wpList_plain rfl (fun K hK => ?_); go_simp; (try dsimp only); refine hK _ _ ?_; clear hK K; (try simp only [Act.put, Zs, Zz, Zc])
  refine wpList_plain rfl (fun K hK => ?_); have zc := b0.cell 0; go_simp; clear zc; (try simp only [beq_self_eq_true, h0, h1]); (try dsimp only); refine hK _ _ ?_; clear hK K; (try simp only [Act.put, Zs, Zz, Zc])
  refine wpList_plain rfl (fun K hK => ?_); go_simp; (try simp (disch := omega) only [Yq, Yr]); (try simp only [beq_self_eq_true, h0, h1]); (try dsimp only); refine hK _ _ ?_; clear hK K; (try simp only [Act.put, Zs, Zz, Zc])
  refine wpList_plain rfl (fun K hK => ?_); go_simp; (try dsimp only); refine hK _ _ ?_; clear hK K; (try simp only [Act.put, Zs, Zz, Zc])
  refine wpList_step (fun K hK => ?_); rw [if_pos (by rfl)]; go_simp; (try dsimp only); refine hK _ _ ?_; clear hK K; (try simp only [Act.put, Zs, Zz, Zc])
  refine wpList_step (fun K hK => ?_); rw [if_pos (by rfl)]; have zc := b0.cell 1; go_simp; clear zc; (try simp only [beq_self_eq_true, h0, h1]); (try dsimp only); refine hK _ _ ?_; clear hK K; (try simp only [Act.put, Zs, Zz, Zc])
  refine wpList_step (fun K hK => ?_); rw [if_pos (by rfl)]; go_simp; (try simp (disch := omega) only [Yq, Yr]); (try simp only [beq_self_eq_true, h0, h1]); (try dsimp only); refine hK _ _ ?_; clear hK K; (try simp only [Act.put, Zs, Zz, Zc])
  iterate 2 (refine wpList_plain rfl (fun K hK => ?_); go_simp; (try dsimp only); refine hK _ _ ?_; clear hK K; (try simp only [Act.put, Zs, Zz, Zc]))
  refine wpList_step (fun K hK => ?_); rw [if_pos (by rfl)]; go_simp; (try dsimp only); refine hK _ _ ?_; clear hK K; (try simp only [Act.put, Zs, Zz, Zc])
  refine wpList_step (fun K hK => ?_); rw [if_pos (by rfl)]; have zc := b0.cell 2; go_simp; clear zc; (try simp only [beq_self_eq_true, h0, h1]); (try dsimp only); refine hK _ _ ?_; clear hK K; (try simp only [Act.put, Zs, Zz, Zc])
  refine wpList_step (fun K hK => ?_); rw [if_pos (by rfl)]; go_simp; (try simp (disch := omega) only [Yq, Yr]); (try simp only [beq_self_eq_true, h0, h1]); (try dsimp only); refine hK _ _ ?_; clear hK K; (try simp only [Act.put, Zs, Zz, Zc])
  iterate 2 (refine wpList_plain rfl (fun K hK => ?_); go_simp; (try dsimp only); refine hK _ _ ?_; clear hK K; (try simp only [Act.put, Zs, Zz, Zc]))
  iterate 3 (refine wpList_step (fun K hK => ?_); rw [if_neg (by exact Bool.false_ne_true)]; (try dsimp only); refine hK _ _ ?_; clear hK K; (try simp only [Act.put, Zs, Zz, Zc]))
  iterate 2 (refine wpList_plain rfl (fun K hK => ?_); go_simp; (try dsimp only); refine hK _ _ ?_; clear hK K; (try simp only [Act.put, Zs, Zz, Zc]))
  iterate 4 (refine wpList_step (fun K hK => ?_); rw [if_neg (by exact Bool.false_ne_true)]; (try dsimp only); refine hK _ _ ?_; clear hK K; (try simp only [Act.put, Zs, Zz, Zc]))
  iterate 2 (refine wpList_plain rfl (fun K hK => ?_); go_simp; (try dsimp only); refine hK _ _ ?_; clear hK K; (try simp only [Act.put, Zs, Zz, Zc]))
  iterate 4 (refine wpList_step (fun K hK => ?_); rw [if_neg (by exact Bool.false_ne_true)]; (try dsimp only); refine hK _ _ ?_; clear hK K; (try simp only [Act.put, Zs, Zz, Zc]))
  iterate 2 (refine wpList_plain rfl (fun K hK => ?_); go_simp; (try dsimp only); refine hK _ _ ?_; clear hK K; (try simp only [Act.put, Zs, Zz, Zc]))
  refine wpList_nil ?_
  go_wp2_with fail
  go_ret
  exact ⟨rfl, hE⟩

set_option maxRecDepth 100000 in
set_option maxHeartbeats 4000000 in
theorem pnone_2 (f l g : Int) (x : RV) (ka : Option Addr) (n kc : Nat) (w : World) (h0 : (f == 0) = true) (h1 : (l == 0) = true) (h2 : (g == 0) = false) :
    Calls Try.prog 57 #[.agg (TV.cs ⟨0, f, l, g, x, .slice ka n kc⟩).toArray] w fun e w' => e = .returned (.bool false) ∧ Ext w w' := by
  go_enter Try.func57, Try.ntmps57
  go_upto_region 1 with fail
  refine name_wX (fun W1 hW => ?_)
  have hE : Ext w W1 := by rw [hW]; repeat' (first | exact Ext.refl _ | apply Ext.al)
  have b0 : Blk W1 (w.heap.size) 28 (TV.cs ⟨0, f, l, g, x, .slice ka n kc⟩) := by rw [hW]; exact Blk.newAt rfl
  clear hW
  obtain ⟨r0, hr0⟩ : ∃ r, r = w.heap.size := ⟨_, rfl⟩
  rw [← hr0] at b0
  try rw [← hr0]
  have q0 : w.heap.size ≤ r0 := by omega
  clear hr0
  have qz : r0 < W1.heap.size := b0.lt
  go_upto_region 1 with fail
  refine wp_region_lit ?_
  refine wpList_plain rfl (fun K hK => ?_); go_simp; (try dsimp only); refine hK _ _ ?_; clear hK K; (try simp only [Act.put, Zs, Zz, Zc])
  refine wpList_plain rfl (fun K hK => ?_); have zc := b0.cell 0; go_simp; clear zc; (try simp only [beq_self_eq_true, h0, h1, h2]); (try dsimp only); refine hK _ _ ?_; clear hK K; (try simp only [Act.put, Zs, Zz, Zc])
  refine wpList_plain rfl (fun K hK => ?_); go_simp; (try simp (disch := omega) only [Yq, Yr]); (try simp only [beq_self_eq_true, h0, h1, h2]); (try dsimp only); refine hK _ _ ?_; clear hK K; (try simp only [Act.put, Zs, Zz, Zc])
  refine wpList_plain rfl (fun K hK => ?_); go_simp; (try dsimp only); refine hK _ _ ?_; clear hK K; (try simp only [Act.put, Zs, Zz, Zc])
  refine wpList_step (fun K hK => ?_); rw [if_pos (by rfl)]; go_simp; (try dsimp only); refine hK _ _ ?_; clear hK K; (try simp only [Act.put, Zs, Zz, Zc])
  refine wpList_step (fun K hK => ?_); rw [if_pos (by rfl)]; have zc := b0.cell 1; go_simp; clear zc; (try simp only [beq_self_eq_true, h0, h1, h2]); (try dsimp only); refine hK _ _ ?_; clear hK K; (try simp only [Act.put, Zs, Zz, Zc])
  refine wpList_step (fun K hK => ?_); rw [if_pos (by rfl)]; go_simp; (try simp (disch := omega) only [Yq, Yr]); (try simp only [beq_self_eq_true, h0, h1, h2]); (try dsimp only); refine hK _ _ ?_; clear hK K; (try simp only [Act.put, Zs, Zz, Zc])
  iterate 2 (refine wpList_plain rfl (fun K hK => ?_); go_simp; (try dsimp only); refine hK _ _ ?_; clear hK K; (try simp only [Act.put, Zs, Zz, Zc]))
  refine wpList_step (fun K hK => ?_); rw [if_pos (by rfl)]; go_simp; (try dsimp only); refine hK _ _ ?_; clear hK K; (try simp only [Act.put, Zs, Zz, Zc])
  refine wpList_step (fun K hK => ?_); rw [if_pos (by rfl)]; have zc := b0.cell 2; go_simp; clear zc; (try simp only [beq_self_eq_true, h0, h1, h2]); (try dsimp only); refine hK _ _ ?_; clear hK K; (try simp only [Act.put, Zs, Zz, Zc])
  refine wpList_step (fun K hK => ?_); rw [if_pos (by rfl)]; go_simp; (try simp (disch := omega) only [Yq, Yr]); (try simp only [beq_self_eq_true, h0, h1, h2]); (try dsimp only); refine hK _ _ ?_; clear hK K; (try simp only [Act.put, Zs, Zz, Zc])
  iterate 2 (refine wpList_plain rfl (fun K hK => ?_); go_simp; (try dsimp only); refine hK _ _ ?_; clear hK K; (try simp only [Act.put, Zs, Zz, Zc]))
  refine wpList_step (fun K hK => ?_); rw [if_pos (by rfl)]; go_simp; (try dsimp only); refine hK _ _ ?_; clear hK K; (try simp only [Act.put, Zs, Zz, Zc])
  refine wpList_step (fun K hK => ?_); rw [if_pos (by rfl)]; have zc := b0.cell 3; go_simp; clear zc; (try simp only [beq_self_eq_true, h0, h1, h2]); (try dsimp only); refine hK _ _ ?_; clear hK K; (try simp only [Act.put, Zs, Zz, Zc])
  refine wpList_step (fun K hK => ?_); rw [if_pos (by rfl)]; go_simp; (try simp (disch := omega) only [Yq, Yr]); (try simp only [beq_self_eq_true, h0, h1, h2]); (try dsimp only); refine hK _ _ ?_; clear hK K; (try simp only [Act.put, Zs, Zz, Zc])
  iterate 2 (refine wpList_plain rfl (fun K hK => ?_); go_simp; (try dsimp only); refine hK _ _ ?_; clear hK K; (try simp only [Act.put, Zs, Zz, Zc]))
  iterate 4 (refine wpList_step (fun K hK => ?_); rw [if_neg (by exact Bool.false_ne_true)]; (try dsimp only); refine hK _ _ ?_; clear hK K; (try simp only [Act.put, Zs, Zz, Zc]))
  iterate 2 (refine wpList_plain rfl (fun K hK => ?_); go_simp; (try dsimp only); refine hK _ _ ?_; clear hK K; (try simp only [Act.put, Zs, Zz, Zc]))
  iterate 4 (refine wpList_step (fun K hK => ?_); rw [if_neg (by exact Bool.false_ne_true)]; (try dsimp only); refine hK _ _ ?_; clear hK K; (try simp only [Act.put, Zs, Zz, Zc]))
  iterate 2 (refine wpList_plain rfl (fun K hK => ?_); go_simp; (try dsimp only); refine hK _ _ ?_; clear hK K; (try simp only [Act.put, Zs, Zz, Zc]))
  refine wpList_nil ?_
  go_wp2_with fail
  go_ret
  exact ⟨rfl, hE⟩

set_option maxRecDepth 100000 in
set_option maxHeartbeats 4000000 in
theorem pnone_3 (f l g : Int) (x : RV) (ka : Option Addr) (n kc : Nat) (w : World) (h0 : (f == 0) = true) (h1 : (l == 0) = true) (h2 : (g == 0) = true) (h3 : (eqR x RV.z) = false) :
    Calls Try.prog 57 #[.agg (TV.cs ⟨0, f, l, g, x, .slice ka n kc⟩).toArray] w fun e w' => e = .returned (.bool false) ∧ Ext w w' := by
  go_enter Try.func57, Try.ntmps57
  go_upto_region 1 with fail
  refine name_wX (fun W1 hW => ?_)
  have hE : Ext w W1 := by rw [hW]; repeat' (first | exact Ext.refl _ | apply Ext.al)
  have b0 : Blk W1 (w.heap.size) 28 (TV.cs ⟨0, f, l, g, x, .slice ka n kc⟩) := by rw [hW]; exact Blk.newAt rfl
  clear hW
  obtain ⟨r0, hr0⟩ : ∃ r, r = w.heap.size := ⟨_, rfl⟩
  rw [← hr0] at b0
  try rw [← hr0]
  have q0 : w.heap.size ≤ r0 := by omega
  clear hr0
  have qz : r0 < W1.heap.size := b0.lt
  go_upto_region 1 with fail
  refine wp_region_lit ?_
  refine wpList_plain rfl (fun K hK => ?_); go_simp; (try dsimp only); refine hK _ _ ?_; clear hK K; (try simp only [Act.put, Zs, Zz, Zc])
  refine wpList_plain rfl (fun K hK => ?_); have zc := b0.cell 0; go_simp; clear zc; (try simp only [beq_self_eq_true, h0, h1, h2, h3]); (try dsimp only); refine hK _ _ ?_; clear hK K; (try simp only [Act.put, Zs, Zz, Zc])
  refine wpList_plain rfl (fun K hK => ?_); go_simp; (try simp (disch := omega) only [Yq, Yr]); (try simp only [beq_self_eq_true, h0, h1, h2, h3]); (try dsimp only); refine hK _ _ ?_; clear hK K; (try simp only [Act.put, Zs, Zz, Zc])
  refine wpList_plain rfl (fun K hK => ?_); go_simp; (try dsimp only); refine hK _ _ ?_; clear hK K; (try simp only [Act.put, Zs, Zz, Zc])
  refine wpList_step (fun K hK => ?_); rw [if_pos (by rfl)]; go_simp; (try dsimp only); refine hK _ _ ?_; clear hK K; (try simp only [Act.put, Zs, Zz, Zc])
  refine wpList_step (fun K hK => ?_); rw [if_pos (by rfl)]; have zc := b0.cell 1; go_simp; clear zc; (try simp only [beq_self_eq_true, h0, h1, h2, h3]); (try dsimp only); refine hK _ _ ?_; clear hK K; (try simp only [Act.put, Zs, Zz, Zc])
  refine wpList_step (fun K hK => ?_); rw [if_pos (by rfl)]; go_simp; (try simp (disch := omega) only [Yq, Yr]); (try simp only [beq_self_eq_true, h0, h1, h2, h3]); (try dsimp only); refine hK _ _ ?_; clear hK K; (try simp only [Act.put, Zs, Zz, Zc])
  iterate 2 (refine wpList_plain rfl (fun K hK => ?_); go_simp; (try dsimp only); refine hK _ _ ?_; clear hK K; (try simp only [Act.put, Zs, Zz, Zc]))
  refine wpList_step (fun K hK => ?_); rw [if_pos (by rfl)]; go_simp; (try dsimp only); refine hK _ _ ?_; clear hK K; (try simp only [Act.put, Zs, Zz, Zc])
  refine wpList_step (fun K hK => ?_); rw [if_pos (by rfl)]; have zc := b0.cell 2; go_simp; clear zc; (try simp only [beq_self_eq_true, h0, h1, h2, h3]); (try dsimp only); refine hK _ _ ?_; clear hK K; (try simp only [Act.put, Zs, Zz, Zc])
  refine wpList_step (fun K hK => ?_); rw [if_pos (by rfl)]; go_simp; (try simp (disch := omega) only [Yq, Yr]); (try simp only [beq_self_eq_true, h0, h1, h2, h3]); (try dsimp only); refine hK _ _ ?_; clear hK K; (try simp only [Act.put, Zs, Zz, Zc])
  iterate 2 (refine wpList_plain rfl (fun K hK => ?_); go_simp; (try dsimp only); refine hK _ _ ?_; clear hK K; (try simp only [Act.put, Zs, Zz, Zc]))
  refine wpList_step (fun K hK => ?_); rw [if_pos (by rfl)]; go_simp; (try dsimp only); refine hK _ _ ?_; clear hK K; (try simp only [Act.put, Zs, Zz, Zc])
  refine wpList_step (fun K hK => ?_); rw [if_pos (by rfl)]; have zc := b0.cell 3; go_simp; clear zc; (try simp only [beq_self_eq_true, h0, h1, h2, h3]); (try dsimp only); refine hK _ _ ?_; clear hK K; (try simp only [Act.put, Zs, Zz, Zc])
  refine wpList_step (fun K hK => ?_); rw [if_pos (by rfl)]; go_simp; (try simp (disch := omega) only [Yq, Yr]); (try simp only [beq_self_eq_true, h0, h1, h2, h3]); (try dsimp only); refine hK _ _ ?_; clear hK K; (try simp only [Act.put, Zs, Zz, Zc])
  iterate 2 (refine wpList_plain rfl (fun K hK => ?_); go_simp; (try dsimp only); refine hK _ _ ?_; clear hK K; (try simp only [Act.put, Zs, Zz, Zc]))
  refine wpList_step (fun K hK => ?_); rw [if_pos (by rfl)]; go_simp; (try dsimp only); refine hK _ _ ?_; clear hK K; (try simp only [Act.put, Zs, Zz, Zc])
  refine wpList_step (fun K hK => ?_); rw [if_pos (by rfl)]; (first | (refine wp_ld 25 _ (Blk.rgn b0) (by rfl) (by rfl) Try.underlying25 rfl (by exact Try.infoR) ?_)); (try dsimp only); refine hK _ _ ?_; clear hK K; (try simp only [Act.put, Zs, Zz, Zc])
  refine wpList_step (fun K hK => ?_); rw [if_pos (by rfl)]; go_simp; (try dsimp only); refine hK _ _ ?_; clear hK K; (try simp only [Act.put, Zs, Zz, Zc])
  refine wpList_step (fun K hK => ?_); rw [if_pos (by rfl)]; (first | refine wp_eqlR _ _ (by rfl) (by rfl) (by rfl) ?_ | refine wp_eqlR (v := RV.z) _ _ (by rfl) (by rfl) (by rfl) ?_); (try simp only [beq_self_eq_true, h0, h1, h2, h3]); (try dsimp only); refine hK _ _ ?_; clear hK K; (try simp only [Act.put, Zs, Zz, Zc])
  iterate 2 (refine wpList_plain rfl (fun K hK => ?_); go_simp; (try dsimp only); refine hK _ _ ?_; clear hK K; (try simp only [Act.put, Zs, Zz, Zc]))
  iterate 4 (refine wpList_step (fun K hK => ?_); rw [if_neg (by exact Bool.false_ne_true)]; (try dsimp only); refine hK _ _ ?_; clear hK K; (try simp only [Act.put, Zs, Zz, Zc]))
  iterate 2 (refine wpList_plain rfl (fun K hK => ?_); go_simp; (try dsimp only); refine hK _ _ ?_; clear hK K; (try simp only [Act.put, Zs, Zz, Zc]))
  refine wpList_nil ?_
  go_wp2_with fail
  go_ret
  exact ⟨rfl, hE⟩

set_option maxRecDepth 100000 in
set_option maxHeartbeats 4000000 in
theorem pnone_4 (f l g : Int) (x : RV) (ka : Option Addr) (n kc : Nat) (w : World) (h0 : (f == 0) = true) (h1 : (l == 0) = true) (h2 : (g == 0) = true) (h3 : (eqR x RV.z) = true) (h4 : (n == 0) = false) :
    Calls Try.prog 57 #[.agg (TV.cs ⟨0, f, l, g, x, .slice ka n kc⟩).toArray] w fun e w' => e = .returned (.bool false) ∧ Ext w w' := by
  have h6 : ((n : Int) == 0) = false := by simpa using h4
  go_enter Try.func57, Try.ntmps57
  go_upto_region 1 with fail
  refine name_wX (fun W1 hW => ?_)
  have hE : Ext w W1 := by rw [hW]; repeat' (first | exact Ext.refl _ | apply Ext.al)
  have b0 : Blk W1 (w.heap.size) 28 (TV.cs ⟨0, f, l, g, x, .slice ka n kc⟩) := by rw [hW]; exact Blk.newAt rfl
  clear hW
  obtain ⟨r0, hr0⟩ : ∃ r, r = w.heap.size := ⟨_, rfl⟩
  rw [← hr0] at b0
  try rw [← hr0]
  have q0 : w.heap.size ≤ r0 := by omega
  clear hr0
  have qz : r0 < W1.heap.size := b0.lt
  go_upto_region 1 with fail
  refine wp_region_lit ?_
  refine wpList_plain rfl (fun K hK => ?_); go_simp; (try dsimp only); refine hK _ _ ?_; clear hK K; (try simp only [Act.put, Zs, Zz, Zc])
  refine wpList_plain rfl (fun K hK => ?_); have zc := b0.cell 0; go_simp; clear zc; (try simp only [beq_self_eq_true, h0, h1, h2, h3, h4, h6]); (try dsimp only); refine hK _ _ ?_; clear hK K; (try simp only [Act.put, Zs, Zz, Zc])
  refine wpList_plain rfl (fun K hK => ?_); go_simp; (try simp (disch := omega) only [Yq, Yr]); (try simp only [beq_self_eq_true, h0, h1, h2, h3, h4, h6]); (try dsimp only); refine hK _ _ ?_; clear hK K; (try simp only [Act.put, Zs, Zz, Zc])
  refine wpList_plain rfl (fun K hK => ?_); go_simp; (try dsimp only); refine hK _ _ ?_; clear hK K; (try simp only [Act.put, Zs, Zz, Zc])
  refine wpList_step (fun K hK => ?_); rw [if_pos (by rfl)]; go_simp; (try dsimp only); refine hK _ _ ?_; clear hK K; (try simp only [Act.put, Zs, Zz, Zc])
  refine wpList_step (fun K hK => ?_); rw [if_pos (by rfl)]; have zc := b0.cell 1; go_simp; clear zc; (try simp only [beq_self_eq_true, h0, h1, h2, h3, h4, h6]); (try dsimp only); refine hK _ _ ?_; clear hK K; (try simp only [Act.put, Zs, Zz, Zc])
  refine wpList_step (fun K hK => ?_); rw [if_pos (by rfl)]; go_simp; (try simp (disch := omega) only [Yq, Yr]); (try simp only [beq_self_eq_true, h0, h1, h2, h3, h4, h6]); (try dsimp only); refine hK _ _ ?_; clear hK K; (try simp only [Act.put, Zs, Zz, Zc])
  iterate 2 (refine wpList_plain rfl (fun K hK => ?_); go_simp; (try dsimp only); refine hK _ _ ?_; clear hK K; (try simp only [Act.put, Zs, Zz, Zc]))
  refine wpList_step (fun K hK => ?_); rw [if_pos (by rfl)]; go_simp; (try dsimp only); refine hK _ _ ?_; clear hK K; (try simp only [Act.put, Zs, Zz, Zc])
  refine wpList_step (fun K hK => ?_); rw [if_pos (by rfl)]; have zc := b0.cell 2; go_simp; clear zc; (try simp only [beq_self_eq_true, h0, h1, h2, h3, h4, h6]); (try dsimp only); refine hK _ _ ?_; clear hK K; (try simp only [Act.put, Zs, Zz, Zc])
  refine wpList_step (fun K hK => ?_); rw [if_pos (by rfl)]; go_simp; (try simp (disch := omega) only [Yq, Yr]); (try simp only [beq_self_eq_true, h0, h1, h2, h3, h4, h6]); (try dsimp only); refine hK _ _ ?_; clear hK K; (try simp only [Act.put, Zs, Zz, Zc])
  iterate 2 (refine wpList_plain rfl (fun K hK => ?_); go_simp; (try dsimp only); refine hK _ _ ?_; clear hK K; (try simp only [Act.put, Zs, Zz, Zc]))
  refine wpList_step (fun K hK => ?_); rw [if_pos (by rfl)]; go_simp; (try dsimp only); refine hK _ _ ?_; clear hK K; (try simp only [Act.put, Zs, Zz, Zc])
  refine wpList_step (fun K hK => ?_); rw [if_pos (by rfl)]; have zc := b0.cell 3; go_simp; clear zc; (try simp only [beq_self_eq_true, h0, h1, h2, h3, h4, h6]); (try dsimp only); refine hK _ _ ?_; clear hK K; (try simp only [Act.put, Zs, Zz, Zc])
  refine wpList_step (fun K hK => ?_); rw [if_pos (by rfl)]; go_simp; (try simp (disch := omega) only [Yq, Yr]); (try simp only [beq_self_eq_true, h0, h1, h2, h3, h4, h6]); (try dsimp only); refine hK _ _ ?_; clear hK K; (try simp only [Act.put, Zs, Zz, Zc])
  iterate 2 (refine wpList_plain rfl (fun K hK => ?_); go_simp; (try dsimp only); refine hK _ _ ?_; clear hK K; (try simp only [Act.put, Zs, Zz, Zc]))
  refine wpList_step (fun K hK => ?_); rw [if_pos (by rfl)]; go_simp; (try dsimp only); refine hK _ _ ?_; clear hK K; (try simp only [Act.put, Zs, Zz, Zc])
  refine wpList_step (fun K hK => ?_); rw [if_pos (by rfl)]; (first | (refine wp_ld 25 _ (Blk.rgn b0) (by rfl) (by rfl) Try.underlying25 rfl (by exact Try.infoR) ?_)); (try dsimp only); refine hK _ _ ?_; clear hK K; (try simp only [Act.put, Zs, Zz, Zc])
  refine wpList_step (fun K hK => ?_); rw [if_pos (by rfl)]; go_simp; (try dsimp only); refine hK _ _ ?_; clear hK K; (try simp only [Act.put, Zs, Zz, Zc])
  refine wpList_step (fun K hK => ?_); rw [if_pos (by rfl)]; (first | refine wp_eqlR _ _ (by rfl) (by rfl) (by rfl) ?_ | refine wp_eqlR (v := RV.z) _ _ (by rfl) (by rfl) (by rfl) ?_); (try simp only [beq_self_eq_true, h0, h1, h2, h3, h4, h6]); (try dsimp only); refine hK _ _ ?_; clear hK K; (try simp only [Act.put, Zs, Zz, Zc])
  iterate 2 (refine wpList_plain rfl (fun K hK => ?_); go_simp; (try dsimp only); refine hK _ _ ?_; clear hK K; (try simp only [Act.put, Zs, Zz, Zc]))
  refine wpList_step (fun K hK => ?_); rw [if_pos (by rfl)]; go_simp; (try dsimp only); refine hK _ _ ?_; clear hK K; (try simp only [Act.put, Zs, Zz, Zc])
  refine wpList_step (fun K hK => ?_); rw [if_pos (by rfl)]; have zc := b0.cell 10; go_simp; clear zc; (try simp only [beq_self_eq_true, h0, h1, h2, h3, h4, h6]); (try dsimp only); refine hK _ _ ?_; clear hK K; (try simp only [Act.put, Zs, Zz, Zc])
  refine wpList_step (fun K hK => ?_); rw [if_pos (by rfl)]; go_simp; (try dsimp only); refine hK _ _ ?_; clear hK K; (try simp only [Act.put, Zs, Zz, Zc])
  refine wpList_step (fun K hK => ?_); rw [if_pos (by rfl)]; go_simp; (try simp (disch := omega) only [Yq, Yr]); (try simp only [beq_self_eq_true, h0, h1, h2, h3, h4, h6]); (try dsimp only); refine hK _ _ ?_; clear hK K; (try simp only [Act.put, Zs, Zz, Zc])
  iterate 2 (refine wpList_plain rfl (fun K hK => ?_); go_simp; (try dsimp only); refine hK _ _ ?_; clear hK K; (try simp only [Act.put, Zs, Zz, Zc]))
  refine wpList_nil ?_
  go_wp2_with fail
  go_ret
  exact ⟨rfl, hE⟩

set_option maxRecDepth 100000 in
set_option maxHeartbeats 4000000 in
theorem pnone_5 (f l g : Int) (x : RV) (ka : Option Addr) (n kc : Nat) (w : World) (h0 : (f == 0) = true) (h1 : (l == 0) = true) (h2 : (g == 0) = true) (h3 : (eqR x RV.z) = true) (h4 : (n == 0) = true) :
    Calls Try.prog 57 #[.agg (TV.cs ⟨0, f, l, g, x, .slice ka n kc⟩).toArray] w fun e w' => e = .returned (.bool true) ∧ Ext w w' := by
  have h6 : ((n : Int) == 0) = true := by simpa using h4
  go_enter Try.func57, Try.ntmps57
  go_upto_region 1 with fail
  refine name_wX (fun W1 hW => ?_)
  have hE : Ext w W1 := by rw [hW]; repeat' (first | exact Ext.refl _ | apply Ext.al)
  have b0 : Blk W1 (w.heap.size) 28 (TV.cs ⟨0, f, l, g, x, .slice ka n kc⟩) := by rw [hW]; exact Blk.newAt rfl
  clear hW
  obtain ⟨r0, hr0⟩ : ∃ r, r = w.heap.size := ⟨_, rfl⟩
  rw [← hr0] at b0
  try rw [← hr0]
  have q0 : w.heap.size ≤ r0 := by omega
  clear hr0
  have qz : r0 < W1.heap.size := b0.lt
  go_upto_region 1 with fail
  refine wp_region_lit ?_
  refine wpList_plain rfl (fun K hK => ?_); go_simp; (try dsimp only); refine hK _ _ ?_; clear hK K; (try simp only [Act.put, Zs, Zz, Zc])
  refine wpList_plain rfl (fun K hK => ?_); have zc := b0.cell 0; go_simp; clear zc; (try simp only [beq_self_eq_true, h0, h1, h2, h3, h4, h6]); (try dsimp only); refine hK _ _ ?_; clear hK K; (try simp only [Act.put, Zs, Zz, Zc])
  refine wpList_plain rfl (fun K hK => ?_); go_simp; (try simp (disch := omega) only [Yq, Yr]); (try simp only [beq_self_eq_true, h0, h1, h2, h3, h4, h6]); (try dsimp only); refine hK _ _ ?_; clear hK K; (try simp only [Act.put, Zs, Zz, Zc])
  refine wpList_plain rfl (fun K hK => ?_); go_simp; (try dsimp only); refine hK _ _ ?_; clear hK K; (try simp only [Act.put, Zs, Zz, Zc])
  refine wpList_step (fun K hK => ?_); rw [if_pos (by rfl)]; go_simp; (try dsimp only); refine hK _ _ ?_; clear hK K; (try simp only [Act.put, Zs, Zz, Zc])
  refine wpList_step (fun K hK => ?_); rw [if_pos (by rfl)]; have zc := b0.cell 1; go_simp; clear zc; (try simp only [beq_self_eq_true, h0, h1, h2, h3, h4, h6]); (try dsimp only); refine hK _ _ ?_; clear hK K; (try simp only [Act.put, Zs, Zz, Zc])
  refine wpList_step (fun K hK => ?_); rw [if_pos (by rfl)]; go_simp; (try simp (disch := omega) only [Yq, Yr]); (try simp only [beq_self_eq_true, h0, h1, h2, h3, h4, h6]); (try dsimp only); refine hK _ _ ?_; clear hK K; (try simp only [Act.put, Zs, Zz, Zc])
  iterate 2 (refine wpList_plain rfl (fun K hK => ?_); go_simp; (try dsimp only); refine hK _ _ ?_; clear hK K; (try simp only [Act.put, Zs, Zz, Zc]))
  refine wpList_step (fun K hK => ?_); rw [if_pos (by rfl)]; go_simp; (try dsimp only); refine hK _ _ ?_; clear hK K; (try simp only [Act.put, Zs, Zz, Zc])
  refine wpList_step (fun K hK => ?_); rw [if_pos (by rfl)]; have zc := b0.cell 2; go_simp; clear zc; (try simp only [beq_self_eq_true, h0, h1, h2, h3, h4, h6]); (try dsimp only); refine hK _ _ ?_; clear hK K; (try simp only [Act.put, Zs, Zz, Zc])
  refine wpList_step (fun K hK => ?_); rw [if_pos (by rfl)]; go_simp; (try simp (disch := omega) only [Yq, Yr]); (try simp only [beq_self_eq_true, h0, h1, h2, h3, h4, h6]); (try dsimp only); refine hK _ _ ?_; clear hK K; (try simp only [Act.put, Zs, Zz, Zc])
  iterate 2 (refine wpList_plain rfl (fun K hK => ?_); go_simp; (try dsimp only); refine hK _ _ ?_; clear hK K; (try simp only [Act.put, Zs, Zz, Zc]))
  refine wpList_step (fun K hK => ?_); rw [if_pos (by rfl)]; go_simp; (try dsimp only); refine hK _ _ ?_; clear hK K; (try simp only [Act.put, Zs, Zz, Zc])
  refine wpList_step (fun K hK => ?_); rw [if_pos (by rfl)]; have zc := b0.cell 3; go_simp; clear zc; (try simp only [beq_self_eq_true, h0, h1, h2, h3, h4, h6]); (try dsimp only); refine hK _ _ ?_; clear hK K; (try simp only [Act.put, Zs, Zz, Zc])
  refine wpList_step (fun K hK => ?_); rw [if_pos (by rfl)]; go_simp; (try simp (disch := omega) only [Yq, Yr]); (try simp only [beq_self_eq_true, h0, h1, h2, h3, h4, h6]); (try dsimp only); refine hK _ _ ?_; clear hK K; (try simp only [Act.put, Zs, Zz, Zc])
  iterate 2 (refine wpList_plain rfl (fun K hK => ?_); go_simp; (try dsimp only); refine hK _ _ ?_; clear hK K; (try simp only [Act.put, Zs, Zz, Zc]))
  refine wpList_step (fun K hK => ?_); rw [if_pos (by rfl)]; go_simp; (try dsimp only); refine hK _ _ ?_; clear hK K; (try simp only [Act.put, Zs, Zz, Zc])
  refine wpList_step (fun K hK => ?_); rw [if_pos (by rfl)]; (first | (refine wp_ld 25 _ (Blk.rgn b0) (by rfl) (by rfl) Try.underlying25 rfl (by exact Try.infoR) ?_)); (try dsimp only); refine hK _ _ ?_; clear hK K; (try simp only [Act.put, Zs, Zz, Zc])
  refine wpList_step (fun K hK => ?_); rw [if_pos (by rfl)]; go_simp; (try dsimp only); refine hK _ _ ?_; clear hK K; (try simp only [Act.put, Zs, Zz, Zc])
  refine wpList_step (fun K hK => ?_); rw [if_pos (by rfl)]; (first | refine wp_eqlR _ _ (by rfl) (by rfl) (by rfl) ?_ | refine wp_eqlR (v := RV.z) _ _ (by rfl) (by rfl) (by rfl) ?_); (try simp only [beq_self_eq_true, h0, h1, h2, h3, h4, h6]); (try dsimp only); refine hK _ _ ?_; clear hK K; (try simp only [Act.put, Zs, Zz, Zc])
  iterate 2 (refine wpList_plain rfl (fun K hK => ?_); go_simp; (try dsimp only); refine hK _ _ ?_; clear hK K; (try simp only [Act.put, Zs, Zz, Zc]))
  refine wpList_step (fun K hK => ?_); rw [if_pos (by rfl)]; go_simp; (try dsimp only); refine hK _ _ ?_; clear hK K; (try simp only [Act.put, Zs, Zz, Zc])
  refine wpList_step (fun K hK => ?_); rw [if_pos (by rfl)]; have zc := b0.cell 10; go_simp; clear zc; (try simp only [beq_self_eq_true, h0, h1, h2, h3, h4, h6]); (try dsimp only); refine hK _ _ ?_; clear hK K; (try simp only [Act.put, Zs, Zz, Zc])
  refine wpList_step (fun K hK => ?_); rw [if_pos (by rfl)]; go_simp; (try dsimp only); refine hK _ _ ?_; clear hK K; (try simp only [Act.put, Zs, Zz, Zc])
  refine wpList_step (fun K hK => ?_); rw [if_pos (by rfl)]; go_simp; (try simp (disch := omega) only [Yq, Yr]); (try simp only [beq_self_eq_true, h0, h1, h2, h3, h4, h6]); (try dsimp only); refine hK _ _ ?_; clear hK K; (try simp only [Act.put, Zs, Zz, Zc])
  iterate 2 (refine wpList_plain rfl (fun K hK => ?_); go_simp; (try dsimp only); refine hK _ _ ?_; clear hK K; (try simp only [Act.put, Zs, Zz, Zc]))
  refine wpList_nil ?_
  go_wp2_with fail
  go_ret
  exact ⟨rfl, hE⟩

theorem pnone_any (f l g : Int) (x : RV) (ka : Option Addr) (n kc : Nat) (w : World) :
    Calls Try.prog 57 #[.agg (TV.cs ⟨0, f, l, g, x, .slice ka n kc⟩).toArray] w fun e w' => e = .returned (.bool (fm0 f l g x n)) ∧ Ext w w' := by
  unfold fm0
  cases h0 : (f == 0) with
  | false => exact pnone_0 f l g x ka n kc w h0
  | true =>
    cases h1 : (l == 0) with
    | false => exact pnone_1 f l g x ka n kc w h0 h1
    | true =>
      cases h2 : (g == 0) with
      | false => exact pnone_2 f l g x ka n kc w h0 h1 h2
      | true =>
        cases h3 : (eqR x RV.z) with
        | false => exact pnone_3 f l g x ka n kc w h0 h1 h2 h3
        | true =>
          cases h4 : (n == 0) with
          | false => exact pnone_4 f l g x ka n kc w h0 h1 h2 h3 h4
          | true =>
            exact pnone_5 f l g x ka n kc w h0 h1 h2 h3 h4
set_option maxRecDepth 100000 in
set_option maxHeartbeats 4000000 in
theorem rnone_0 (f l g : Int) (x : RV) (ka : Option Addr) (n kc : Nat) (w : World) (h0 : (f == 0) = false) :
    Calls Try.prog 59 #[.agg (TV.cs ⟨0, f, l, g, x, .slice ka n kc⟩).toArray] w fun e w' => e = .returned (.bool false) ∧ Ext w w' := by
  go_enter Try.func59, Try.ntmps59
  go_upto_region 1 with fail
  refine name_wX (fun W1 hW => ?_)
  have hE : Ext w W1 := by rw [hW]; repeat' (first | exact Ext.refl _ | apply Ext.al)
  have b0 : Blk W1 (w.heap.size) 28 (TV.cs ⟨0, f, l, g, x, .slice ka n kc⟩) := by rw [hW]; exact Blk.newAt rfl
  clear hW
  obtain ⟨r0, hr0⟩ : ∃ r, r = w.heap.size := ⟨_, rfl⟩
  rw [← hr0] at b0
  try rw [← hr0]
  have q0 : w.heap.size ≤ r0 := by omega
  clear hr0
  have qz : r0 < W1.heap.size := b0.lt
  go_upto_region 1 with fail
  refine wp_region_lit ?_
  refine wpList_plain rfl (fun K hK => ?_); go_simp; (try dsimp only); refine hK _ _ ?_; clear hK K; (try simp only [Act.put, Zs, Zz, Zc])
  refine wpList_plain rfl (fun K hK => ?_); have zc := b0.cell 0; go_simp; clear zc; (try simp only [beq_self_eq_true, h0]); (try dsimp only); refine hK _ _ ?_; clear hK K; (try simp only [Act.put, Zs, Zz, Zc])
  refine wpList_plain rfl (fun K hK => ?_); go_simp; (try simp (disch := omega) only [Yq, Yr]); (try simp only [beq_self_eq_true, h0]); (try dsimp only); refine hK _ _ ?_; clear hK K; (try simp only [Act.put, Zs, Zz, Zc])
  refine wpList_plain rfl (fun K hK => ?_); go_simp; (try dsimp only); refine hK _ _ ?_; clear hK K; (try simp only [Act.put, Zs, Zz, Zc])
  refine wpList_step (fun K hK => ?_); rw [if_pos (by rfl)]; go_simp; (try dsimp only); refine hK _ _ ?_; clear hK K; (try simp only [Act.put, Zs, Zz, Zc])
  refine wpList_step (fun K hK => ?_); rw [if_pos (by rfl)]; have zc := b0.cell 1; go_simp; clear zc; (try simp only [beq_self_eq_true, h0]); (try dsimp only); refine hK _ _ ?_; clear hK K; (try simp only [Act.put, Zs, Zz, Zc])
  refine wpList_step (fun K hK => ?_); rw [if_pos (by rfl)]; go_simp; (try simp (disch := omega) only [Yq, Yr]); (try simp only [beq_self_eq_true, h0]); (try dsimp only); refine hK _ _ ?_; clear hK K; (try simp only [Act.put, Zs, Zz, Zc])
  iterate 2 (refine wpList_plain rfl (fun K hK => ?_); go_simp; (try dsimp only); refine hK _ _ ?_; clear hK K; (try simp only [Act.put, Zs, Zz, Zc]))
  iterate 3 (refine wpList_step (fun K hK => ?_); rw [if_neg (by exact Bool.false_ne_true)]; (try dsimp only); refine hK _ _ ?_; clear hK K; (try simp only [Act.put, Zs, Zz, Zc]))
  iterate 2 (refine wpList_plain rfl (fun K hK => ?_); go_simp; (try dsimp only); refine hK _ _ ?_; clear hK K; (try simp only [Act.put, Zs, Zz, Zc]))
  iterate 3 (refine wpList_step (fun K hK => ?_); rw [if_neg (by exact Bool.false_ne_true)]; (try dsimp only); refine hK _ _ ?_; clear hK K; (try simp only [Act.put, Zs, Zz, Zc]))
  iterate 2 (refine wpList_plain rfl (fun K hK => ?_); go_simp; (try dsimp only); refine hK _ _ ?_; clear hK K; (try simp only [Act.put, Zs, Zz, Zc]))
  iterate 4 (refine wpList_step (fun K hK => ?_); rw [if_neg (by exact Bool.false_ne_true)]; (try dsimp only); refine hK _ _ ?_; clear hK K; (try simp only [Act.put, Zs, Zz, Zc]))
  iterate 2 (refine wpList_plain rfl (fun K hK => ?_); go_simp; (try dsimp only); refine hK _ _ ?_; clear hK K; (try simp only [Act.put, Zs, Zz, Zc]))
  iterate 4 (refine wpList_step (fun K hK => ?_); rw [if_neg (by exact Bool.false_ne_true)]; (try dsimp only); refine hK _ _ ?_; clear hK K; (try simp only [Act.put, Zs, Zz, Zc]))
  iterate 2 (refine wpList_plain rfl (fun K hK => ?_); go_simp; (try dsimp only); refine hK _ _ ?_; clear hK K; (try simp only [Act.put, Zs, Zz, Zc]))
  refine wpList_nil ?_
  go_wp2_with fail
  go_ret
  exact ⟨rfl, hE⟩

set_option maxRecDepth 100000 in
set_option maxHeartbeats 4000000 in
theorem rnone_1 (f l g : Int) (x : RV) (ka : Option Addr) (n kc : Nat) (w : World) (h0 : (f == 0) = true) (h1 : (l == 0) = false) :
    Calls Try.prog 59 #[.agg (TV.cs ⟨0, f, l, g, x, .slice ka n kc⟩).toArray] w fun e w' => e = .returned (.bool false) ∧ Ext w w' := by
  go_enter Try.func59, Try.ntmps59
  go_upto_region 1 with fail
  refine name_wX (fun W1 hW => ?_)
  have hE : Ext w W1 := by rw [hW]; repeat' (first | exact Ext.refl _ | apply Ext.al)
  have b0 : Blk W1 (w.heap.size) 28 (TV.cs ⟨0, f, l, g, x, .slice ka n kc⟩) := by rw [hW]; exact Blk.newAt rfl
  clear hW
  obtain ⟨r0, hr0⟩ : ∃ r, r = w.heap.size := ⟨_, rfl⟩
  rw [← hr0] at b0
  try rw [← hr0]
  have q0 : w.heap.size ≤ r0 := by omega
  clear hr0
  have qz : r0 < W1.heap.size := b0.lt
  go_upto_region 1 with fail
  refine wp_region_lit ?_
  refine wpList_plain rfl (fun K hK => ?_); go_simp; (try dsimp only); refine hK _ _ ?_; clear hK K; (try simp only [Act.put, Zs, Zz, Zc])
  refine wpList_plain rfl (fun K hK => ?_); have zc := b0.cell 0; go_simp; clear zc; (try simp only [beq_self_eq_true, h0, h1]); (try dsimp only); refine hK _ _ ?_; clear hK K; (try simp only [Act.put, Zs, Zz, Zc])
  refine wpList_plain rfl (fun K hK => ?_); go_simp; (try simp (disch := omega) only [Yq, Yr]); (try simp only [beq_self_eq_true, h0, h1]); (try dsimp only); refine hK _ _ ?_; clear hK K; (try simp only [Act.put, Zs, Zz, Zc])
  refine wpList_plain rfl (fun K hK => ?_); go_simp; (try dsimp only); refine hK _ _ ?_; clear hK K; (try simp only [Act.put, Zs, Zz, Zc])
  refine wpList_step (fun K hK => ?_); rw [if_pos (by rfl)]; go_simp; (try dsimp only); refine hK _ _ ?_; clear hK K; (try simp only [Act.put, Zs, Zz, Zc])
  refine wpList_step (fun K hK => ?_); rw [if_pos (by rfl)]; have zc := b0.cell 1; go_simp; clear zc; (try simp only [beq_self_eq_true, h0, h1]); (try dsimp only); refine hK _ _ ?_; clear hK K; (try simp only [Act.put, Zs, Zz, Zc])
  refine wpList_step (fun K hK => ?_); rw [if_pos (by rfl)]; go_simp; (try simp (disch := omega) only [Yq, Yr]); (try simp only [beq_self_eq_true, h0, h1]); (try dsimp only); refine hK _ _ ?_; clear hK K; (try simp only [Act.put, Zs, Zz, Zc])
  iterate 2 (refine wpList_plain rfl (fun K hK => ?_); go_simp; (try dsimp only); refine hK _ _ ?_; clear hK K; (try simp only [Act.put, Zs, Zz, Zc]))
  refine wpList_step (fun K hK => ?_); rw [if_pos (by rfl)]; go_simp; (try dsimp only); refine hK _ _ ?_; clear hK K; (try simp only [Act.put, Zs, Zz, Zc])
  refine wpList_step (fun K hK => ?_); rw [if_pos (by rfl)]; have zc := b0.cell 2; go_simp; clear zc; (try simp only [beq_self_eq_true, h0, h1]); (try dsimp only); refine hK _ _ ?_; clear hK K; (try simp only [Act.put, Zs, Zz, Zc])
  refine wpList_step (fun K hK => ?_); rw [if_pos (by rfl)]; go_simp; (try simp (disch := omega) only [Yq, Yr]); (try simp only [beq_self_eq_true, h0, h1]); (try dsimp only); refine hK _ _ ?_; clear hK K; (try simp only [Act.put, Zs, Zz, Zc])
  iterate 2 (refine wpList_plain rfl (fun K hK => ?_); go_simp; (try dsimp only); refine hK _ _ ?_; clear hK K; (try simp only [Act.put, Zs, Zz, Zc]))
  iterate 3 (refine wpList_step (fun K hK => ?_); rw [if_neg (by exact Bool.false_ne_true)]; (try dsimp only); refine hK _ _ ?_; clear hK K; (try simp only [Act.put, Zs, Zz, Zc]))
  iterate 2 (refine wpList_plain rfl (fun K hK => ?_); go_simp; (try dsimp only); refine hK _ _ ?_; clear hK K; (try simp only [Act.put, Zs, Zz, Zc]))
  iterate 4 (refine wpList_step (fun K hK => ?_); rw [if_neg (by exact Bool.false_ne_true)]; (try dsimp only); refine hK _ _ ?_; clear hK K; (try simp only [Act.put, Zs, Zz, Zc]))
  iterate 2 (refine wpList_plain rfl (fun K hK => ?_); go_simp; (try dsimp only); refine hK _ _ ?_; clear hK K; (try simp only [Act.put, Zs, Zz, Zc]))
  iterate 4 (refine wpList_step (fun K hK => ?_); rw [if_neg (by exact Bool.false_ne_true)]; (try dsimp only); refine hK _ _ ?_; clear hK K; (try simp only [Act.put, Zs, Zz, Zc]))
  iterate 2 (refine wpList_plain rfl (fun K hK => ?_); go_simp; (try dsimp only); refine hK _ _ ?_; clear hK K; (try simp only [Act.put, Zs, Zz, Zc]))
  refine wpList_nil ?_
  go_wp2_with fail
  go_ret
  exact ⟨rfl, hE⟩

set_option maxRecDepth 100000 in
set_option maxHeartbeats 4000000 in
theorem rnone_2 (f l g : Int) (x : RV) (ka : Option Addr) (n kc : Nat) (w : World) (h0 : (f == 0) = true) (h1 : (l == 0) = true) (h2 : (g == 0) = false) :
    Calls Try.prog 59 #[.agg (TV.cs ⟨0, f, l, g, x, .slice ka n kc⟩).toArray] w fun e w' => e = .returned (.bool false) ∧ Ext w w' := by
  go_enter Try.func59, Try.ntmps59
  go_upto_region 1 with fail
  refine name_wX (fun W1 hW => ?_)
  have hE : Ext w W1 := by rw [hW]; repeat' (first | exact Ext.refl _ | apply Ext.al)
  have b0 : Blk W1 (w.heap.size) 28 (TV.cs ⟨0, f, l, g, x, .slice ka n kc⟩) := by rw [hW]; exact Blk.newAt rfl
  clear hW
  obtain ⟨r0, hr0⟩ : ∃ r, r = w.heap.size := ⟨_, rfl⟩
  rw [← hr0] at b0
  try rw [← hr0]
  have q0 : w.heap.size ≤ r0 := by omega
  clear hr0
  have qz : r0 < W1.heap.size := b0.lt
  go_upto_region 1 with fail
  refine wp_region_lit ?_
  refine wpList_plain rfl (fun K hK => ?_); go_simp; (try dsimp only); refine hK _ _ ?_; clear hK K; (try simp only [Act.put, Zs, Zz, Zc])
  refine wpList_plain rfl (fun K hK => ?_); have zc := b0.cell 0; go_simp; clear zc; (try simp only [beq_self_eq_true, h0, h1, h2]); (try dsimp only); refine hK _ _ ?_; clear hK K; (try simp only [Act.put, Zs, Zz, Zc])
  refine wpList_plain rfl (fun K hK => ?_); go_simp; (try simp (disch := omega) only [Yq, Yr]); (try simp only [beq_self_eq_true, h0, h1, h2]); (try dsimp only); refine hK _ _ ?_; clear hK K; (try simp only [Act.put, Zs, Zz, Zc])
  refine wpList_plain rfl (fun K hK => ?_); go_simp; (try dsimp only); refine hK _ _ ?_; clear hK K; (try simp only [Act.put, Zs, Zz, Zc])
  refine wpList_step (fun K hK => ?_); rw [if_pos (by rfl)]; go_simp; (try dsimp only); refine hK _ _ ?_; clear hK K; (try simp only [Act.put, Zs, Zz, Zc])
  refine wpList_step (fun K hK => ?_); rw [if_pos (by rfl)]; have zc := b0.cell 1; go_simp; clear zc; (try simp only [beq_self_eq_true, h0, h1, h2]); (try dsimp only); refine hK _ _ ?_; clear hK K; (try simp only [Act.put, Zs, Zz, Zc])
  refine wpList_step (fun K hK => ?_); rw [if_pos (by rfl)]; go_simp; (try simp (disch := omega) only [Yq, Yr]); (try simp only [beq_self_eq_true, h0, h1, h2]); (try dsimp only); refine hK _ _ ?_; clear hK K; (try simp only [Act.put, Zs, Zz, Zc])
  iterate 2 (refine wpList_plain rfl (fun K hK => ?_); go_simp; (try dsimp only); refine hK _ _ ?_; clear hK K; (try simp only [Act.put, Zs, Zz, Zc]))
  refine wpList_step (fun K hK => ?_); rw [if_pos (by rfl)]; go_simp; (try dsimp only); refine hK _ _ ?_; clear hK K; (try simp only [Act.put, Zs, Zz, Zc])
  refine wpList_step (fun K hK => ?_); rw [if_pos (by rfl)]; have zc := b0.cell 2; go_simp; clear zc; (try simp only [beq_self_eq_true, h0, h1, h2]); (try dsimp only); refine hK _ _ ?_; clear hK K; (try simp only [Act.put, Zs, Zz, Zc])
  refine wpList_step (fun K hK => ?_); rw [if_pos (by rfl)]; go_simp; (try simp (disch := omega) only [Yq, Yr]); (try simp only [beq_self_eq_true, h0, h1, h2]); (try dsimp only); refine hK _ _ ?_; clear hK K; (try simp only [Act.put, Zs, Zz, Zc])
  iterate 2 (refine wpList_plain rfl (fun K hK => ?_); go_simp; (try dsimp only); refine hK _ _ ?_; clear hK K; (try simp only [Act.put, Zs, Zz, Zc]))
  refine wpList_step (fun K hK => ?_); rw [if_pos (by rfl)]; go_simp; (try dsimp only); refine hK _ _ ?_; clear hK K; (try simp only [Act.put, Zs, Zz, Zc])
  refine wpList_step (fun K hK => ?_); rw [if_pos (by rfl)]; have zc := b0.cell 3; go_simp; clear zc; (try simp only [beq_self_eq_true, h0, h1, h2]); (try dsimp only); refine hK _ _ ?_; clear hK K; (try simp only [Act.put, Zs, Zz, Zc])
  refine wpList_step (fun K hK => ?_); rw [if_pos (by rfl)]; go_simp; (try simp (disch := omega) only [Yq, Yr]); (try simp only [beq_self_eq_true, h0, h1, h2]); (try dsimp only); refine hK _ _ ?_; clear hK K; (try simp only [Act.put, Zs, Zz, Zc])
  iterate 2 (refine wpList_plain rfl (fun K hK => ?_); go_simp; (try dsimp only); refine hK _ _ ?_; clear hK K; (try simp only [Act.put, Zs, Zz, Zc]))
  iterate 4 (refine wpList_step (fun K hK => ?_); rw [if_neg (by exact Bool.false_ne_true)]; (try dsimp only); refine hK _ _ ?_; clear hK K; (try simp only [Act.put, Zs, Zz, Zc]))
  iterate 2 (refine wpList_plain rfl (fun K hK => ?_); go_simp; (try dsimp only); refine hK _ _ ?_; clear hK K; (try simp only [Act.put, Zs, Zz, Zc]))
  iterate 4 (refine wpList_step (fun K hK => ?_); rw [if_neg (by exact Bool.false_ne_true)]; (try dsimp only); refine hK _ _ ?_; clear hK K; (try simp only [Act.put, Zs, Zz, Zc]))
  iterate 2 (refine wpList_plain rfl (fun K hK => ?_); go_simp; (try dsimp only); refine hK _ _ ?_; clear hK K; (try simp only [Act.put, Zs, Zz, Zc]))
  refine wpList_nil ?_
  go_wp2_with fail
  go_ret
  exact ⟨rfl, hE⟩

set_option maxRecDepth 100000 in
set_option maxHeartbeats 4000000 in
theorem rnone_3 (f l g : Int) (x : RV) (ka : Option Addr) (n kc : Nat) (w : World) (h0 : (f == 0) = true) (h1 : (l == 0) = true) (h2 : (g == 0) = true) (h3 : (eqR x RV.z) = false) :
    Calls Try.prog 59 #[.agg (TV.cs ⟨0, f, l, g, x, .slice ka n kc⟩).toArray] w fun e w' => e = .returned (.bool false) ∧ Ext w w' := by
  go_enter Try.func59, Try.ntmps59
  go_upto_region 1 with fail
  refine name_wX (fun W1 hW => ?_)
  have hE : Ext w W1 := by rw [hW]; repeat' (first | exact Ext.refl _ | apply Ext.al)
  have b0 : Blk W1 (w.heap.size) 28 (TV.cs ⟨0, f, l, g, x, .slice ka n kc⟩) := by rw [hW]; exact Blk.newAt rfl
  clear hW
  obtain ⟨r0, hr0⟩ : ∃ r, r = w.heap.size := ⟨_, rfl⟩
  rw [← hr0] at b0
  try rw [← hr0]
  have q0 : w.heap.size ≤ r0 := by omega
  clear hr0
  have qz : r0 < W1.heap.size := b0.lt
  go_upto_region 1 with fail
  refine wp_region_lit ?_
  refine wpList_plain rfl (fun K hK => ?_); go_simp; (try dsimp only); refine hK _ _ ?_; clear hK K; (try simp only [Act.put, Zs, Zz, Zc])
  refine wpList_plain rfl (fun K hK => ?_); have zc := b0.cell 0; go_simp; clear zc; (try simp only [beq_self_eq_true, h0, h1, h2, h3]); (try dsimp only); refine hK _ _ ?_; clear hK K; (try simp only [Act.put, Zs, Zz, Zc])
  refine wpList_plain rfl (fun K hK => ?_); go_simp; (try simp (disch := omega) only [Yq, Yr]); (try simp only [beq_self_eq_true, h0, h1, h2, h3]); (try dsimp only); refine hK _ _ ?_; clear hK K; (try simp only [Act.put, Zs, Zz, Zc])
  refine wpList_plain rfl (fun K hK => ?_); go_simp; (try dsimp only); refine hK _ _ ?_; clear hK K; (try simp only [Act.put, Zs, Zz, Zc])
  refine wpList_step (fun K hK => ?_); rw [if_pos (by rfl)]; go_simp; (try dsimp only); refine hK _ _ ?_; clear hK K; (try simp only [Act.put, Zs, Zz, Zc])
  refine wpList_step (fun K hK => ?_); rw [if_pos (by rfl)]; have zc := b0.cell 1; go_simp; clear zc; (try simp only [beq_self_eq_true, h0, h1, h2, h3]); (try dsimp only); refine hK _ _ ?_; clear hK K; (try simp only [Act.put, Zs, Zz, Zc])
  refine wpList_step (fun K hK => ?_); rw [if_pos (by rfl)]; go_simp; (try simp (disch := omega) only [Yq, Yr]); (try simp only [beq_self_eq_true, h0, h1, h2, h3]); (try dsimp only); refine hK _ _ ?_; clear hK K; (try simp only [Act.put, Zs, Zz, Zc])
  iterate 2 (refine wpList_plain rfl (fun K hK => ?_); go_simp; (try dsimp only); refine hK _ _ ?_; clear hK K; (try simp only [Act.put, Zs, Zz, Zc]))
  refine wpList_step (fun K hK => ?_); rw [if_pos (by rfl)]; go_simp; (try dsimp only); refine hK _ _ ?_; clear hK K; (try simp only [Act.put, Zs, Zz, Zc])
  refine wpList_step (fun K hK => ?_); rw [if_pos (by rfl)]; have zc := b0.cell 2; go_simp; clear zc; (try simp only [beq_self_eq_true, h0, h1, h2, h3]); (try dsimp only); refine hK _ _ ?_; clear hK K; (try simp only [Act.put, Zs, Zz, Zc])
  refine wpList_step (fun K hK => ?_); rw [if_pos (by rfl)]; go_simp; (try simp (disch := omega) only [Yq, Yr]); (try simp only [beq_self_eq_true, h0, h1, h2, h3]); (try dsimp only); refine hK _ _ ?_; clear hK K; (try simp only [Act.put, Zs, Zz, Zc])
  iterate 2 (refine wpList_plain rfl (fun K hK => ?_); go_simp; (try dsimp only); refine hK _ _ ?_; clear hK K; (try simp only [Act.put, Zs, Zz, Zc]))
  refine wpList_step (fun K hK => ?_); rw [if_pos (by rfl)]; go_simp; (try dsimp only); refine hK _ _ ?_; clear hK K; (try simp only [Act.put, Zs, Zz, Zc])
  refine wpList_step (fun K hK => ?_); rw [if_pos (by rfl)]; have zc := b0.cell 3; go_simp; clear zc; (try simp only [beq_self_eq_true, h0, h1, h2, h3]); (try dsimp only); refine hK _ _ ?_; clear hK K; (try simp only [Act.put, Zs, Zz, Zc])
  refine wpList_step (fun K hK => ?_); rw [if_pos (by rfl)]; go_simp; (try simp (disch := omega) only [Yq, Yr]); (try simp only [beq_self_eq_true, h0, h1, h2, h3]); (try dsimp only); refine hK _ _ ?_; clear hK K; (try simp only [Act.put, Zs, Zz, Zc])
  iterate 2 (refine wpList_plain rfl (fun K hK => ?_); go_simp; (try dsimp only); refine hK _ _ ?_; clear hK K; (try simp only [Act.put, Zs, Zz, Zc]))
  refine wpList_step (fun K hK => ?_); rw [if_pos (by rfl)]; go_simp; (try dsimp only); refine hK _ _ ?_; clear hK K; (try simp only [Act.put, Zs, Zz, Zc])
  refine wpList_step (fun K hK => ?_); rw [if_pos (by rfl)]; (first | (refine wp_ld 25 _ (Blk.rgn b0) (by rfl) (by rfl) Try.underlying25 rfl (by exact Try.infoR) ?_)); (try dsimp only); refine hK _ _ ?_; clear hK K; (try simp only [Act.put, Zs, Zz, Zc])
  refine wpList_step (fun K hK => ?_); rw [if_pos (by rfl)]; go_simp; (try dsimp only); refine hK _ _ ?_; clear hK K; (try simp only [Act.put, Zs, Zz, Zc])
  refine wpList_step (fun K hK => ?_); rw [if_pos (by rfl)]; (first | refine wp_eqlR _ _ (by rfl) (by rfl) (by rfl) ?_ | refine wp_eqlR (v := RV.z) _ _ (by rfl) (by rfl) (by rfl) ?_); (try simp only [beq_self_eq_true, h0, h1, h2, h3]); (try dsimp only); refine hK _ _ ?_; clear hK K; (try simp only [Act.put, Zs, Zz, Zc])
  iterate 2 (refine wpList_plain rfl (fun K hK => ?_); go_simp; (try dsimp only); refine hK _ _ ?_; clear hK K; (try simp only [Act.put, Zs, Zz, Zc]))
  iterate 4 (refine wpList_step (fun K hK => ?_); rw [if_neg (by exact Bool.false_ne_true)]; (try dsimp only); refine hK _ _ ?_; clear hK K; (try simp only [Act.put, Zs, Zz, Zc]))
  iterate 2 (refine wpList_plain rfl (fun K hK => ?_); go_simp; (try dsimp only); refine hK _ _ ?_; clear hK K; (try simp only [Act.put, Zs, Zz, Zc]))
  refine wpList_nil ?_
  go_wp2_with fail
  go_ret
  exact ⟨rfl, hE⟩

set_option maxRecDepth 100000 in
set_option maxHeartbeats 4000000 in
theorem rnone_4 (f l g : Int) (x : RV) (ka : Option Addr) (n kc : Nat) (w : World) (h0 : (f == 0) = true) (h1 : (l == 0) = true) (h2 : (g == 0) = true) (h3 : (eqR x RV.z) = true) (h4 : (n == 0) = false) :
    Calls Try.prog 59 #[.agg (TV.cs ⟨0, f, l, g, x, .slice ka n kc⟩).toArray] w fun e w' => e = .returned (.bool false) ∧ Ext w w' := by
  have h6 : ((n : Int) == 0) = false := by simpa using h4
  go_enter Try.func59, Try.ntmps59
  go_upto_region 1 with fail
  refine name_wX (fun W1 hW => ?_)
  have hE : Ext w W1 := by rw [hW]; repeat' (first | exact Ext.refl _ | apply Ext.al)
  have b0 : Blk W1 (w.heap.size) 28 (TV.cs ⟨0, f, l, g, x, .slice ka n kc⟩) := by rw [hW]; exact Blk.newAt rfl
  clear hW
  obtain ⟨r0, hr0⟩ : ∃ r, r = w.heap.size := ⟨_, rfl⟩
  rw [← hr0] at b0
  try rw [← hr0]
  have q0 : w.heap.size ≤ r0 := by omega
  clear hr0
  have qz : r0 < W1.heap.size := b0.lt
  go_upto_region 1 with fail
  refine wp_region_lit ?_
  refine wpList_plain rfl (fun K hK => ?_); go_simp; (try dsimp only); refine hK _ _ ?_; clear hK K; (try simp only [Act.put, Zs, Zz, Zc])
  refine wpList_plain rfl (fun K hK => ?_); have zc := b0.cell 0; go_simp; clear zc; (try simp only [beq_self_eq_true, h0, h1, h2, h3, h4, h6]); (try dsimp only); refine hK _ _ ?_; clear hK K; (try simp only [Act.put, Zs, Zz, Zc])
  refine wpList_plain rfl (fun K hK => ?_); go_simp; (try simp (disch := omega) only [Yq, Yr]); (try simp only [beq_self_eq_true, h0, h1, h2, h3, h4, h6]); (try dsimp only); refine hK _ _ ?_; clear hK K; (try simp only [Act.put, Zs, Zz, Zc])
  refine wpList_plain rfl (fun K hK => ?_); go_simp; (try dsimp only); refine hK _ _ ?_; clear hK K; (try simp only [Act.put, Zs, Zz, Zc])
  refine wpList_step (fun K hK => ?_); rw [if_pos (by rfl)]; go_simp; (try dsimp only); refine hK _ _ ?_; clear hK K; (try simp only [Act.put, Zs, Zz, Zc])
  refine wpList_step (fun K hK => ?_); rw [if_pos (by rfl)]; have zc := b0.cell 1; go_simp; clear zc; (try simp only [beq_self_eq_true, h0, h1, h2, h3, h4, h6]); (try dsimp only); refine hK _ _ ?_; clear hK K; (try simp only [Act.put, Zs, Zz, Zc])
  refine wpList_step (fun K hK => ?_); rw [if_pos (by rfl)]; go_simp; (try simp (disch := omega) only [Yq, Yr]); (try simp only [beq_self_eq_true, h0, h1, h2, h3, h4, h6]); (try dsimp only); refine hK _ _ ?_; clear hK K; (try simp only [Act.put, Zs, Zz, Zc])
  iterate 2 (refine wpList_plain rfl (fun K hK => ?_); go_simp; (try dsimp only); refine hK _ _ ?_; clear hK K; (try simp only [Act.put, Zs, Zz, Zc]))
  refine wpList_step (fun K hK => ?_); rw [if_pos (by rfl)]; go_simp; (try dsimp only); refine hK _ _ ?_; clear hK K; (try simp only [Act.put, Zs, Zz, Zc])
  refine wpList_step (fun K hK => ?_); rw [if_pos (by rfl)]; have zc := b0.cell 2; go_simp; clear zc; (try simp only [beq_self_eq_true, h0, h1, h2, h3, h4, h6]); (try dsimp only); refine hK _ _ ?_; clear hK K; (try simp only [Act.put, Zs, Zz, Zc])
  refine wpList_step (fun K hK => ?_); rw [if_pos (by rfl)]; go_simp; (try simp (disch := omega) only [Yq, Yr]); (try simp only [beq_self_eq_true, h0, h1, h2, h3, h4, h6]); (try dsimp only); refine hK _ _ ?_; clear hK K; (try simp only [Act.put, Zs, Zz, Zc])
  iterate 2 (refine wpList_plain rfl (fun K hK => ?_); go_simp; (try dsimp only); refine hK _ _ ?_; clear hK K; (try simp only [Act.put, Zs, Zz, Zc]))
  refine wpList_step (fun K hK => ?_); rw [if_pos (by rfl)]; go_simp; (try dsimp only); refine hK _ _ ?_; clear hK K; (try simp only [Act.put, Zs, Zz, Zc])
  refine wpList_step (fun K hK => ?_); rw [if_pos (by rfl)]; have zc := b0.cell 3; go_simp; clear zc; (try simp only [beq_self_eq_true, h0, h1, h2, h3, h4, h6]); (try dsimp only); refine hK _ _ ?_; clear hK K; (try simp only [Act.put, Zs, Zz, Zc])
  refine wpList_step (fun K hK => ?_); rw [if_pos (by rfl)]; go_simp; (try simp (disch := omega) only [Yq, Yr]); (try simp only [beq_self_eq_true, h0, h1, h2, h3, h4, h6]); (try dsimp only); refine hK _ _ ?_; clear hK K; (try simp only [Act.put, Zs, Zz, Zc])
  iterate 2 (refine wpList_plain rfl (fun K hK => ?_); go_simp; (try dsimp only); refine hK _ _ ?_; clear hK K; (try simp only [Act.put, Zs, Zz, Zc]))
  refine wpList_step (fun K hK => ?_); rw [if_pos (by rfl)]; go_simp; (try dsimp only); refine hK _ _ ?_; clear hK K; (try simp only [Act.put, Zs, Zz, Zc])
  refine wpList_step (fun K hK => ?_); rw [if_pos (by rfl)]; (first | (refine wp_ld 25 _ (Blk.rgn b0) (by rfl) (by rfl) Try.underlying25 rfl (by exact Try.infoR) ?_)); (try dsimp only); refine hK _ _ ?_; clear hK K; (try simp only [Act.put, Zs, Zz, Zc])
  refine wpList_step (fun K hK => ?_); rw [if_pos (by rfl)]; go_simp; (try dsimp only); refine hK _ _ ?_; clear hK K; (try simp only [Act.put, Zs, Zz, Zc])
  refine wpList_step (fun K hK => ?_); rw [if_pos (by rfl)]; (first | refine wp_eqlR _ _ (by rfl) (by rfl) (by rfl) ?_ | refine wp_eqlR (v := RV.z) _ _ (by rfl) (by rfl) (by rfl) ?_); (try simp only [beq_self_eq_true, h0, h1, h2, h3, h4, h6]); (try dsimp only); refine hK _ _ ?_; clear hK K; (try simp only [Act.put, Zs, Zz, Zc])
  iterate 2 (refine wpList_plain rfl (fun K hK => ?_); go_simp; (try dsimp only); refine hK _ _ ?_; clear hK K; (try simp only [Act.put, Zs, Zz, Zc]))
  refine wpList_step (fun K hK => ?_); rw [if_pos (by rfl)]; go_simp; (try dsimp only); refine hK _ _ ?_; clear hK K; (try simp only [Act.put, Zs, Zz, Zc])
  refine wpList_step (fun K hK => ?_); rw [if_pos (by rfl)]; have zc := b0.cell 10; go_simp; clear zc; (try simp only [beq_self_eq_true, h0, h1, h2, h3, h4, h6]); (try dsimp only); refine hK _ _ ?_; clear hK K; (try simp only [Act.put, Zs, Zz, Zc])
  refine wpList_step (fun K hK => ?_); rw [if_pos (by rfl)]; go_simp; (try dsimp only); refine hK _ _ ?_; clear hK K; (try simp only [Act.put, Zs, Zz, Zc])
  refine wpList_step (fun K hK => ?_); rw [if_pos (by rfl)]; go_simp; (try simp (disch := omega) only [Yq, Yr]); (try simp only [beq_self_eq_true, h0, h1, h2, h3, h4, h6]); (try dsimp only); refine hK _ _ ?_; clear hK K; (try simp only [Act.put, Zs, Zz, Zc])
  iterate 2 (refine wpList_plain rfl (fun K hK => ?_); go_simp; (try dsimp only); refine hK _ _ ?_; clear hK K; (try simp only [Act.put, Zs, Zz, Zc]))
  refine wpList_nil ?_
  go_wp2_with fail
  go_ret
  exact ⟨rfl, hE⟩

set_option maxRecDepth 100000 in
set_option maxHeartbeats 4000000 in
theorem rnone_5 (f l g : Int) (x : RV) (ka : Option Addr) (n kc : Nat) (w : World) (h0 : (f == 0) = true) (h1 : (l == 0) = true) (h2 : (g == 0) = true) (h3 : (eqR x RV.z) = true) (h4 : (n == 0) = true) :
    Calls Try.prog 59 #[.agg (TV.cs ⟨0, f, l, g, x, .slice ka n kc⟩).toArray] w fun e w' => e = .returned (.bool true) ∧ Ext w w' := by
  have h6 : ((n : Int) == 0) = true := by simpa using h4
  go_enter Try.func59, Try.ntmps59
  go_upto_region 1 with fail
  refine name_wX (fun W1 hW => ?_)
  have hE : Ext w W1 := by rw [hW]; repeat' (first | exact Ext.refl _ | apply Ext.al)
  have b0 : Blk W1 (w.heap.size) 28 (TV.cs ⟨0, f, l, g, x, .slice ka n kc⟩) := by rw [hW]; exact Blk.newAt rfl
  clear hW
  obtain ⟨r0, hr0⟩ : ∃ r, r = w.heap.size := ⟨_, rfl⟩
  rw [← hr0] at b0
  try rw [← hr0]
  have q0 : w.heap.size ≤ r0 := by omega
  clear hr0
  have qz : r0 < W1.heap.size := b0.lt
  go_upto_region 1 with fail
  refine wp_region_lit ?_
  refine wpList_plain rfl (fun K hK => ?_); go_simp; (try dsimp only); refine hK _ _ ?_; clear hK K; (try simp only [Act.put, Zs, Zz, Zc])
  refine wpList_plain rfl (fun K hK => ?_); have zc := b0.cell 0; go_simp; clear zc; (try simp only [beq_self_eq_true, h0, h1, h2, h3, h4, h6]); (try dsimp only); refine hK _ _ ?_; clear hK K; (try simp only [Act.put, Zs, Zz, Zc])
  refine wpList_plain rfl (fun K hK => ?_); go_simp; (try simp (disch := omega) only [Yq, Yr]); (try simp only [beq_self_eq_true, h0, h1, h2, h3, h4, h6]); (try dsimp only); refine hK _ _ ?_; clear hK K; (try simp only [Act.put, Zs, Zz, Zc])
  refine wpList_plain rfl (fun K hK => ?_); go_simp; (try dsimp only); refine hK _ _ ?_; clear hK K; (try simp only [Act.put, Zs, Zz, Zc])
  refine wpList_step (fun K hK => ?_); rw [if_pos (by rfl)]; go_simp; (try dsimp only); refine hK _ _ ?_; clear hK K; (try simp only [Act.put, Zs, Zz, Zc])
  refine wpList_step (fun K hK => ?_); rw [if_pos (by rfl)]; have zc := b0.cell 1; go_simp; clear zc; (try simp only [beq_self_eq_true, h0, h1, h2, h3, h4, h6]); (try dsimp only); refine hK _ _ ?_; clear hK K; (try simp only [Act.put, Zs, Zz, Zc])
  refine wpList_step (fun K hK => ?_); rw [if_pos (by rfl)]; go_simp; (try simp (disch := omega) only [Yq, Yr]); (try simp only [beq_self_eq_true, h0, h1, h2, h3, h4, h6]); (try dsimp only); refine hK _ _ ?_; clear hK K; (try simp only [Act.put, Zs, Zz, Zc])
  iterate 2 (refine wpList_plain rfl (fun K hK => ?_); go_simp; (try dsimp only); refine hK _ _ ?_; clear hK K; (try simp only [Act.put, Zs, Zz, Zc]))
  refine wpList_step (fun K hK => ?_); rw [if_pos (by rfl)]; go_simp; (try dsimp only); refine hK _ _ ?_; clear hK K; (try simp only [Act.put, Zs, Zz, Zc])
  refine wpList_step (fun K hK => ?_); rw [if_pos (by rfl)]; have zc := b0.cell 2; go_simp; clear zc; (try simp only [beq_self_eq_true, h0, h1, h2, h3, h4, h6]); (try dsimp only); refine hK _ _ ?_; clear hK K; (try simp only [Act.put, Zs, Zz, Zc])
  refine wpList_step (fun K hK => ?_); rw [if_pos (by rfl)]; go_simp; (try simp (disch := omega) only [Yq, Yr]); (try simp only [beq_self_eq_true, h0, h1, h2, h3, h4, h6]); (try dsimp only); refine hK _ _ ?_; clear hK K; (try simp only [Act.put, Zs, Zz, Zc])
  iterate 2 (refine wpList_plain rfl (fun K hK => ?_); go_simp; (try dsimp only); refine hK _ _ ?_; clear hK K; (try simp only [Act.put, Zs, Zz, Zc]))
  refine wpList_step (fun K hK => ?_); rw [if_pos (by rfl)]; go_simp; (try dsimp only); refine hK _ _ ?_; clear hK K; (try simp only [Act.put, Zs, Zz, Zc])
  refine wpList_step (fun K hK => ?_); rw [if_pos (by rfl)]; have zc := b0.cell 3; go_simp; clear zc; (try simp only [beq_self_eq_true, h0, h1, h2, h3, h4, h6]); (try dsimp only); refine hK _ _ ?_; clear hK K; (try simp only [Act.put, Zs, Zz, Zc])
  refine wpList_step (fun K hK => ?_); rw [if_pos (by rfl)]; go_simp; (try simp (disch := omega) only [Yq, Yr]); (try simp only [beq_self_eq_true, h0, h1, h2, h3, h4, h6]); (try dsimp only); refine hK _ _ ?_; clear hK K; (try simp only [Act.put, Zs, Zz, Zc])
  iterate 2 (refine wpList_plain rfl (fun K hK => ?_); go_simp; (try dsimp only); refine hK _ _ ?_; clear hK K; (try simp only [Act.put, Zs, Zz, Zc]))
  refine wpList_step (fun K hK => ?_); rw [if_pos (by rfl)]; go_simp; (try dsimp only); refine hK _ _ ?_; clear hK K; (try simp only [Act.put, Zs, Zz, Zc])
  refine wpList_step (fun K hK => ?_); rw [if_pos (by rfl)]; (first | (refine wp_ld 25 _ (Blk.rgn b0) (by rfl) (by rfl) Try.underlying25 rfl (by exact Try.infoR) ?_)); (try dsimp only); refine hK _ _ ?_; clear hK K; (try simp only [Act.put, Zs, Zz, Zc])
  refine wpList_step (fun K hK => ?_); rw [if_pos (by rfl)]; go_simp; (try dsimp only); refine hK _ _ ?_; clear hK K; (try simp only [Act.put, Zs, Zz, Zc])
  refine wpList_step (fun K hK => ?_); rw [if_pos (by rfl)]; (first | refine wp_eqlR _ _ (by rfl) (by rfl) (by rfl) ?_ | refine wp_eqlR (v := RV.z) _ _ (by rfl) (by rfl) (by rfl) ?_); (try simp only [beq_self_eq_true, h0, h1, h2, h3, h4, h6]); (try dsimp only); refine hK _ _ ?_; clear hK K; (try simp only [Act.put, Zs, Zz, Zc])
  iterate 2 (refine wpList_plain rfl (fun K hK => ?_); go_simp; (try dsimp only); refine hK _ _ ?_; clear hK K; (try simp only [Act.put, Zs, Zz, Zc]))
  refine wpList_step (fun K hK => ?_); rw [if_pos (by rfl)]; go_simp; (try dsimp only); refine hK _ _ ?_; clear hK K; (try simp only [Act.put, Zs, Zz, Zc])
  refine wpList_step (fun K hK => ?_); rw [if_pos (by rfl)]; have zc := b0.cell 10; go_simp; clear zc; (try simp only [beq_self_eq_true, h0, h1, h2, h3, h4, h6]); (try dsimp only); refine hK _ _ ?_; clear hK K; (try simp only [Act.put, Zs, Zz, Zc])
  refine wpList_step (fun K hK => ?_); rw [if_pos (by rfl)]; go_simp; (try dsimp only); refine hK _ _ ?_; clear hK K; (try simp only [Act.put, Zs, Zz, Zc])
  refine wpList_step (fun K hK => ?_); rw [if_pos (by rfl)]; go_simp; (try simp (disch := omega) only [Yq, Yr]); (try simp only [beq_self_eq_true, h0, h1, h2, h3, h4, h6]); (try dsimp only); refine hK _ _ ?_; clear hK K; (try simp only [Act.put, Zs, Zz, Zc])
  iterate 2 (refine wpList_plain rfl (fun K hK => ?_); go_simp; (try dsimp only); refine hK _ _ ?_; clear hK K; (try simp only [Act.put, Zs, Zz, Zc]))
  refine wpList_nil ?_
  go_wp2_with fail
  go_ret
  exact ⟨rfl, hE⟩

theorem rnone_any (f l g : Int) (x : RV) (ka : Option Addr) (n kc : Nat) (w : World) :
    Calls Try.prog 59 #[.agg (TV.cs ⟨0, f, l, g, x, .slice ka n kc⟩).toArray] w fun e w' => e = .returned (.bool (fm0 f l g x n)) ∧ Ext w w' := by
  unfold fm0
  cases h0 : (f == 0) with
  | false => exact rnone_0 f l g x ka n kc w h0
  | true =>
    cases h1 : (l == 0) with
    | false => exact rnone_1 f l g x ka n kc w h0 h1
    | true =>
      cases h2 : (g == 0) with
      | false => exact rnone_2 f l g x ka n kc w h0 h1 h2
      | true =>
        cases h3 : (eqR x RV.z) with
        | false => exact rnone_3 f l g x ka n kc w h0 h1 h2 h3
        | true =>
          cases h4 : (n == 0) with
          | false => exact rnone_4 f l g x ka n kc w h0 h1 h2 h3 h4
          | true =>
            exact rnone_5 f l g x ka n kc w h0 h1 h2 h3 h4

end Go.Proofs.Ytnbohogkfdeddaa

set_option linter.unusedSimpArgs false
set_option linter.unusedVariables false
namespace Go.Proofs.Ytnbohogkfdeddaa
open Go.RowKit

def pFmOK (k : GK) : Prop := ∀ (n0 : Nat) (v : TV) (w : World), n0 ≤ w.heap.size → isKv n0 w k v.k →
  Calls Try.prog 42 #[.agg v.cs.toArray] w fun e w' => e = .returned (.bool (fm1 v.h v.f v.l v.g v.x k.len (fmL k))) ∧ Ext w w'
theorem pfm_is {k : GK} (h : pFmOK k) (n0 : Nat) (v : TV) (w : World) (hn : n0 ≤ w.heap.size) (hk : isKv n0 w k v.k) (b : Bool) (hb : fm1 v.h v.f v.l v.g v.x k.len (fmL k) = b) :
    Calls Try.prog 42 #[.agg v.cs.toArray] w fun e w' => e = .returned (.bool b) ∧ Ext w w' := by
  subst hb
  exact h n0 v w hn hk
set_option maxRecDepth 100000 in
set_option maxHeartbeats 4000000 in
theorem pfm_z (k : GK) (ih : AllK pFmOK k) (n0 : Nat) (v : TV) (w : World) (hn : n0 ≤ w.heap.size) (hk : isKv n0 w k v.k) (hh : v.h = 0) :
    Calls Try.prog 42 #[.agg v.cs.toArray] w fun e w' => e = .returned (.bool (fm1 v.h v.f v.l v.g v.x k.len (fmL k))) ∧ Ext w w' := by
  obtain ⟨ka, kc, hkv⟩ := hk.shape
  obtain ⟨vh, vf, vl, vg, vx, vk⟩ := v
  dsimp only at *
  subst hkv hh
  unfold fm1
  rw [if_pos rfl]
  clear hk ih
  go_enter Try.func42, Try.ntmps42
  go_upto_region 1 with fail
  refine name_wX (fun W1 hW => ?_)
  have hE : Ext w W1 := by rw [hW]; repeat' (first | exact Ext.refl _ | apply Ext.al)
  have b0 : Blk W1 (w.heap.size) 28 (TV.cs ⟨0, vf, vl, vg, vx, .slice ka k.len kc⟩) := by rw [hW]; exact Blk.newAt rfl
  clear hW
  obtain ⟨r0, hr0⟩ : ∃ r, r = w.heap.size := ⟨_, rfl⟩
  rw [← hr0] at b0
  try rw [← hr0]
  have q0 : w.heap.size ≤ r0 := by omega
  clear hr0
  have qz : r0 < W1.heap.size := b0.lt
  go_upto_region 1 with fail
  refine wp_region_lit ?_
  refine wpList_plain rfl (fun K hK => ?_); go_simp; (try dsimp only); refine hK _ _ ?_; clear hK K; (try simp only [Act.put, Zs, Zz, Zc])
  refine wpList_plain rfl (fun K hK => ?_); have zc := b0.cell 0; go_simp; clear zc; (try simp only [beq_self_eq_true]); (try dsimp only); refine hK _ _ ?_; clear hK K; (try simp only [Act.put, Zs, Zz, Zc])
  refine wpList_plain rfl (fun K hK => ?_); go_simp; (try simp (disch := omega) only [Yq, Yr]); (try simp only [beq_self_eq_true]); (try dsimp only); refine hK _ _ ?_; clear hK K; (try simp only [Act.put, Zs, Zz, Zc])
  refine wpList_nil ?_
  go_upto_region 2 with fail
  refine wp_region_lit ?_
  refine wpList_plain rfl (fun K hK => ?_); (first | (refine wp_ld 28 _ (b0.range) (by rfl) (by rfl) Try.underlying28 rfl (by exact Try.infoT) ?_)); (try dsimp only); refine hK _ _ ?_; clear hK K; (try simp only [Act.put, Zs, Zz, Zc])
  refine wpList_plain rfl (fun K hK => ?_); go_simp; (go_at_call 57; refine (pnone_any vf vl vg vx ka k.len kc _).mono ?_; intro e W2 hpp; obtain ⟨rfl, hx⟩ := hpp); (try dsimp only); refine hK _ _ ?_; clear hK K; (try simp only [Act.put, Zs, Zz, Zc])
  replace b0 := b0.ext hx
  replace hE := hE.trans hx
  clear hx
  replace qz : r0 < W2.heap.size := b0.lt
  refine wpList_plain rfl (fun K hK => ?_); go_simp; (try dsimp only); refine hK _ _ ?_; clear hK K; (try simp only [Act.put, Zs, Zz, Zc])
  refine wpList_nil ?_
  go_wp2_with fail
  go_ret
  exact ⟨rfl, hE⟩

set_option maxRecDepth 100000 in
set_option maxHeartbeats 4000000 in
theorem pfm_n (k : GK) (ih : AllK pFmOK k) (n0 : Nat) (v : TV) (w : World) (hn : n0 ≤ w.heap.size) (hk : isKv n0 w k v.k) (hh : v.h ≠ 0) (h2 : k.len ≠ 2) :
    Calls Try.prog 42 #[.agg v.cs.toArray] w fun e w' => e = .returned (.bool (fm1 v.h v.f v.l v.g v.x k.len (fmL k))) ∧ Ext w w' := by
  obtain ⟨ka, kc, hkv⟩ := hk.shape
  obtain ⟨vh, vf, vl, vg, vx, vk⟩ := v
  dsimp only at *
  subst hkv
  have hF : fm1 vh vf vl vg vx k.len (fmL k) = false := by unfold fm1; rw [if_neg hh]; simp [h2]
  rw [hF]
  have hb1 : (vh == 0) = false := by simpa using hh
  have hb2 : ((k.len : Int) == 2) = false := by simp; omega
  have hb3 : (k.len == 2) = false := by simpa using h2
  clear hk ih hF
  go_enter Try.func42, Try.ntmps42
  go_upto_region 1 with fail
  refine name_wX (fun W1 hW => ?_)
  have hE : Ext w W1 := by rw [hW]; repeat' (first | exact Ext.refl _ | apply Ext.al)
  have b0 : Blk W1 (w.heap.size) 28 (TV.cs ⟨vh, vf, vl, vg, vx, .slice ka k.len kc⟩) := by rw [hW]; exact Blk.newAt rfl
  clear hW
  obtain ⟨r0, hr0⟩ : ∃ r, r = w.heap.size := ⟨_, rfl⟩
  rw [← hr0] at b0
  try rw [← hr0]
  have q0 : w.heap.size ≤ r0 := by omega
  clear hr0
  have qz : r0 < W1.heap.size := b0.lt
  go_upto_region 1 with fail
  refine wp_region_lit ?_
  refine wpList_plain rfl (fun K hK => ?_); go_simp; (try dsimp only); refine hK _ _ ?_; clear hK K; (try simp only [Act.put, Zs, Zz, Zc])
  refine wpList_plain rfl (fun K hK => ?_); have zc := b0.cell 0; go_simp; clear zc; (try simp only [hb1]); (try dsimp only); refine hK _ _ ?_; clear hK K; (try simp only [Act.put, Zs, Zz, Zc])
  refine wpList_plain rfl (fun K hK => ?_); go_simp; (try simp (disch := omega) only [Yq, Yr]); (try simp only [hb1]); (try dsimp only); refine hK _ _ ?_; clear hK K; (try simp only [Act.put, Zs, Zz, Zc])
  refine wpList_nil ?_
  go_upto_region 3 with fail
  refine wp_region_lit ?_
  refine wpList_plain rfl (fun K hK => ?_); go_simp; (try dsimp only); refine hK _ _ ?_; clear hK K; (try simp only [Act.put, Zs, Zz, Zc])
  refine wpList_plain rfl (fun K hK => ?_); have zc := b0.cell 10; go_simp; clear zc; (try simp only [hb2, hb3]); (try dsimp only); refine hK _ _ ?_; clear hK K; (try simp only [Act.put, Zs, Zz, Zc])
  refine wpList_plain rfl (fun K hK => ?_); go_simp; (try dsimp only); refine hK _ _ ?_; clear hK K; (try simp only [Act.put, Zs, Zz, Zc])
  refine wpList_plain rfl (fun K hK => ?_); go_simp; (try simp (disch := omega) only [Yq, Yr]); (try simp only [hb2, hb3]); (try dsimp only); refine hK _ _ ?_; clear hK K; (try simp only [Act.put, Zs, Zz, Zc])
  refine wpList_plain rfl (fun K hK => ?_); go_simp; (try dsimp only); refine hK _ _ ?_; clear hK K; (try simp only [Act.put, Zs, Zz, Zc])
  iterate 5 (refine wpList_step (fun K hK => ?_); rw [if_neg (by exact Bool.false_ne_true)]; (try dsimp only); refine hK _ _ ?_; clear hK K; (try simp only [Act.put, Zs, Zz, Zc]))
  iterate 2 (refine wpList_plain rfl (fun K hK => ?_); go_simp; (try dsimp only); refine hK _ _ ?_; clear hK K; (try simp only [Act.put, Zs, Zz, Zc]))
  iterate 5 (refine wpList_step (fun K hK => ?_); rw [if_neg (by exact Bool.false_ne_true)]; (try dsimp only); refine hK _ _ ?_; clear hK K; (try simp only [Act.put, Zs, Zz, Zc]))
  iterate 2 (refine wpList_plain rfl (fun K hK => ?_); go_simp; (try dsimp only); refine hK _ _ ?_; clear hK K; (try simp only [Act.put, Zs, Zz, Zc]))
  refine wpList_nil ?_
  go_wp2_with fail
  go_ret
  exact ⟨rfl, hE⟩

set_option maxRecDepth 100000 in
set_option maxHeartbeats 4000000 in
theorem pfm_f (h0 f0 l0 g0 : Int) (x0 : RV) (k0 : GK) (h1 f1 l1 g1 : Int) (x1 : RV) (k1 : GK) (ih0 : pFmOK k0) (ih1 : pFmOK k1) (n0 : Nat) (v : TV) (w : World) (hn : n0 ≤ w.heap.size) (hk : isKv n0 w (.cons h0 f0 l0 g0 x0 k0 (.cons h1 f1 l1 g1 x1 k1 .nil)) v.k) (hh : v.h ≠ 0) (c0 : fm1 h0 f0 l0 g0 x0 k0.len (fmL k0) = false) :
    Calls Try.prog 42 #[.agg v.cs.toArray] w fun e w' => e = .returned (.bool (false)) ∧ Ext w w' := by
  have hb1 : (v.h == 0) = false := by simpa using hh
  rcases hk with ⟨h2, _⟩ | ⟨b, o, c, hv, h3, h4, hm, h5, h6⟩
  · simp [GK.len] at h2
  obtain ⟨⟨v0, ra0, kv0⟩, h7⟩ := isK_cons.1 h6
  obtain ⟨⟨v1, ra1, kv1⟩, _⟩ := isK_cons.1 h7
  obtain ⟨vh, vf, vl, vg, vx, vk⟩ := v
  dsimp only at *
  subst hv
  simp only [GK.len] at h4
  have hcI : (2 : Int) ≤ (c : Int) := by omega
  have hbw : b < w.heap.size := by omega
  have hb2 : ((2 : Int) == 2) = true := by decide
  replace ih0 : Hid _ := ih0
  replace ih1 : Hid _ := ih1
  replace kv0 : Hid _ := kv0
  replace kv1 : Hid _ := kv1
  replace c0 : Hid _ := c0
  clear h6 h7 hh
  go_enter Try.func42, Try.ntmps42
  go_upto_region 1 with fail
  refine name_wX (fun W1 hW => ?_)
  have hE : Ext w W1 := by rw [hW]; repeat' (first | exact Ext.refl _ | apply Ext.al)
  have b0 : Blk W1 (w.heap.size) 28 (TV.cs ⟨vh, vf, vl, vg, vx, .slice (some ⟨b, o, none⟩) 2 c⟩) := by rw [hW]; exact Blk.newAt rfl
  clear hW
  obtain ⟨r0, hr0⟩ : ∃ r, r = w.heap.size := ⟨_, rfl⟩
  rw [← hr0] at b0
  try rw [← hr0]
  have q0 : w.heap.size ≤ r0 := by omega
  clear hr0
  have qz : r0 < W1.heap.size := b0.lt
  replace kv0 := hid_mk (isKv.ext kv0.out hn hE)
  replace kv1 := hid_mk (isKv.ext kv1.out hn hE)
  replace ra0 := rangeAt.ext ra0 hbw hE
  replace ra1 := rangeAt.ext ra1 hbw hE
  replace hbw := Nat.lt_of_lt_of_le hbw hE.below.size
  replace hn := Nat.le_trans hn hE.below.size
  go_upto_region 1 with fail
  refine wp_region_lit ?_
  refine wpList_plain rfl (fun K hK => ?_); go_simp; (try dsimp only); refine hK _ _ ?_; clear hK K; (try simp only [Act.put, Zs, Zz, Zc])
  refine wpList_plain rfl (fun K hK => ?_); have zc := b0.cell 0; go_simp; clear zc; (try simp only [hb1]); (try dsimp only); refine hK _ _ ?_; clear hK K; (try simp only [Act.put, Zs, Zz, Zc])
  refine wpList_plain rfl (fun K hK => ?_); go_simp; (try simp (disch := omega) only [Yq, Yr]); (try simp only [hb1]); (try dsimp only); refine hK _ _ ?_; clear hK K; (try simp only [Act.put, Zs, Zz, Zc])
  refine wpList_nil ?_
  go_upto_region 3 with fail
  refine wp_region_lit ?_
  refine wpList_plain rfl (fun K hK => ?_); go_simp; (try dsimp only); refine hK _ _ ?_; clear hK K; (try simp only [Act.put, Zs, Zz, Zc])
  refine wpList_plain rfl (fun K hK => ?_); have zc := b0.cell 10; go_simp; clear zc; (try simp only [hb2, beq_self_eq_true]); (try dsimp only); refine hK _ _ ?_; clear hK K; (try simp only [Act.put, Zs, Zz, Zc])
  refine wpList_plain rfl (fun K hK => ?_); go_simp; (try dsimp only); refine hK _ _ ?_; clear hK K; (try simp only [Act.put, Zs, Zz, Zc])
  refine wpList_plain rfl (fun K hK => ?_); go_simp; (try simp (disch := omega) only [Yq, Yr]); (try simp only [hb2, beq_self_eq_true]); (try dsimp only); refine hK _ _ ?_; clear hK K; (try simp only [Act.put, Zs, Zz, Zc])
  refine wpList_plain rfl (fun K hK => ?_); go_simp; (try dsimp only); refine hK _ _ ?_; clear hK K; (try simp only [Act.put, Zs, Zz, Zc])
  refine wpList_step (fun K hK => ?_); rw [if_pos (by rfl)]; go_simp; (try dsimp only); refine hK _ _ ?_; clear hK K; (try simp only [Act.put, Zs, Zz, Zc])
  refine wpList_step (fun K hK => ?_); rw [if_pos (by rfl)]; have zc := b0.cell 10; go_simp; clear zc; (try simp only [hb2, beq_self_eq_true]); (try dsimp only); refine hK _ _ ?_; clear hK K; (try simp only [Act.put, Zs, Zz, Zc])
  refine wpList_step (fun K hK => ?_); rw [if_pos (by rfl)]; go_simp; (try dsimp only); refine hK _ _ ?_; clear hK K; (try simp only [Act.put, Zs, Zz, Zc])
  refine wpList_step (fun K hK => ?_); rw [if_pos (by rfl)]; (first | (refine wp_ld 28 _ (ra0) (by rfl) (by rfl) Try.underlying28 rfl (by exact Try.infoT) ?_) | (refine wp_ld 28 _ (ra1) (by rfl) (by rfl) Try.underlying28 rfl (by exact Try.infoT) ?_)); (try dsimp only); refine hK _ _ ?_; clear hK K; (try simp only [Act.put, Zs, Zz, Zc])
  refine wpList_step (fun K hK => ?_); rw [if_pos (by rfl)]; go_simp; (go_at_call 42; refine (pfm_is ih0.out n0 ⟨h0, f0, l0, g0, x0, v0⟩ _ hn kv0.out false c0.out).mono ?_; intro e W2 hpp; obtain ⟨rfl, hx⟩ := hpp); (try dsimp only); refine hK _ _ ?_; clear hK K; (try simp only [Act.put, Zs, Zz, Zc])
  replace b0 := b0.ext hx
  replace kv0 := hid_mk (isKv.ext kv0.out hn hx)
  replace kv1 := hid_mk (isKv.ext kv1.out hn hx)
  replace ra0 := rangeAt.ext ra0 hbw hx
  replace ra1 := rangeAt.ext ra1 hbw hx
  replace hbw := Nat.lt_of_lt_of_le hbw hx.below.size
  replace hn := Nat.le_trans hn hx.below.size
  replace hE := hE.trans hx
  clear hx
  replace qz : r0 < W2.heap.size := b0.lt
  iterate 2 (refine wpList_plain rfl (fun K hK => ?_); go_simp; (try dsimp only); refine hK _ _ ?_; clear hK K; (try simp only [Act.put, Zs, Zz, Zc]))
  iterate 5 (refine wpList_step (fun K hK => ?_); rw [if_neg (by exact Bool.false_ne_true)]; (try dsimp only); refine hK _ _ ?_; clear hK K; (try simp only [Act.put, Zs, Zz, Zc]))
  iterate 2 (refine wpList_plain rfl (fun K hK => ?_); go_simp; (try dsimp only); refine hK _ _ ?_; clear hK K; (try simp only [Act.put, Zs, Zz, Zc]))
  refine wpList_nil ?_
  go_wp2_with fail
  go_ret
  exact ⟨rfl, hE⟩

set_option maxRecDepth 100000 in
set_option maxHeartbeats 4000000 in
theorem pfm_t (h0 f0 l0 g0 : Int) (x0 : RV) (k0 : GK) (h1 f1 l1 g1 : Int) (x1 : RV) (k1 : GK) (ih0 : pFmOK k0) (ih1 : pFmOK k1) (n0 : Nat) (v : TV) (w : World) (hn : n0 ≤ w.heap.size) (hk : isKv n0 w (.cons h0 f0 l0 g0 x0 k0 (.cons h1 f1 l1 g1 x1 k1 .nil)) v.k) (hh : v.h ≠ 0) (c0 : fm1 h0 f0 l0 g0 x0 k0.len (fmL k0) = true) :
    Calls Try.prog 42 #[.agg v.cs.toArray] w fun e w' => e = .returned (.bool (fm1 h1 f1 l1 g1 x1 k1.len (fmL k1))) ∧ Ext w w' := by
  have hb1 : (v.h == 0) = false := by simpa using hh
  rcases hk with ⟨h2, _⟩ | ⟨b, o, c, hv, h3, h4, hm, h5, h6⟩
  · simp [GK.len] at h2
  obtain ⟨⟨v0, ra0, kv0⟩, h7⟩ := isK_cons.1 h6
  obtain ⟨⟨v1, ra1, kv1⟩, _⟩ := isK_cons.1 h7
  obtain ⟨vh, vf, vl, vg, vx, vk⟩ := v
  dsimp only at *
  subst hv
  simp only [GK.len] at h4
  have hcI : (2 : Int) ≤ (c : Int) := by omega
  have hbw : b < w.heap.size := by omega
  have hb2 : ((2 : Int) == 2) = true := by decide
  replace ih0 : Hid _ := ih0
  replace ih1 : Hid _ := ih1
  replace kv0 : Hid _ := kv0
  replace kv1 : Hid _ := kv1
  replace c0 : Hid _ := c0
  clear h6 h7 hh
  go_enter Try.func42, Try.ntmps42
  go_upto_region 1 with fail
  refine name_wX (fun W1 hW => ?_)
  have hE : Ext w W1 := by rw [hW]; repeat' (first | exact Ext.refl _ | apply Ext.al)
  have b0 : Blk W1 (w.heap.size) 28 (TV.cs ⟨vh, vf, vl, vg, vx, .slice (some ⟨b, o, none⟩) 2 c⟩) := by rw [hW]; exact Blk.newAt rfl
  clear hW
  obtain ⟨r0, hr0⟩ : ∃ r, r = w.heap.size := ⟨_, rfl⟩
  rw [← hr0] at b0
  try rw [← hr0]
  have q0 : w.heap.size ≤ r0 := by omega
  clear hr0
  have qz : r0 < W1.heap.size := b0.lt
  replace kv0 := hid_mk (isKv.ext kv0.out hn hE)
  replace kv1 := hid_mk (isKv.ext kv1.out hn hE)
  replace ra0 := rangeAt.ext ra0 hbw hE
  replace ra1 := rangeAt.ext ra1 hbw hE
  replace hbw := Nat.lt_of_lt_of_le hbw hE.below.size
  replace hn := Nat.le_trans hn hE.below.size
  go_upto_region 1 with fail
  refine wp_region_lit ?_
  refine wpList_plain rfl (fun K hK => ?_); go_simp; (try dsimp only); refine hK _ _ ?_; clear hK K; (try simp only [Act.put, Zs, Zz, Zc])
  refine wpList_plain rfl (fun K hK => ?_); have zc := b0.cell 0; go_simp; clear zc; (try simp only [hb1]); (try dsimp only); refine hK _ _ ?_; clear hK K; (try simp only [Act.put, Zs, Zz, Zc])
  refine wpList_plain rfl (fun K hK => ?_); go_simp; (try simp (disch := omega) only [Yq, Yr]); (try simp only [hb1]); (try dsimp only); refine hK _ _ ?_; clear hK K; (try simp only [Act.put, Zs, Zz, Zc])
  refine wpList_nil ?_
  go_upto_region 3 with fail
  refine wp_region_lit ?_
  refine wpList_plain rfl (fun K hK => ?_); go_simp; (try dsimp only); refine hK _ _ ?_; clear hK K; (try simp only [Act.put, Zs, Zz, Zc])
  refine wpList_plain rfl (fun K hK => ?_); have zc := b0.cell 10; go_simp; clear zc; (try simp only [hb2, beq_self_eq_true]); (try dsimp only); refine hK _ _ ?_; clear hK K; (try simp only [Act.put, Zs, Zz, Zc])
  refine wpList_plain rfl (fun K hK => ?_); go_simp; (try dsimp only); refine hK _ _ ?_; clear hK K; (try simp only [Act.put, Zs, Zz, Zc])
  refine wpList_plain rfl (fun K hK => ?_); go_simp; (try simp (disch := omega) only [Yq, Yr]); (try simp only [hb2, beq_self_eq_true]); (try dsimp only); refine hK _ _ ?_; clear hK K; (try simp only [Act.put, Zs, Zz, Zc])
  refine wpList_plain rfl (fun K hK => ?_); go_simp; (try dsimp only); refine hK _ _ ?_; clear hK K; (try simp only [Act.put, Zs, Zz, Zc])
  refine wpList_step (fun K hK => ?_); rw [if_pos (by rfl)]; go_simp; (try dsimp only); refine hK _ _ ?_; clear hK K; (try simp only [Act.put, Zs, Zz, Zc])
  refine wpList_step (fun K hK => ?_); rw [if_pos (by rfl)]; have zc := b0.cell 10; go_simp; clear zc; (try simp only [hb2, beq_self_eq_true]); (try dsimp only); refine hK _ _ ?_; clear hK K; (try simp only [Act.put, Zs, Zz, Zc])
  refine wpList_step (fun K hK => ?_); rw [if_pos (by rfl)]; go_simp; (try dsimp only); refine hK _ _ ?_; clear hK K; (try simp only [Act.put, Zs, Zz, Zc])
  refine wpList_step (fun K hK => ?_); rw [if_pos (by rfl)]; (first | (refine wp_ld 28 _ (ra0) (by rfl) (by rfl) Try.underlying28 rfl (by exact Try.infoT) ?_) | (refine wp_ld 28 _ (ra1) (by rfl) (by rfl) Try.underlying28 rfl (by exact Try.infoT) ?_)); (try dsimp only); refine hK _ _ ?_; clear hK K; (try simp only [Act.put, Zs, Zz, Zc])
  refine wpList_step (fun K hK => ?_); rw [if_pos (by rfl)]; go_simp; (go_at_call 42; refine (pfm_is ih0.out n0 ⟨h0, f0, l0, g0, x0, v0⟩ _ hn kv0.out true c0.out).mono ?_; intro e W2 hpp; obtain ⟨rfl, hx⟩ := hpp); (try dsimp only); refine hK _ _ ?_; clear hK K; (try simp only [Act.put, Zs, Zz, Zc])
  replace b0 := b0.ext hx
  replace kv0 := hid_mk (isKv.ext kv0.out hn hx)
  replace kv1 := hid_mk (isKv.ext kv1.out hn hx)
  replace ra0 := rangeAt.ext ra0 hbw hx
  replace ra1 := rangeAt.ext ra1 hbw hx
  replace hbw := Nat.lt_of_lt_of_le hbw hx.below.size
  replace hn := Nat.le_trans hn hx.below.size
  replace hE := hE.trans hx
  clear hx
  replace qz : r0 < W2.heap.size := b0.lt
  iterate 2 (refine wpList_plain rfl (fun K hK => ?_); go_simp; (try dsimp only); refine hK _ _ ?_; clear hK K; (try simp only [Act.put, Zs, Zz, Zc]))
  refine wpList_step (fun K hK => ?_); rw [if_pos (by rfl)]; go_simp; (try dsimp only); refine hK _ _ ?_; clear hK K; (try simp only [Act.put, Zs, Zz, Zc])
  refine wpList_step (fun K hK => ?_); rw [if_pos (by rfl)]; have zc := b0.cell 10; go_simp; clear zc; (try simp only [hb2, beq_self_eq_true]); (try dsimp only); refine hK _ _ ?_; clear hK K; (try simp only [Act.put, Zs, Zz, Zc])
  refine wpList_step (fun K hK => ?_); rw [if_pos (by rfl)]; go_simp; (try dsimp only); refine hK _ _ ?_; clear hK K; (try simp only [Act.put, Zs, Zz, Zc])
  refine wpList_step (fun K hK => ?_); rw [if_pos (by rfl)]; (first | (refine wp_ld 28 _ (ra0) (by rfl) (by rfl) Try.underlying28 rfl (by exact Try.infoT) ?_) | (refine wp_ld 28 _ (ra1) (by rfl) (by rfl) Try.underlying28 rfl (by exact Try.infoT) ?_)); (try dsimp only); refine hK _ _ ?_; clear hK K; (try simp only [Act.put, Zs, Zz, Zc])
  refine wpList_step (fun K hK => ?_); rw [if_pos (by rfl)]; go_simp; (go_at_call 42; refine (ih1.out n0 ⟨h1, f1, l1, g1, x1, v1⟩ _ hn kv1.out).mono ?_; intro e W3 hpp; obtain ⟨rfl, hx⟩ := hpp); (try dsimp only); refine hK _ _ ?_; clear hK K; (try simp only [Act.put, Zs, Zz, Zc])
  replace b0 := b0.ext hx
  replace kv0 := hid_mk (isKv.ext kv0.out hn hx)
  replace kv1 := hid_mk (isKv.ext kv1.out hn hx)
  replace ra0 := rangeAt.ext ra0 hbw hx
  replace ra1 := rangeAt.ext ra1 hbw hx
  replace hbw := Nat.lt_of_lt_of_le hbw hx.below.size
  replace hn := Nat.le_trans hn hx.below.size
  replace hE := hE.trans hx
  clear hx
  replace qz : r0 < W3.heap.size := b0.lt
  iterate 2 (refine wpList_plain rfl (fun K hK => ?_); go_simp; (try dsimp only); refine hK _ _ ?_; clear hK K; (try simp only [Act.put, Zs, Zz, Zc]))
  refine wpList_nil ?_
  go_wp2_with fail
  go_ret
  exact ⟨rfl, hE⟩

theorem GK.two {k : GK} (h : k.len = 2) : ∃ h0 f0 l0 g0 x0 k0 h1 f1 l1 g1 x1 k1, k = .cons h0 f0 l0 g0 x0 k0 (.cons h1 f1 l1 g1 x1 k1 .nil) := by
  cases k with
  | nil => simp [GK.len] at h
  | cons h0 f0 l0 g0 x0 k0 r =>
    cases r with
    | nil => simp [GK.len] at h
    | cons h1 f1 l1 g1 x1 k1 q =>
      cases q with
      | nil => exact ⟨_, _, _, _, _, _, _, _, _, _, _, _, rfl⟩
      | cons _ _ _ _ _ _ z => simp [GK.len] at h
theorem pfm_any (k : GK) : pFmOK k := GK.ind (fun k ih n0 v w hn hk => by
    by_cases hh : v.h = 0
    · exact pfm_z k ih n0 v w hn hk hh
    · by_cases h2 : k.len = 2
      · obtain ⟨h0, f0, l0, g0, x0, k0, h1, f1, l1, g1, x1, k1, rfl⟩ := GK.two h2
        · have e : fm1 v.h v.f v.l v.g v.x (GK.cons h0 f0 l0 g0 x0 k0 (.cons h1 f1 l1 g1 x1 k1 .nil)).len (fmL (.cons h0 f0 l0 g0 x0 k0 (.cons h1 f1 l1 g1 x1 k1 .nil))) = (fm1 h0 f0 l0 g0 x0 k0.len (fmL k0) && fm1 h1 f1 l1 g1 x1 k1.len (fmL k1)) := by
            simp [fm1, hh, GK.len, fmL]
          rw [e]
          cases c0 : fm1 h0 f0 l0 g0 x0 k0.len (fmL k0) with
          | false => exact pfm_f h0 f0 l0 g0 x0 k0 h1 f1 l1 g1 x1 k1 ih.1 ih.2.1 n0 v w hn hk hh c0
          | true => rw [Bool.true_and]; exact pfm_t h0 f0 l0 g0 x0 k0 h1 f1 l1 g1 x1 k1 ih.1 ih.2.1 n0 v w hn hk hh c0
      · exact pfm_n k ih n0 v w hn hk hh h2) k
def rFmOK (k : GK) : Prop := ∀ (n0 : Nat) (v : TV) (w : World), n0 ≤ w.heap.size → isKv n0 w k v.k →
  Calls Try.prog 47 #[.agg v.cs.toArray] w fun e w' => e = .returned (.bool (fm1 v.h v.f v.l v.g v.x k.len (fmL k))) ∧ Ext w w'
theorem rfm_is {k : GK} (h : rFmOK k) (n0 : Nat) (v : TV) (w : World) (hn : n0 ≤ w.heap.size) (hk : isKv n0 w k v.k) (b : Bool) (hb : fm1 v.h v.f v.l v.g v.x k.len (fmL k) = b) :
    Calls Try.prog 47 #[.agg v.cs.toArray] w fun e w' => e = .returned (.bool b) ∧ Ext w w' := by
  subst hb
  exact h n0 v w hn hk
set_option maxRecDepth 100000 in
set_option maxHeartbeats 4000000 in
theorem rfm_z (k : GK) (ih : AllK rFmOK k) (n0 : Nat) (v : TV) (w : World) (hn : n0 ≤ w.heap.size) (hk : isKv n0 w k v.k) (hh : v.h = 0) :
    Calls Try.prog 47 #[.agg v.cs.toArray] w fun e w' => e = .returned (.bool (fm1 v.h v.f v.l v.g v.x k.len (fmL k))) ∧ Ext w w' := by
  obtain ⟨ka, kc, hkv⟩ := hk.shape
  obtain ⟨vh, vf, vl, vg, vx, vk⟩ := v
  dsimp only at *
  subst hkv hh
  unfold fm1
  rw [if_pos rfl]
  clear hk ih
  go_enter Try.func47, Try.ntmps47
  go_upto_region 1 with fail
  refine name_wX (fun W1 hW => ?_)
  have hE : Ext w W1 := by rw [hW]; repeat' (first | exact Ext.refl _ | apply Ext.al)
  have b0 : Blk W1 (w.heap.size) 28 (TV.cs ⟨0, vf, vl, vg, vx, .slice ka k.len kc⟩) := by rw [hW]; exact Blk.newAt rfl
  clear hW
  obtain ⟨r0, hr0⟩ : ∃ r, r = w.heap.size := ⟨_, rfl⟩
  rw [← hr0] at b0
  try rw [← hr0]
  have q0 : w.heap.size ≤ r0 := by omega
  clear hr0
  have qz : r0 < W1.heap.size := b0.lt
  go_upto_region 1 with fail
  refine wp_region_lit ?_
  refine wpList_plain rfl (fun K hK => ?_); go_simp; (try dsimp only); refine hK _ _ ?_; clear hK K; (try simp only [Act.put, Zs, Zz, Zc])
  refine wpList_plain rfl (fun K hK => ?_); have zc := b0.cell 0; go_simp; clear zc; (try simp only [beq_self_eq_true]); (try dsimp only); refine hK _ _ ?_; clear hK K; (try simp only [Act.put, Zs, Zz, Zc])
  refine wpList_plain rfl (fun K hK => ?_); go_simp; (try simp (disch := omega) only [Yq, Yr]); (try simp only [beq_self_eq_true]); (try dsimp only); refine hK _ _ ?_; clear hK K; (try simp only [Act.put, Zs, Zz, Zc])
  refine wpList_nil ?_
  go_upto_region 2 with fail
  refine wp_region_lit ?_
  refine wpList_plain rfl (fun K hK => ?_); (first | (refine wp_ld 28 _ (b0.range) (by rfl) (by rfl) Try.underlying28 rfl (by exact Try.infoT) ?_)); (try dsimp only); refine hK _ _ ?_; clear hK K; (try simp only [Act.put, Zs, Zz, Zc])
  refine wpList_plain rfl (fun K hK => ?_); go_simp; (go_at_call 59; refine (rnone_any vf vl vg vx ka k.len kc _).mono ?_; intro e W2 hpp; obtain ⟨rfl, hx⟩ := hpp); (try dsimp only); refine hK _ _ ?_; clear hK K; (try simp only [Act.put, Zs, Zz, Zc])
  replace b0 := b0.ext hx
  replace hE := hE.trans hx
  clear hx
  replace qz : r0 < W2.heap.size := b0.lt
  refine wpList_plain rfl (fun K hK => ?_); go_simp; (try dsimp only); refine hK _ _ ?_; clear hK K; (try simp only [Act.put, Zs, Zz, Zc])
  refine wpList_nil ?_
  go_wp2_with fail
  go_ret
  exact ⟨rfl, hE⟩

set_option maxRecDepth 100000 in
set_option maxHeartbeats 4000000 in
theorem rfm_n (k : GK) (ih : AllK rFmOK k) (n0 : Nat) (v : TV) (w : World) (hn : n0 ≤ w.heap.size) (hk : isKv n0 w k v.k) (hh : v.h ≠ 0) (h2 : k.len ≠ 2) :
    Calls Try.prog 47 #[.agg v.cs.toArray] w fun e w' => e = .returned (.bool (fm1 v.h v.f v.l v.g v.x k.len (fmL k))) ∧ Ext w w' := by
  obtain ⟨ka, kc, hkv⟩ := hk.shape
  obtain ⟨vh, vf, vl, vg, vx, vk⟩ := v
  dsimp only at *
  subst hkv
  have hF : fm1 vh vf vl vg vx k.len (fmL k) = false := by unfold fm1; rw [if_neg hh]; simp [h2]
  rw [hF]
  have hb1 : (vh == 0) = false := by simpa using hh
  have hb2 : ((k.len : Int) == 2) = false := by simp; omega
  have hb3 : (k.len == 2) = false := by simpa using h2
  clear hk ih hF
  go_enter Try.func47, Try.ntmps47
  go_upto_region 1 with fail
  refine name_wX (fun W1 hW => ?_)
  have hE : Ext w W1 := by rw [hW]; repeat' (first | exact Ext.refl _ | apply Ext.al)
  have b0 : Blk W1 (w.heap.size) 28 (TV.cs ⟨vh, vf, vl, vg, vx, .slice ka k.len kc⟩) := by rw [hW]; exact Blk.newAt rfl
  clear hW
  obtain ⟨r0, hr0⟩ : ∃ r, r = w.heap.size := ⟨_, rfl⟩
  rw [← hr0] at b0
  try rw [← hr0]
  have q0 : w.heap.size ≤ r0 := by omega
  clear hr0
  have qz : r0 < W1.heap.size := b0.lt
  go_upto_region 1 with fail
  refine wp_region_lit ?_
  refine wpList_plain rfl (fun K hK => ?_); go_simp; (try dsimp only); refine hK _ _ ?_; clear hK K; (try simp only [Act.put, Zs, Zz, Zc])
  refine wpList_plain rfl (fun K hK => ?_); have zc := b0.cell 0; go_simp; clear zc; (try simp only [hb1]); (try dsimp only); refine hK _ _ ?_; clear hK K; (try simp only [Act.put, Zs, Zz, Zc])
  refine wpList_plain rfl (fun K hK => ?_); go_simp; (try simp (disch := omega) only [Yq, Yr]); (try simp only [hb1]); (try dsimp only); refine hK _ _ ?_; clear hK K; (try simp only [Act.put, Zs, Zz, Zc])
  refine wpList_nil ?_
  go_upto_region 3 with fail
  refine wp_region_lit ?_
  refine wpList_plain rfl (fun K hK => ?_); go_simp; (try dsimp only); refine hK _ _ ?_; clear hK K; (try simp only [Act.put, Zs, Zz, Zc])
  refine wpList_plain rfl (fun K hK => ?_); have zc := b0.cell 10; go_simp; clear zc; (try simp only [hb2, hb3]); (try dsimp only); refine hK _ _ ?_; clear hK K; (try simp only [Act.put, Zs, Zz, Zc])
  refine wpList_plain rfl (fun K hK => ?_); go_simp; (try dsimp only); refine hK _ _ ?_; clear hK K; (try simp only [Act.put, Zs, Zz, Zc])
  refine wpList_plain rfl (fun K hK => ?_); go_simp; (try simp (disch := omega) only [Yq, Yr]); (try simp only [hb2, hb3]); (try dsimp only); refine hK _ _ ?_; clear hK K; (try simp only [Act.put, Zs, Zz, Zc])
  refine wpList_plain rfl (fun K hK => ?_); go_simp; (try dsimp only); refine hK _ _ ?_; clear hK K; (try simp only [Act.put, Zs, Zz, Zc])
  iterate 5 (refine wpList_step (fun K hK => ?_); rw [if_neg (by exact Bool.false_ne_true)]; (try dsimp only); refine hK _ _ ?_; clear hK K; (try simp only [Act.put, Zs, Zz, Zc]))
  iterate 2 (refine wpList_plain rfl (fun K hK => ?_); go_simp; (try dsimp only); refine hK _ _ ?_; clear hK K; (try simp only [Act.put, Zs, Zz, Zc]))
  iterate 5 (refine wpList_step (fun K hK => ?_); rw [if_neg (by exact Bool.false_ne_true)]; (try dsimp only); refine hK _ _ ?_; clear hK K; (try simp only [Act.put, Zs, Zz, Zc]))
  iterate 2 (refine wpList_plain rfl (fun K hK => ?_); go_simp; (try dsimp only); refine hK _ _ ?_; clear hK K; (try simp only [Act.put, Zs, Zz, Zc]))
  refine wpList_nil ?_
  go_wp2_with fail
  go_ret
  exact ⟨rfl, hE⟩

set_option maxRecDepth 100000 in
set_option maxHeartbeats 4000000 in
theorem rfm_f (h0 f0 l0 g0 : Int) (x0 : RV) (k0 : GK) (h1 f1 l1 g1 : Int) (x1 : RV) (k1 : GK) (ih0 : rFmOK k0) (ih1 : rFmOK k1) (n0 : Nat) (v : TV) (w : World) (hn : n0 ≤ w.heap.size) (hk : isKv n0 w (.cons h0 f0 l0 g0 x0 k0 (.cons h1 f1 l1 g1 x1 k1 .nil)) v.k) (hh : v.h ≠ 0) (c0 : fm1 h0 f0 l0 g0 x0 k0.len (fmL k0) = false) :
    Calls Try.prog 47 #[.agg v.cs.toArray] w fun e w' => e = .returned (.bool (false)) ∧ Ext w w' := by
  have hb1 : (v.h == 0) = false := by simpa using hh
  rcases hk with ⟨h2, _⟩ | ⟨b, o, c, hv, h3, h4, hm, h5, h6⟩
  · simp [GK.len] at h2
  obtain ⟨⟨v0, ra0, kv0⟩, h7⟩ := isK_cons.1 h6
  obtain ⟨⟨v1, ra1, kv1⟩, _⟩ := isK_cons.1 h7
  obtain ⟨vh, vf, vl, vg, vx, vk⟩ := v
  dsimp only at *
  subst hv
  simp only [GK.len] at h4
  have hcI : (2 : Int) ≤ (c : Int) := by omega
  have hbw : b < w.heap.size := by omega
  have hb2 : ((2 : Int) == 2) = true := by decide
  replace ih0 : Hid _ := ih0
  replace ih1 : Hid _ := ih1
  replace kv0 : Hid _ := kv0
  replace kv1 : Hid _ := kv1
  replace c0 : Hid _ := c0
  clear h6 h7 hh
  go_enter Try.func47, Try.ntmps47
  go_upto_region 1 with fail
  refine name_wX (fun W1 hW => ?_)
  have hE : Ext w W1 := by rw [hW]; repeat' (first | exact Ext.refl _ | apply Ext.al)
  have b0 : Blk W1 (w.heap.size) 28 (TV.cs ⟨vh, vf, vl, vg, vx, .slice (some ⟨b, o, none⟩) 2 c⟩) := by rw [hW]; exact Blk.newAt rfl
  clear hW
  obtain ⟨r0, hr0⟩ : ∃ r, r = w.heap.size := ⟨_, rfl⟩
  rw [← hr0] at b0
  try rw [← hr0]
  have q0 : w.heap.size ≤ r0 := by omega
  clear hr0
  have qz : r0 < W1.heap.size := b0.lt
  replace kv0 := hid_mk (isKv.ext kv0.out hn hE)
  replace kv1 := hid_mk (isKv.ext kv1.out hn hE)
  replace ra0 := rangeAt.ext ra0 hbw hE
  replace ra1 := rangeAt.ext ra1 hbw hE
  replace hbw := Nat.lt_of_lt_of_le hbw hE.below.size
  replace hn := Nat.le_trans hn hE.below.size
  go_upto_region 1 with fail
  refine wp_region_lit ?_
  refine wpList_plain rfl (fun K hK => ?_); go_simp; (try dsimp only); refine hK _ _ ?_; clear hK K; (try simp only [Act.put, Zs, Zz, Zc])
  refine wpList_plain rfl (fun K hK => ?_); have zc := b0.cell 0; go_simp; clear zc; (try simp only [hb1]); (try dsimp only); refine hK _ _ ?_; clear hK K; (try simp only [Act.put, Zs, Zz, Zc])
  refine wpList_plain rfl (fun K hK => ?_); go_simp; (try simp (disch := omega) only [Yq, Yr]); (try simp only [hb1]); (try dsimp only); refine hK _ _ ?_; clear hK K; (try simp only [Act.put, Zs, Zz, Zc])
  refine wpList_nil ?_
  go_upto_region 3 with fail
  refine wp_region_lit ?_
  refine wpList_plain rfl (fun K hK => ?_); go_simp; (try dsimp only); refine hK _ _ ?_; clear hK K; (try simp only [Act.put, Zs, Zz, Zc])
  refine wpList_plain rfl (fun K hK => ?_); have zc := b0.cell 10; go_simp; clear zc; (try simp only [hb2, beq_self_eq_true]); (try dsimp only); refine hK _ _ ?_; clear hK K; (try simp only [Act.put, Zs, Zz, Zc])
  refine wpList_plain rfl (fun K hK => ?_); go_simp; (try dsimp only); refine hK _ _ ?_; clear hK K; (try simp only [Act.put, Zs, Zz, Zc])
  refine wpList_plain rfl (fun K hK => ?_); go_simp; (try simp (disch := omega) only [Yq, Yr]); (try simp only [hb2, beq_self_eq_true]); (try dsimp only); refine hK _ _ ?_; clear hK K; (try simp only [Act.put, Zs, Zz, Zc])
  refine wpList_plain rfl (fun K hK => ?_); go_simp; (try dsimp only); refine hK _ _ ?_; clear hK K; (try simp only [Act.put, Zs, Zz, Zc])
  refine wpList_step (fun K hK => ?_); rw [if_pos (by rfl)]; go_simp; (try dsimp only); refine hK _ _ ?_; clear hK K; (try simp only [Act.put, Zs, Zz, Zc])
  refine wpList_step (fun K hK => ?_); rw [if_pos (by rfl)]; have zc := b0.cell 10; go_simp; clear zc; (try simp only [hb2, beq_self_eq_true]); (try dsimp only); refine hK _ _ ?_; clear hK K; (try simp only [Act.put, Zs, Zz, Zc])
  refine wpList_step (fun K hK => ?_); rw [if_pos (by rfl)]; go_simp; (try dsimp only); refine hK _ _ ?_; clear hK K; (try simp only [Act.put, Zs, Zz, Zc])
  refine wpList_step (fun K hK => ?_); rw [if_pos (by rfl)]; (first | (refine wp_ld 28 _ (ra0) (by rfl) (by rfl) Try.underlying28 rfl (by exact Try.infoT) ?_) | (refine wp_ld 28 _ (ra1) (by rfl) (by rfl) Try.underlying28 rfl (by exact Try.infoT) ?_)); (try dsimp only); refine hK _ _ ?_; clear hK K; (try simp only [Act.put, Zs, Zz, Zc])
  refine wpList_step (fun K hK => ?_); rw [if_pos (by rfl)]; go_simp; (go_at_call 47; refine (rfm_is ih0.out n0 ⟨h0, f0, l0, g0, x0, v0⟩ _ hn kv0.out false c0.out).mono ?_; intro e W2 hpp; obtain ⟨rfl, hx⟩ := hpp); (try dsimp only); refine hK _ _ ?_; clear hK K; (try simp only [Act.put, Zs, Zz, Zc])
  replace b0 := b0.ext hx
  replace kv0 := hid_mk (isKv.ext kv0.out hn hx)
  replace kv1 := hid_mk (isKv.ext kv1.out hn hx)
  replace ra0 := rangeAt.ext ra0 hbw hx
  replace ra1 := rangeAt.ext ra1 hbw hx
  replace hbw := Nat.lt_of_lt_of_le hbw hx.below.size
  replace hn := Nat.le_trans hn hx.below.size
  replace hE := hE.trans hx
  clear hx
  replace qz : r0 < W2.heap.size := b0.lt
  iterate 2 (refine wpList_plain rfl (fun K hK => ?_); go_simp; (try dsimp only); refine hK _ _ ?_; clear hK K; (try simp only [Act.put, Zs, Zz, Zc]))
  iterate 5 (refine wpList_step (fun K hK => ?_); rw [if_neg (by exact Bool.false_ne_true)]; (try dsimp only); refine hK _ _ ?_; clear hK K; (try simp only [Act.put, Zs, Zz, Zc]))
  iterate 2 (refine wpList_plain rfl (fun K hK => ?_); go_simp; (try dsimp only); refine hK _ _ ?_; clear hK K; (try simp only [Act.put, Zs, Zz, Zc]))
  refine wpList_nil ?_
  go_wp2_with fail
  go_ret
  exact ⟨rfl, hE⟩

set_option maxRecDepth 100000 in
set_option maxHeartbeats 4000000 in
theorem rfm_t (h0 f0 l0 g0 : Int) (x0 : RV) (k0 : GK) (h1 f1 l1 g1 : Int) (x1 : RV) (k1 : GK) (ih0 : rFmOK k0) (ih1 : rFmOK k1) (n0 : Nat) (v : TV) (w : World) (hn : n0 ≤ w.heap.size) (hk : isKv n0 w (.cons h0 f0 l0 g0 x0 k0 (.cons h1 f1 l1 g1 x1 k1 .nil)) v.k) (hh : v.h ≠ 0) (c0 : fm1 h0 f0 l0 g0 x0 k0.len (fmL k0) = true) :
    Calls Try.prog 47 #[.agg v.cs.toArray] w fun e w' => e = .returned (.bool (fm1 h1 f1 l1 g1 x1 k1.len (fmL k1))) ∧ Ext w w' := by
  have hb1 : (v.h == 0) = false := by simpa using hh
  rcases hk with ⟨h2, _⟩ | ⟨b, o, c, hv, h3, h4, hm, h5, h6⟩
  · simp [GK.len] at h2
  obtain ⟨⟨v0, ra0, kv0⟩, h7⟩ := isK_cons.1 h6
  obtain ⟨⟨v1, ra1, kv1⟩, _⟩ := isK_cons.1 h7
  obtain ⟨vh, vf, vl, vg, vx, vk⟩ := v
  dsimp only at *
  subst hv
  simp only [GK.len] at h4
  have hcI : (2 : Int) ≤ (c : Int) := by omega
  have hbw : b < w.heap.size := by omega
  have hb2 : ((2 : Int) == 2) = true := by decide
  replace ih0 : Hid _ := ih0
  replace ih1 : Hid _ := ih1
  replace kv0 : Hid _ := kv0
  replace kv1 : Hid _ := kv1
  replace c0 : Hid _ := c0
  clear h6 h7 hh
  go_enter Try.func47, Try.ntmps47
  go_upto_region 1 with fail
  refine name_wX (fun W1 hW => ?_)
  have hE : Ext w W1 := by rw [hW]; repeat' (first | exact Ext.refl _ | apply Ext.al)
  have b0 : Blk W1 (w.heap.size) 28 (TV.cs ⟨vh, vf, vl, vg, vx, .slice (some ⟨b, o, none⟩) 2 c⟩) := by rw [hW]; exact Blk.newAt rfl
  clear hW
  obtain ⟨r0, hr0⟩ : ∃ r, r = w.heap.size := ⟨_, rfl⟩
  rw [← hr0] at b0
  try rw [← hr0]
  have q0 : w.heap.size ≤ r0 := by omega
  clear hr0
  have qz : r0 < W1.heap.size := b0.lt
  replace kv0 := hid_mk (isKv.ext kv0.out hn hE)
  replace kv1 := hid_mk (isKv.ext kv1.out hn hE)
  replace ra0 := rangeAt.ext ra0 hbw hE
  replace ra1 := rangeAt.ext ra1 hbw hE
  replace hbw := Nat.lt_of_lt_of_le hbw hE.below.size
  replace hn := Nat.le_trans hn hE.below.size
  go_upto_region 1 with fail
  refine wp_region_lit ?_
  refine wpList_plain rfl (fun K hK => ?_); go_simp; (try dsimp only); refine hK _ _ ?_; clear hK K; (try simp only [Act.put, Zs, Zz, Zc])
  refine wpList_plain rfl (fun K hK => ?_); have zc := b0.cell 0; go_simp; clear zc; (try simp only [hb1]); (try dsimp only); refine hK _ _ ?_; clear hK K; (try simp only [Act.put, Zs, Zz, Zc])
  refine wpList_plain rfl (fun K hK => ?_); go_simp; (try simp (disch := omega) only [Yq, Yr]); (try simp only [hb1]); (try dsimp only); refine hK _ _ ?_; clear hK K; (try simp only [Act.put, Zs, Zz, Zc])
  refine wpList_nil ?_
  go_upto_region 3 with fail
  refine wp_region_lit ?_
  refine wpList_plain rfl (fun K hK => ?_); go_simp; (try dsimp only); refine hK _ _ ?_; clear hK K; (try simp only [Act.put, Zs, Zz, Zc])
  refine wpList_plain rfl (fun K hK => ?_); have zc := b0.cell 10; go_simp; clear zc; (try simp only [hb2, beq_self_eq_true]); (try dsimp only); refine hK _ _ ?_; clear hK K; (try simp only [Act.put, Zs, Zz, Zc])
  refine wpList_plain rfl (fun K hK => ?_); go_simp; (try dsimp only); refine hK _ _ ?_; clear hK K; (try simp only [Act.put, Zs, Zz, Zc])
  refine wpList_plain rfl (fun K hK => ?_); go_simp; (try simp (disch := omega) only [Yq, Yr]); (try simp only [hb2, beq_self_eq_true]); (try dsimp only); refine hK _ _ ?_; clear hK K; (try simp only [Act.put, Zs, Zz, Zc])
  refine wpList_plain rfl (fun K hK => ?_); go_simp; (try dsimp only); refine hK _ _ ?_; clear hK K; (try simp only [Act.put, Zs, Zz, Zc])
  refine wpList_step (fun K hK => ?_); rw [if_pos (by rfl)]; go_simp; (try dsimp only); refine hK _ _ ?_; clear hK K; (try simp only [Act.put, Zs, Zz, Zc])
  refine wpList_step (fun K hK => ?_); rw [if_pos (by rfl)]; have zc := b0.cell 10; go_simp; clear zc; (try simp only [hb2, beq_self_eq_true]); (try dsimp only); refine hK _ _ ?_; clear hK K; (try simp only [Act.put, Zs, Zz, Zc])
  refine wpList_step (fun K hK => ?_); rw [if_pos (by rfl)]; go_simp; (try dsimp only); refine hK _ _ ?_; clear hK K; (try simp only [Act.put, Zs, Zz, Zc])
  refine wpList_step (fun K hK => ?_); rw [if_pos (by rfl)]; (first | (refine wp_ld 28 _ (ra0) (by rfl) (by rfl) Try.underlying28 rfl (by exact Try.infoT) ?_) | (refine wp_ld 28 _ (ra1) (by rfl) (by rfl) Try.underlying28 rfl (by exact Try.infoT) ?_)); (try dsimp only); refine hK _ _ ?_; clear hK K; (try simp only [Act.put, Zs, Zz, Zc])
  refine wpList_step (fun K hK => ?_); rw [if_pos (by rfl)]; go_simp; (go_at_call 47; refine (rfm_is ih0.out n0 ⟨h0, f0, l0, g0, x0, v0⟩ _ hn kv0.out true c0.out).mono ?_; intro e W2 hpp; obtain ⟨rfl, hx⟩ := hpp); (try dsimp only); refine hK _ _ ?_; clear hK K; (try simp only [Act.put, Zs, Zz, Zc])
  replace b0 := b0.ext hx
  replace kv0 := hid_mk (isKv.ext kv0.out hn hx)
  replace kv1 := hid_mk (isKv.ext kv1.out hn hx)
  replace ra0 := rangeAt.ext ra0 hbw hx
  replace ra1 := rangeAt.ext ra1 hbw hx
  replace hbw := Nat.lt_of_lt_of_le hbw hx.below.size
  replace hn := Nat.le_trans hn hx.below.size
  replace hE := hE.trans hx
  clear hx
  replace qz : r0 < W2.heap.size := b0.lt
  iterate 2 (refine wpList_plain rfl (fun K hK => ?_); go_simp; (try dsimp only); refine hK _ _ ?_; clear hK K; (try simp only [Act.put, Zs, Zz, Zc]))
  refine wpList_step (fun K hK => ?_); rw [if_pos (by rfl)]; go_simp; (try dsimp only); refine hK _ _ ?_; clear hK K; (try simp only [Act.put, Zs, Zz, Zc])
  refine wpList_step (fun K hK => ?_); rw [if_pos (by rfl)]; have zc := b0.cell 10; go_simp; clear zc; (try simp only [hb2, beq_self_eq_true]); (try dsimp only); refine hK _ _ ?_; clear hK K; (try simp only [Act.put, Zs, Zz, Zc])
  refine wpList_step (fun K hK => ?_); rw [if_pos (by rfl)]; go_simp; (try dsimp only); refine hK _ _ ?_; clear hK K; (try simp only [Act.put, Zs, Zz, Zc])
  refine wpList_step (fun K hK => ?_); rw [if_pos (by rfl)]; (first | (refine wp_ld 28 _ (ra0) (by rfl) (by rfl) Try.underlying28 rfl (by exact Try.infoT) ?_) | (refine wp_ld 28 _ (ra1) (by rfl) (by rfl) Try.underlying28 rfl (by exact Try.infoT) ?_)); (try dsimp only); refine hK _ _ ?_; clear hK K; (try simp only [Act.put, Zs, Zz, Zc])
  refine wpList_step (fun K hK => ?_); rw [if_pos (by rfl)]; go_simp; (go_at_call 47; refine (ih1.out n0 ⟨h1, f1, l1, g1, x1, v1⟩ _ hn kv1.out).mono ?_; intro e W3 hpp; obtain ⟨rfl, hx⟩ := hpp); (try dsimp only); refine hK _ _ ?_; clear hK K; (try simp only [Act.put, Zs, Zz, Zc])
  replace b0 := b0.ext hx
  replace kv0 := hid_mk (isKv.ext kv0.out hn hx)
  replace kv1 := hid_mk (isKv.ext kv1.out hn hx)
  replace ra0 := rangeAt.ext ra0 hbw hx
  replace ra1 := rangeAt.ext ra1 hbw hx
  replace hbw := Nat.lt_of_lt_of_le hbw hx.below.size
  replace hn := Nat.le_trans hn hx.below.size
  replace hE := hE.trans hx
  clear hx
  replace qz : r0 < W3.heap.size := b0.lt
  iterate 2 (refine wpList_plain rfl (fun K hK => ?_); go_simp; (try dsimp only); refine hK _ _ ?_; clear hK K; (try simp only [Act.put, Zs, Zz, Zc]))
  refine wpList_nil ?_
  go_wp2_with fail
  go_ret
  exact ⟨rfl, hE⟩

theorem rfm_any (k : GK) : rFmOK k := GK.ind (fun k ih n0 v w hn hk => by
    by_cases hh : v.h = 0
    · exact rfm_z k ih n0 v w hn hk hh
    · by_cases h2 : k.len = 2
      · obtain ⟨h0, f0, l0, g0, x0, k0, h1, f1, l1, g1, x1, k1, rfl⟩ := GK.two h2
        · have e : fm1 v.h v.f v.l v.g v.x (GK.cons h0 f0 l0 g0 x0 k0 (.cons h1 f1 l1 g1 x1 k1 .nil)).len (fmL (.cons h0 f0 l0 g0 x0 k0 (.cons h1 f1 l1 g1 x1 k1 .nil))) = (fm1 h0 f0 l0 g0 x0 k0.len (fmL k0) && fm1 h1 f1 l1 g1 x1 k1.len (fmL k1)) := by
            simp [fm1, hh, GK.len, fmL]
          rw [e]
          cases c0 : fm1 h0 f0 l0 g0 x0 k0.len (fmL k0) with
          | false => exact rfm_f h0 f0 l0 g0 x0 k0 h1 f1 l1 g1 x1 k1 ih.1 ih.2.1 n0 v w hn hk hh c0
          | true => rw [Bool.true_and]; exact rfm_t h0 f0 l0 g0 x0 k0 h1 f1 l1 g1 x1 k1 ih.1 ih.2.1 n0 v w hn hk hh c0
      · exact rfm_n k ih n0 v w hn hk hh h2) k
def ToOK (k : GK) : Prop := ∀ (n0 : Nat) (v : TV) (w : World), n0 ≤ w.heap.size → isKv n0 w k v.k → fm1 v.h v.f v.l v.g v.x k.len (fmL k) = true → ∃ t : BT, isT (fun q => q < n0) w t v ∧ t.regs.length ≤ 1 + k.count
/-- A formed tree is one of two kids a node. -/
theorem to_bt (k : GK) : ToOK k := GK.ind (fun k ih n0 v w hn hk hf => by
  unfold fm1 at hf
  by_cases hh : v.h = 0
  · rw [if_pos hh] at hf
    simp only [fm0, Bool.and_eq_true, beq_iff_eq] at hf
    obtain ⟨⟨⟨⟨h1, h2⟩, h3⟩, h4⟩, h5⟩ := hf
    refine ⟨.E, ⟨hh, h1, h2, h3, (eqR_iff _ _).1 h4, ?_⟩, by simp [BT.regs]⟩
    obtain ⟨a, c, hs⟩ := hk.shape
    exact ⟨a, c, by rw [hs, h5]⟩
  · rw [if_neg hh] at hf
    simp only [Bool.and_eq_true, beq_iff_eq] at hf
    obtain ⟨h2, h3⟩ := hf
    obtain ⟨h0, f0, l0, g0, x0, k0, h1, f1, l1, g1, x1, k1, rfl⟩ := GK.two h2
    · rcases hk with ⟨h2, _⟩ | ⟨b, o, c, hv, h4, h5, hm, h6, h7⟩
      · simp [GK.len] at h2
      obtain ⟨⟨v0, ra0, kv0⟩, h8⟩ := isK_cons.1 h7
      obtain ⟨⟨v1, ra1, kv1⟩, _⟩ := isK_cons.1 h8
      simp only [fmL, Bool.and_true, Bool.and_eq_true] at h3
      obtain ⟨t0, i0, n1⟩ := ih.1 n0 ⟨h0, f0, l0, g0, x0, v0⟩ w hn kv0 h3.1
      obtain ⟨t1, i1, n2⟩ := ih.2.1 n0 ⟨h1, f1, l1, g1, x1, v1⟩ w hn kv1 h3.2
      refine ⟨.N v.h v.f v.l v.g t0 v.x t1, ⟨rfl, rfl, rfl, rfl, rfl, hh, b, o, c, _, _, hv, by simpa [GK.len] using h5, by omega, h6, ra0, ra1, i0, i1⟩, ?_⟩
      simp only [BT.regs, List.length_append, List.length_cons, GK.count]
      omega) k

end Go.Proofs.Ytnbohogkfdeddaa

set_option linter.unusedSimpArgs false
set_option linter.unusedVariables false
namespace Go.Proofs.Ytnbohogkfdeddaa
open Go.RowKit

/-- Check says e of the tree v, in each world that has grown out of w. -/
def PChkIs (v : TV) (w : World) (e : Int) : Prop := ∀ W, Ext w W → Calls Try.prog 22 #[.agg v.cs.toArray] W fun x W' => x = .returned (.int .i64 e) ∧ Ext W W'
/-- Check says e of the tree v, in each world that has grown out of w. -/
def RChkIs (v : TV) (w : World) (e : Int) : Prop := ∀ W, Ext w W → Calls Try.prog 24 #[.agg v.cs.toArray] W fun x W' => x = .returned (.int .i64 e) ∧ Ext W W'
set_option maxRecDepth 100000 in
set_option maxHeartbeats 4000000 in
theorem pins_ref (r : RV) (v : TV) (w : World) (e : Int) (he : e ≠ 0) (hC : PChkIs v w e) :
    Calls Try.prog 15 #[.agg v.cs.toArray, .agg r.cs.toArray] w fun x w' => x = .returned (.tuple #[.agg TV.z.cs.toArray, .int .i64 e]) ∧ Ext w w' := by
  have hb0 : (e != 0) = true := by simpa using he
  have HC : Hid (PChkIs v w e) := hC
  clear hC he
  go_enter Try.func15, Try.ntmps15
  go_upto_region 1 with fail
  refine name_wX (fun W1 hW => ?_)
  have hE : Ext w W1 := by rw [hW]; repeat' (first | exact Ext.refl _ | apply Ext.al)
  have b0 : Blk W1 (w.heap.size) 28 v.cs := by rw [hW]; exact ((Blk.newAt rfl).alloc _).alloc _
  have b1 : Blk W1 (w.heap.size + 1) 25 r.cs := by rw [hW]; exact (Blk.newAt (by simp)).alloc _
  have b2 : Blk W1 (w.heap.size + 1 + 1) 28 TV.z.cs := by rw [hW]; exact Blk.newAt (by simp)
  clear hW
  obtain ⟨r2, hr2⟩ : ∃ r, r = w.heap.size + 1 + 1 := ⟨_, rfl⟩
  rw [← hr2] at b2
  try rw [← hr2]
  obtain ⟨r1, hr1⟩ : ∃ r, r = w.heap.size + 1 := ⟨_, rfl⟩
  rw [← hr1] at b1
  try rw [← hr1]
  obtain ⟨r0, hr0⟩ : ∃ r, r = w.heap.size := ⟨_, rfl⟩
  rw [← hr0] at b0
  try rw [← hr0]
  have q0 : w.heap.size ≤ r0 := by omega
  have q1 : r0 < r1 := by omega
  have q2 : r1 < r2 := by omega
  clear hr0 hr1 hr2
  have qz : r2 < W1.heap.size := b2.lt
  go_upto_region 1 with fail
  refine wp_region_lit ?_
  refine wpList_plain rfl (fun K hK => ?_); (first | (refine wp_ld 28 _ (b0.range) (by rfl) (by rfl) Try.underlying28 rfl (by exact Try.infoT) ?_)); (try dsimp only); refine hK _ _ ?_; clear hK K; (try simp only [Act.put, Zs, Zz, Zc])
  refine wpList_plain rfl (fun K hK => ?_); go_simp; (go_at_call 22; refine (HC.out _ hE).mono ?_; intro e W2 hpp; obtain ⟨rfl, hx⟩ := hpp); (try dsimp only); refine hK _ _ ?_; clear hK K; (try simp only [Act.put, Zs, Zz, Zc])
  replace b0 := b0.ext hx
  replace b1 := b1.ext hx
  replace b2 := b2.ext hx
  replace hE := hE.trans hx
  clear hx
  replace qz : r2 < W2.heap.size := b2.lt
  refine wpList_plain rfl (fun K hK => ?_); go_simp; (try dsimp only); refine hK _ _ ?_; clear hK K; (try simp only [Act.put, Zs, Zz, Zc])
  refine wpList_nil ?_
  go_upto_region 2 with fail
  refine wp_region_lit ?_
  refine wpList_plain rfl (fun K hK => ?_); go_simp; (try dsimp only); refine hK _ _ ?_; clear hK K; (try simp only [Act.put, Zs, Zz, Zc])
  refine wpList_plain rfl (fun K hK => ?_); go_simp; (try simp (disch := omega) only [Yq, Yr]); (try simp only [hb0]); (try dsimp only); refine hK _ _ ?_; clear hK K; (try simp only [Act.put, Zs, Zz, Zc])
  refine wpList_nil ?_
  go_upto_region 3 with fail
  refine wp_region_lit ?_
  iterate 2 (refine wpList_plain rfl (fun K hK => ?_); go_simp; (try dsimp only); refine hK _ _ ?_; clear hK K; (try simp only [Act.put, Zs, Zz, Zc]))
  refine wpList_plain rfl (fun K hK => ?_)
  refine wp_store_box 28 _ _ (by rfl) b2 (by rfl) (by rfl) (by exact Try.infoT) (by first | exact RV.one _ | exact TV.one _ rfl | exact TV.one TV.z rfl | exact RV.one _ | exact RV.one RV.z) (by rfl) (fun W3 hg bn => ?_)
  replace b0 := b0.kept hg (Zn (by omega))
  replace b1 := b1.kept hg (Zn (by omega))
  replace hE := ext_grow hE hg (fun q hq => by cases hq; omega)
  clear b2 hg
  have b2 := bn
  clear bn
  (try dsimp only); refine hK _ _ ?_; clear hK K; (try simp only [Act.put, Zs, Zz, Zc])
  replace qz : r2 < W3.heap.size := b2.lt
  refine wpList_plain rfl (fun K hK => ?_); go_simp; (try dsimp only); refine hK _ _ ?_; clear hK K; (try simp only [Act.put, Zs, Zz, Zc])
  refine wpList_nil ?_
  have b2_ : Blk W3 r2 28 TV.z.cs := b2
  go_wp2_with fail
  exact bodyPost_ret (res_ct rfl (GivesC.of b2 rfl Try.underlying28 rfl Try.infoT) rfl) rfl ⟨rfl, hE⟩

set_option maxRecDepth 100000 in
set_option maxHeartbeats 4000000 in
theorem pdel_ref (s : Int) (v : TV) (w : World) (e : Int) (he : e ≠ 0) (hC : PChkIs v w e) :
    Calls Try.prog 20 #[.agg v.cs.toArray, .int .i64 s] w fun x w' => x = .returned (.tuple #[.agg TV.z.cs.toArray, .int .i64 e]) ∧ Ext w w' := by
  have hb0 : (e != 0) = true := by simpa using he
  have HC : Hid (PChkIs v w e) := hC
  clear hC he
  go_enter Try.func20, Try.ntmps20
  go_upto_region 1 with fail
  refine name_wX (fun W1 hW => ?_)
  have hE : Ext w W1 := by rw [hW]; repeat' (first | exact Ext.refl _ | apply Ext.al)
  have b0 : Blk W1 (w.heap.size) 28 v.cs := by rw [hW]; exact (Blk.newAt rfl).alloc _
  have b1 : Blk W1 (w.heap.size + 1) 28 TV.z.cs := by rw [hW]; exact Blk.newAt (by simp)
  clear hW
  obtain ⟨r1, hr1⟩ : ∃ r, r = w.heap.size + 1 := ⟨_, rfl⟩
  rw [← hr1] at b1
  try rw [← hr1]
  obtain ⟨r0, hr0⟩ : ∃ r, r = w.heap.size := ⟨_, rfl⟩
  rw [← hr0] at b0
  try rw [← hr0]
  have q0 : w.heap.size ≤ r0 := by omega
  have q1 : r0 < r1 := by omega
  clear hr0 hr1
  have qz : r1 < W1.heap.size := b1.lt
  go_upto_region 1 with fail
  refine wp_region_lit ?_
  refine wpList_plain rfl (fun K hK => ?_); (first | (refine wp_ld 28 _ (b0.range) (by rfl) (by rfl) Try.underlying28 rfl (by exact Try.infoT) ?_)); (try dsimp only); refine hK _ _ ?_; clear hK K; (try simp only [Act.put, Zs, Zz, Zc])
  refine wpList_plain rfl (fun K hK => ?_); go_simp; (go_at_call 22; refine (HC.out _ hE).mono ?_; intro e W2 hpp; obtain ⟨rfl, hx⟩ := hpp); (try dsimp only); refine hK _ _ ?_; clear hK K; (try simp only [Act.put, Zs, Zz, Zc])
  replace b0 := b0.ext hx
  replace b1 := b1.ext hx
  replace hE := hE.trans hx
  clear hx
  replace qz : r1 < W2.heap.size := b1.lt
  refine wpList_plain rfl (fun K hK => ?_); go_simp; (try dsimp only); refine hK _ _ ?_; clear hK K; (try simp only [Act.put, Zs, Zz, Zc])
  refine wpList_nil ?_
  go_upto_region 2 with fail
  refine wp_region_lit ?_
  refine wpList_plain rfl (fun K hK => ?_); go_simp; (try dsimp only); refine hK _ _ ?_; clear hK K; (try simp only [Act.put, Zs, Zz, Zc])
  refine wpList_plain rfl (fun K hK => ?_); go_simp; (try simp (disch := omega) only [Yq, Yr]); (try simp only [hb0]); (try dsimp only); refine hK _ _ ?_; clear hK K; (try simp only [Act.put, Zs, Zz, Zc])
  refine wpList_nil ?_
  go_upto_region 3 with fail
  refine wp_region_lit ?_
  iterate 2 (refine wpList_plain rfl (fun K hK => ?_); go_simp; (try dsimp only); refine hK _ _ ?_; clear hK K; (try simp only [Act.put, Zs, Zz, Zc]))
  refine wpList_plain rfl (fun K hK => ?_)
  refine wp_store_box 28 _ _ (by rfl) b1 (by rfl) (by rfl) (by exact Try.infoT) (by first | exact RV.one _ | exact TV.one _ rfl | exact TV.one TV.z rfl | exact RV.one _ | exact RV.one RV.z) (by rfl) (fun W3 hg bn => ?_)
  replace b0 := b0.kept hg (Zn (by omega))
  replace hE := ext_grow hE hg (fun q hq => by cases hq; omega)
  clear b1 hg
  have b1 := bn
  clear bn
  (try dsimp only); refine hK _ _ ?_; clear hK K; (try simp only [Act.put, Zs, Zz, Zc])
  replace qz : r1 < W3.heap.size := b1.lt
  refine wpList_plain rfl (fun K hK => ?_); go_simp; (try dsimp only); refine hK _ _ ?_; clear hK K; (try simp only [Act.put, Zs, Zz, Zc])
  refine wpList_nil ?_
  have b1_ : Blk W3 r1 28 TV.z.cs := b1
  go_wp2_with fail
  exact bodyPost_ret (res_ct rfl (GivesC.of b1 rfl Try.underlying28 rfl Try.infoT) rfl) rfl ⟨rfl, hE⟩

set_option maxRecDepth 100000 in
set_option maxHeartbeats 4000000 in
theorem pnext_ref (s : Int) (v : TV) (w : World) (e : Int) (he : e ≠ 0) (hC : PChkIs v w e) :
    Calls Try.prog 27 #[.agg v.cs.toArray, .int .i64 s] w fun x w' => x = .returned (.tuple #[.agg RV.z.cs.toArray, .bool false]) ∧ Ext w w' := by
  have hb0 : (e != 0) = true := by simpa using he
  have HC : Hid (PChkIs v w e) := hC
  clear hC he
  go_enter Try.func27, Try.ntmps27
  go_upto_region 1 with fail
  refine name_wX (fun W1 hW => ?_)
  have hE : Ext w W1 := by rw [hW]; repeat' (first | exact Ext.refl _ | apply Ext.al)
  have b0 : Blk W1 (w.heap.size) 28 v.cs := by rw [hW]; exact (Blk.newAt rfl).alloc _
  have b1 : Blk W1 (w.heap.size + 1) 25 RV.z.cs := by rw [hW]; exact Blk.newAt (by simp)
  clear hW
  obtain ⟨r1, hr1⟩ : ∃ r, r = w.heap.size + 1 := ⟨_, rfl⟩
  rw [← hr1] at b1
  try rw [← hr1]
  obtain ⟨r0, hr0⟩ : ∃ r, r = w.heap.size := ⟨_, rfl⟩
  rw [← hr0] at b0
  try rw [← hr0]
  have q0 : w.heap.size ≤ r0 := by omega
  have q1 : r0 < r1 := by omega
  clear hr0 hr1
  have qz : r1 < W1.heap.size := b1.lt
  go_upto_region 1 with fail
  refine wp_region_lit ?_
  refine wpList_plain rfl (fun K hK => ?_); (first | (refine wp_ld 28 _ (b0.range) (by rfl) (by rfl) Try.underlying28 rfl (by exact Try.infoT) ?_)); (try dsimp only); refine hK _ _ ?_; clear hK K; (try simp only [Act.put, Zs, Zz, Zc])
  refine wpList_plain rfl (fun K hK => ?_); go_simp; (go_at_call 22; refine (HC.out _ hE).mono ?_; intro e W2 hpp; obtain ⟨rfl, hx⟩ := hpp); (try dsimp only); refine hK _ _ ?_; clear hK K; (try simp only [Act.put, Zs, Zz, Zc])
  replace b0 := b0.ext hx
  replace b1 := b1.ext hx
  replace hE := hE.trans hx
  clear hx
  replace qz : r1 < W2.heap.size := b1.lt
  refine wpList_plain rfl (fun K hK => ?_); go_simp; (try simp (disch := omega) only [Yq, Yr]); (try simp only [hb0]); (try dsimp only); refine hK _ _ ?_; clear hK K; (try simp only [Act.put, Zs, Zz, Zc])
  refine wpList_nil ?_
  go_upto_region 2 with fail
  refine wp_region_lit ?_
  refine wpList_plain rfl (fun K hK => ?_); go_simp; (try dsimp only); refine hK _ _ ?_; clear hK K; (try simp only [Act.put, Zs, Zz, Zc])
  refine wpList_plain rfl (fun K hK => ?_)
  refine wp_store_box 25 _ _ (by rfl) b1 (by rfl) (by rfl) (by exact Try.infoR) (by first | exact RV.one _ | exact TV.one _ rfl | exact TV.one TV.z rfl | exact RV.one _ | exact RV.one RV.z) (by rfl) (fun W3 hg bn => ?_)
  replace b0 := b0.kept hg (Zn (by omega))
  replace hE := ext_grow hE hg (fun q hq => by cases hq; omega)
  clear b1 hg
  have b1 := bn
  clear bn
  (try dsimp only); refine hK _ _ ?_; clear hK K; (try simp only [Act.put, Zs, Zz, Zc])
  replace qz : r1 < W3.heap.size := b1.lt
  refine wpList_plain rfl (fun K hK => ?_); go_simp; (try dsimp only); refine hK _ _ ?_; clear hK K; (try simp only [Act.put, Zs, Zz, Zc])
  refine wpList_nil ?_
  have b1_ : Blk W3 r1 25 RV.z.cs := b1
  go_wp2_with fail
  exact bodyPost_ret (res_ct rfl (GivesC.of b1 rfl Try.underlying25 rfl Try.infoR) rfl) rfl ⟨rfl, hE⟩

set_option maxRecDepth 100000 in
set_option maxHeartbeats 4000000 in
theorem pfind_ref (s : Int) (v : TV) (w : World) (e : Int) (he : e ≠ 0) (hC : PChkIs v w e) :
    Calls Try.prog 26 #[.agg v.cs.toArray, .int .i64 s] w fun x w' => x = .returned (.tuple #[.agg RV.z.cs.toArray, .bool false]) ∧ Ext w w' := by
  have HE0 : Hid (e ≠ 0) := he
  have hb0 : (e != 0) = true := by simpa using he
  have HC : Hid (PChkIs v w e) := hC
  clear hC he
  go_enter Try.func26, Try.ntmps26
  go_upto_region 1 with fail
  refine name_wX (fun W1 hW => ?_)
  have hE : Ext w W1 := by rw [hW]; repeat' (first | exact Ext.refl _ | apply Ext.al)
  have b0 : Blk W1 (w.heap.size) 28 v.cs := by rw [hW]; exact (Blk.newAt rfl).alloc _
  have b1 : Blk W1 (w.heap.size + 1) 25 RV.z.cs := by rw [hW]; exact Blk.newAt (by simp)
  clear hW
  obtain ⟨r1, hr1⟩ : ∃ r, r = w.heap.size + 1 := ⟨_, rfl⟩
  rw [← hr1] at b1
  try rw [← hr1]
  obtain ⟨r0, hr0⟩ : ∃ r, r = w.heap.size := ⟨_, rfl⟩
  rw [← hr0] at b0
  try rw [← hr0]
  have q0 : w.heap.size ≤ r0 := by omega
  have q1 : r0 < r1 := by omega
  clear hr0 hr1
  have qz : r1 < W1.heap.size := b1.lt
  go_upto_region 1 with fail
  refine wp_region_lit ?_
  refine wpList_plain rfl (fun K hK => ?_); (first | (refine wp_ld 28 _ (b0.range) (by rfl) (by rfl) Try.underlying28 rfl (by exact Try.infoT) ?_)); (try dsimp only); refine hK _ _ ?_; clear hK K; (try simp only [Act.put, Zs, Zz, Zc])
  refine wpList_plain rfl (fun K hK => ?_); go_simp; (try dsimp only); refine hK _ _ ?_; clear hK K; (try simp only [Act.put, Zs, Zz, Zc])
  refine wpList_plain rfl (fun K hK => ?_); go_simp; (go_at_call 27; refine (pnext_ref s v _ e HE0.out (fun W hW => HC.out W (hE.trans hW))).mono ?_; intro e W2 hpp; obtain ⟨rfl, hx⟩ := hpp); (try dsimp only); refine hK _ _ ?_; clear hK K; (try simp only [Act.put, Zs, Zz, Zc])
  replace b0 := b0.ext hx
  replace b1 := b1.ext hx
  replace hE := hE.trans hx
  clear hx
  replace qz : r1 < W2.heap.size := b1.lt
  iterate 4 (refine wpList_plain rfl (fun K hK => ?_); go_simp; (try dsimp only); refine hK _ _ ?_; clear hK K; (try simp only [Act.put, Zs, Zz, Zc]))
  refine name_wl (fun W3 hW => ?_)
  have hx : Ext W2 W3 := by rw [hW]; exact ext_alloc _ _
  have b2 : Blk W3 W2.heap.size 25 RV.z.cs := by rw [hW]; exact Blk.newAt rfl
  clear hW
  replace b0 := b0.ext hx
  replace b1 := b1.ext hx
  replace hE := hE.trans hx
  clear hx
  obtain ⟨r2, hr⟩ : ∃ r, r = W2.heap.size := ⟨_, rfl⟩
  rw [← hr] at b2
  try rw [← hr]
  have q2 : r1 < r2 := by omega
  clear hr
  replace qz : r2 < W3.heap.size := b2.lt
  refine wpList_plain rfl (fun K hK => ?_)
  refine wp_store_box 25 _ _ (by rfl) b2 (by rfl) (by rfl) (by exact Try.infoR) (by first | exact RV.one _ | exact TV.one _ rfl | exact TV.one TV.z rfl | exact RV.one _ | exact RV.one RV.z) (by rfl) (fun W4 hg bn => ?_)
  replace b0 := b0.kept hg (Zn (by omega))
  replace b1 := b1.kept hg (Zn (by omega))
  replace hE := ext_grow hE hg (fun q hq => by cases hq; omega)
  clear b2 hg
  have b2 := bn
  clear bn
  (try dsimp only); refine hK _ _ ?_; clear hK K; (try simp only [Act.put, Zs, Zz, Zc])
  replace qz : r2 < W4.heap.size := b2.lt
  refine wpList_plain rfl (fun K hK => ?_); go_simp; (try dsimp only); refine hK _ _ ?_; clear hK K; (try simp only [Act.put, Zs, Zz, Zc])
  refine wpList_nil ?_
  go_upto_region 2 with fail
  refine wp_region_lit ?_
  iterate 3 (refine wpList_plain rfl (fun K hK => ?_); go_simp; (try dsimp only); refine hK _ _ ?_; clear hK K; (try simp only [Act.put, Zs, Zz, Zc]))
  iterate 4 (refine wpList_step (fun K hK => ?_); rw [if_neg (by exact Bool.false_ne_true)]; (try dsimp only); refine hK _ _ ?_; clear hK K; (try simp only [Act.put, Zs, Zz, Zc]))
  refine wpList_plain rfl (fun K hK => ?_); go_simp; (try dsimp only); refine hK _ _ ?_; clear hK K; (try simp only [Act.put, Zs, Zz, Zc])
  refine wpList_nil ?_
  go_upto_region 3 with fail
  refine wp_region_lit ?_
  refine wpList_plain rfl (fun K hK => ?_); go_simp; (try dsimp only); refine hK _ _ ?_; clear hK K; (try simp only [Act.put, Zs, Zz, Zc])
  refine wpList_plain rfl (fun K hK => ?_)
  refine wp_store_box 25 _ _ (by rfl) b1 (by rfl) (by rfl) (by exact Try.infoR) (by first | exact RV.one _ | exact TV.one _ rfl | exact TV.one TV.z rfl | exact RV.one _ | exact RV.one RV.z) (by rfl) (fun W5 hg bn => ?_)
  replace b0 := b0.kept hg (Zn (by omega))
  replace b2 := b2.kept hg (Zn (by omega))
  replace hE := ext_grow hE hg (fun q hq => by cases hq; omega)
  clear b1 hg
  have b1 := bn
  clear bn
  (try dsimp only); refine hK _ _ ?_; clear hK K; (try simp only [Act.put, Zs, Zz, Zc])
  replace qz : r2 < W5.heap.size := b2.lt
  refine wpList_plain rfl (fun K hK => ?_); go_simp; (try dsimp only); refine hK _ _ ?_; clear hK K; (try simp only [Act.put, Zs, Zz, Zc])
  refine wpList_nil ?_
  have b1_ : Blk W5 r1 25 RV.z.cs := b1
  go_wp2_with fail
  exact bodyPost_ret (res_ct rfl (GivesC.of b1 rfl Try.underlying25 rfl Try.infoR) rfl) rfl ⟨rfl, hE⟩

set_option maxRecDepth 100000 in
set_option maxHeartbeats 4000000 in
theorem plist_ref (v : TV) (w : World) (e : Int) (he : e ≠ 0) (hC : PChkIs v w e) :
    Calls Try.prog 17 #[.agg v.cs.toArray] w fun x w' => x = .returned (.slice none 0 0) ∧ Ext w w' := by
  have hb0 : (e != 0) = true := by simpa using he
  have HC : Hid (PChkIs v w e) := hC
  clear hC he
  go_enter Try.func17, Try.ntmps17
  go_upto_region 1 with fail
  refine name_wX (fun W1 hW => ?_)
  have hE : Ext w W1 := by rw [hW]; repeat' (first | exact Ext.refl _ | apply Ext.al)
  have b0 : Blk W1 (w.heap.size) 28 v.cs := by rw [hW]; exact Blk.newAt rfl
  clear hW
  obtain ⟨r0, hr0⟩ : ∃ r, r = w.heap.size := ⟨_, rfl⟩
  rw [← hr0] at b0
  try rw [← hr0]
  have q0 : w.heap.size ≤ r0 := by omega
  clear hr0
  have qz : r0 < W1.heap.size := b0.lt
  go_upto_region 1 with fail
  refine wp_region_lit ?_
  refine wpList_plain rfl (fun K hK => ?_); (first | (refine wp_ld 28 _ (b0.range) (by rfl) (by rfl) Try.underlying28 rfl (by exact Try.infoT) ?_)); (try dsimp only); refine hK _ _ ?_; clear hK K; (try simp only [Act.put, Zs, Zz, Zc])
  refine wpList_plain rfl (fun K hK => ?_); go_simp; (go_at_call 22; refine (HC.out _ hE).mono ?_; intro e W2 hpp; obtain ⟨rfl, hx⟩ := hpp); (try dsimp only); refine hK _ _ ?_; clear hK K; (try simp only [Act.put, Zs, Zz, Zc])
  replace b0 := b0.ext hx
  replace hE := hE.trans hx
  clear hx
  replace qz : r0 < W2.heap.size := b0.lt
  refine wpList_plain rfl (fun K hK => ?_); go_simp; (try simp (disch := omega) only [Yq, Yr]); (try simp only [hb0]); (try dsimp only); refine hK _ _ ?_; clear hK K; (try simp only [Act.put, Zs, Zz, Zc])
  refine wpList_nil ?_
  go_upto_region 2 with fail
  refine wp_region_lit ?_
  refine wpList_plain rfl (fun K hK => ?_); go_simp; (try dsimp only); refine hK _ _ ?_; clear hK K; (try simp only [Act.put, Zs, Zz, Zc])
  refine wpList_nil ?_
  go_wp2_with fail
  go_ret
  exact ⟨rfl, hE⟩

set_option maxRecDepth 100000 in
set_option maxHeartbeats 4000000 in
theorem pgap_ref (a b c : Int) (v : TV) (w : World) (e : Int) (he : e ≠ 0) (hC : PChkIs v w e) :
    Calls Try.prog 28 #[.agg v.cs.toArray, .int .i64 a, .int .i64 b, .int .i64 c] w fun x w' => x = .returned (.int .i64 (-1)) ∧ Ext w w' := by
  have hb0 : (e != 0) = true := by simpa using he
  have HC : Hid (PChkIs v w e) := hC
  clear hC he
  go_enter Try.func28, Try.ntmps28
  go_upto_region 1 with fail
  refine name_wX (fun W1 hW => ?_)
  have hE : Ext w W1 := by rw [hW]; repeat' (first | exact Ext.refl _ | apply Ext.al)
  have b0 : Blk W1 (w.heap.size) 28 v.cs := by rw [hW]; exact Blk.newAt rfl
  clear hW
  obtain ⟨r0, hr0⟩ : ∃ r, r = w.heap.size := ⟨_, rfl⟩
  rw [← hr0] at b0
  try rw [← hr0]
  have q0 : w.heap.size ≤ r0 := by omega
  clear hr0
  have qz : r0 < W1.heap.size := b0.lt
  go_upto_region 1 with fail
  refine wp_region_lit ?_
  refine wpList_plain rfl (fun K hK => ?_); (first | (refine wp_ld 28 _ (b0.range) (by rfl) (by rfl) Try.underlying28 rfl (by exact Try.infoT) ?_)); (try dsimp only); refine hK _ _ ?_; clear hK K; (try simp only [Act.put, Zs, Zz, Zc])
  refine wpList_plain rfl (fun K hK => ?_); go_simp; (go_at_call 22; refine (HC.out _ hE).mono ?_; intro e W2 hpp; obtain ⟨rfl, hx⟩ := hpp); (try dsimp only); refine hK _ _ ?_; clear hK K; (try simp only [Act.put, Zs, Zz, Zc])
  replace b0 := b0.ext hx
  replace hE := hE.trans hx
  clear hx
  replace qz : r0 < W2.heap.size := b0.lt
  refine wpList_plain rfl (fun K hK => ?_); go_simp; (try simp (disch := omega) only [Yq, Yr]); (try simp only [hb0]); (try dsimp only); refine hK _ _ ?_; clear hK K; (try simp only [Act.put, Zs, Zz, Zc])
  refine wpList_plain rfl (fun K hK => ?_); go_simp; (try dsimp only); refine hK _ _ ?_; clear hK K; (try simp only [Act.put, Zs, Zz, Zc])
  iterate 2 (refine wpList_step (fun K hK => ?_); rw [if_neg (by exact Bool.false_ne_true)]; (try dsimp only); refine hK _ _ ?_; clear hK K; (try simp only [Act.put, Zs, Zz, Zc]))
  iterate 2 (refine wpList_plain rfl (fun K hK => ?_); go_simp; (try dsimp only); refine hK _ _ ?_; clear hK K; (try simp only [Act.put, Zs, Zz, Zc]))
  iterate 3 (refine wpList_step (fun K hK => ?_); rw [if_neg (by exact Bool.false_ne_true)]; (try dsimp only); refine hK _ _ ?_; clear hK K; (try simp only [Act.put, Zs, Zz, Zc]))
  iterate 2 (refine wpList_plain rfl (fun K hK => ?_); go_simp; (try dsimp only); refine hK _ _ ?_; clear hK K; (try simp only [Act.put, Zs, Zz, Zc]))
  iterate 2 (refine wpList_step (fun K hK => ?_); rw [if_neg (by exact Bool.false_ne_true)]; (try dsimp only); refine hK _ _ ?_; clear hK K; (try simp only [Act.put, Zs, Zz, Zc]))
  iterate 2 (refine wpList_plain rfl (fun K hK => ?_); go_simp; (try dsimp only); refine hK _ _ ?_; clear hK K; (try simp only [Act.put, Zs, Zz, Zc]))
  iterate 2 (refine wpList_step (fun K hK => ?_); rw [if_neg (by exact Bool.false_ne_true)]; (try dsimp only); refine hK _ _ ?_; clear hK K; (try simp only [Act.put, Zs, Zz, Zc]))
  iterate 2 (refine wpList_plain rfl (fun K hK => ?_); go_simp; (try dsimp only); refine hK _ _ ?_; clear hK K; (try simp only [Act.put, Zs, Zz, Zc]))
  iterate 2 (refine wpList_step (fun K hK => ?_); rw [if_neg (by exact Bool.false_ne_true)]; (try dsimp only); refine hK _ _ ?_; clear hK K; (try simp only [Act.put, Zs, Zz, Zc]))
  refine wpList_plain rfl (fun K hK => ?_); go_simp; (try dsimp only); refine hK _ _ ?_; clear hK K; (try simp only [Act.put, Zs, Zz, Zc])
  refine wpList_nil ?_
  go_upto_region 2 with fail
  refine wp_region_lit ?_
  refine wpList_plain rfl (fun K hK => ?_); go_simp; (try dsimp only); refine hK _ _ ?_; clear hK K; (try simp only [Act.put, Zs, Zz, Zc])
  refine wpList_nil ?_
  go_wp2_with fail
  go_ret
  exact ⟨rfl, hE⟩

set_option maxRecDepth 100000 in
set_option maxHeartbeats 4000000 in
theorem pchk_unf {n0 : Nat} (k : GK) (v : TV) (w : World) (hn : n0 ≤ w.heap.size) (hk : isKv n0 w k v.k) (hf : fm1 v.h v.f v.l v.g v.x k.len (fmL k) = false) :
    Calls Try.prog 22 #[.agg v.cs.toArray] w fun x w' => x = .returned (.int .i64 3) ∧ Ext w w' := by
  have HK : Hid (isKv n0 w k v.k) := hk
  have HF : Hid (fm1 v.h v.f v.l v.g v.x k.len (fmL k) = false) := hf
  clear hk hf
  go_enter Try.func22, Try.ntmps22
  go_upto_region 1 with fail
  refine name_wX (fun W1 hW => ?_)
  have hE : Ext w W1 := by rw [hW]; repeat' (first | exact Ext.refl _ | apply Ext.al)
  have b0 : Blk W1 (w.heap.size) 28 v.cs := by rw [hW]; exact Blk.newAt rfl
  clear hW
  obtain ⟨r0, hr0⟩ : ∃ r, r = w.heap.size := ⟨_, rfl⟩
  rw [← hr0] at b0
  try rw [← hr0]
  have q0 : w.heap.size ≤ r0 := by omega
  clear hr0
  have qz : r0 < W1.heap.size := b0.lt
  go_upto_region 1 with fail
  refine wp_region_lit ?_
  refine wpList_plain rfl (fun K hK => ?_); (first | (refine wp_ld 28 _ (b0.range) (by rfl) (by rfl) Try.underlying28 rfl (by exact Try.infoT) ?_)); (try dsimp only); refine hK _ _ ?_; clear hK K; (try simp only [Act.put, Zs, Zz, Zc])
  refine wpList_plain rfl (fun K hK => ?_); go_simp; (go_at_call 42; refine (pfm_is (pfm_any k) n0 v _ (Nat.le_trans hn hE.below.size) (isKv.ext HK.out hn hE) false HF.out).mono ?_; intro e W2 hpp; obtain ⟨rfl, hx⟩ := hpp); (try dsimp only); refine hK _ _ ?_; clear hK K; (try simp only [Act.put, Zs, Zz, Zc])
  replace b0 := b0.ext hx
  replace hE := hE.trans hx
  clear hx
  replace qz : r0 < W2.heap.size := b0.lt
  refine wpList_plain rfl (fun K hK => ?_); go_simp; (try dsimp only); refine hK _ _ ?_; clear hK K; (try simp only [Act.put, Zs, Zz, Zc])
  refine wpList_nil ?_
  go_upto_region 2 with fail
  refine wp_region_lit ?_
  refine wpList_plain rfl (fun K hK => ?_); go_simp; (try dsimp only); refine hK _ _ ?_; clear hK K; (try simp only [Act.put, Zs, Zz, Zc])
  refine wpList_nil ?_
  go_wp2_with fail
  go_ret
  exact ⟨rfl, hE⟩

set_option maxRecDepth 100000 in
set_option maxHeartbeats 4000000 in
theorem rchk_unf {n0 : Nat} (k : GK) (v : TV) (w : World) (hn : n0 ≤ w.heap.size) (hk : isKv n0 w k v.k) (hf : fm1 v.h v.f v.l v.g v.x k.len (fmL k) = false) :
    Calls Try.prog 24 #[.agg v.cs.toArray] w fun x w' => x = .returned (.int .i64 3) ∧ Ext w w' := by
  have HK : Hid (isKv n0 w k v.k) := hk
  have HF : Hid (fm1 v.h v.f v.l v.g v.x k.len (fmL k) = false) := hf
  clear hk hf
  go_enter Try.func24, Try.ntmps24
  go_upto_region 1 with fail
  refine name_wX (fun W1 hW => ?_)
  have hE : Ext w W1 := by rw [hW]; repeat' (first | exact Ext.refl _ | apply Ext.al)
  have b0 : Blk W1 (w.heap.size) 28 v.cs := by rw [hW]; exact Blk.newAt rfl
  clear hW
  obtain ⟨r0, hr0⟩ : ∃ r, r = w.heap.size := ⟨_, rfl⟩
  rw [← hr0] at b0
  try rw [← hr0]
  have q0 : w.heap.size ≤ r0 := by omega
  clear hr0
  have qz : r0 < W1.heap.size := b0.lt
  go_upto_region 1 with fail
  refine wp_region_lit ?_
  refine wpList_plain rfl (fun K hK => ?_); (first | (refine wp_ld 28 _ (b0.range) (by rfl) (by rfl) Try.underlying28 rfl (by exact Try.infoT) ?_)); (try dsimp only); refine hK _ _ ?_; clear hK K; (try simp only [Act.put, Zs, Zz, Zc])
  refine wpList_plain rfl (fun K hK => ?_); go_simp; (go_at_call 47; refine (rfm_is (rfm_any k) n0 v _ (Nat.le_trans hn hE.below.size) (isKv.ext HK.out hn hE) false HF.out).mono ?_; intro e W2 hpp; obtain ⟨rfl, hx⟩ := hpp); (try dsimp only); refine hK _ _ ?_; clear hK K; (try simp only [Act.put, Zs, Zz, Zc])
  replace b0 := b0.ext hx
  replace hE := hE.trans hx
  clear hx
  replace qz : r0 < W2.heap.size := b0.lt
  refine wpList_plain rfl (fun K hK => ?_); go_simp; (try dsimp only); refine hK _ _ ?_; clear hK K; (try simp only [Act.put, Zs, Zz, Zc])
  refine wpList_nil ?_
  go_upto_region 2 with fail
  refine wp_region_lit ?_
  refine wpList_plain rfl (fun K hK => ?_); go_simp; (try dsimp only); refine hK _ _ ?_; clear hK K; (try simp only [Act.put, Zs, Zz, Zc])
  refine wpList_nil ?_
  go_wp2_with fail
  go_ret
  exact ⟨rfl, hE⟩


end Go.Proofs.Ytnbohogkfdeddaa

set_option linter.unusedSimpArgs false
set_option linter.unusedVariables false
namespace Go.Proofs.Ytnbohogkfdeddaa
open Go.RowKit

theorem few_is {n0 : Nat} (k : GK) (v : TV) (w : World) (hn : n0 ≤ w.heap.size) (hk : isKv n0 w k v.k) (b : Bool) (hb : decide (nodL k 1 200 ≤ 200) = b) :
    Calls Try.prog 23 #[.agg v.cs.toArray] w fun e w' => e = .returned (.bool b) ∧ Ext w w' := by
  subst hb
  exact few_any k v w hn hk
set_option maxRecDepth 100000 in
set_option maxHeartbeats 4000000 in
theorem law_checks_big {n0 : Nat} (k : GK) (v : TV) (pg : Int) (w : World) (hn : n0 ≤ w.heap.size) (hk : isKv n0 w k v.k) (hfew : decide (nodL k 1 200 ≤ 200) = false) :
    Calls Try.prog 6 #[.agg v.cs.toArray, .int .i64 pg] w fun e w' => e = .returned (.bool true) ∧ Ext w w' := by
  have HK : Hid (isKv n0 w k v.k) := hk
  have hone := isKv.one hk
  clear hk
  replace hfew : Hid _ := hfew
  go_enter Try.func6, Try.ntmps6
  go_upto_region 1 with fail
  refine name_wX (fun W1 hW => ?_)
  have hE : Ext w W1 := by rw [hW]; repeat' (first | exact Ext.refl _ | apply Ext.al)
  have b0 : Blk W1 (w.heap.size) 28 v.cs := by rw [hW]; exact Blk.newAt rfl
  clear hW
  obtain ⟨r0, hr0⟩ : ∃ r, r = w.heap.size := ⟨_, rfl⟩
  rw [← hr0] at b0
  try rw [← hr0]
  have q0 : w.heap.size ≤ r0 := by omega
  clear hr0
  have qz : r0 < W1.heap.size := b0.lt
  go_upto_region 1 with fail
  refine wp_region_lit ?_
  refine wpList_plain rfl (fun K hK => ?_); go_simp; (go_at_call 11; refine (awake_ok _).mono ?_; intro e W2 hpp; obtain ⟨rfl, hx⟩ := hpp); (try dsimp only); refine hK _ _ ?_; clear hK K; (try simp only [Act.put, Zs, Zz, Zc])
  replace b0 := b0.ext hx
  replace hE := hE.trans hx
  clear hx
  replace qz : r0 < W2.heap.size := b0.lt
  iterate 2 (refine wpList_plain rfl (fun K hK => ?_); go_simp; (try dsimp only); refine hK _ _ ?_; clear hK K; (try simp only [Act.put, Zs, Zz, Zc]))
  refine wpList_step (fun K hK => ?_); rw [if_pos (by rfl)]; (first | (refine wp_ld 28 _ (b0.range) (by rfl) (by rfl) Try.underlying28 rfl (by exact Try.infoT) ?_)); (try dsimp only); refine hK _ _ ?_; clear hK K; (try simp only [Act.put, Zs, Zz, Zc])
  refine wpList_step (fun K hK => ?_); rw [if_pos (by rfl)]; go_simp; (go_at_call 23; refine (few_is k v _ (Nat.le_trans hn hE.below.size) (isKv.ext HK.out hn hE) false hfew.out).mono ?_; intro e W3 hpp; obtain ⟨rfl, hx⟩ := hpp); (try dsimp only); refine hK _ _ ?_; clear hK K; (try simp only [Act.put, Zs, Zz, Zc])
  replace b0 := b0.ext hx
  replace hE := hE.trans hx
  clear hx
  replace qz : r0 < W3.heap.size := b0.lt
  refine wpList_step (fun K hK => ?_); rw [if_pos (by rfl)]; go_simp; (try dsimp only); refine hK _ _ ?_; clear hK K; (try simp only [Act.put, Zs, Zz, Zc])
  refine wpList_plain rfl (fun K hK => ?_); go_simp; (try dsimp only); refine hK _ _ ?_; clear hK K; (try simp only [Act.put, Zs, Zz, Zc])
  refine wpList_nil ?_
  go_upto_region 2 with fail
  refine wp_region_lit ?_
  refine wpList_plain rfl (fun K hK => ?_); go_simp; (go_at_call 11; refine (awake_ok _).mono ?_; intro e W4 hpp; obtain ⟨rfl, hx⟩ := hpp); (try dsimp only); refine hK _ _ ?_; clear hK K; (try simp only [Act.put, Zs, Zz, Zc])
  replace b0 := b0.ext hx
  replace hE := hE.trans hx
  clear hx
  replace qz : r0 < W4.heap.size := b0.lt
  refine wpList_plain rfl (fun K hK => ?_); go_simp; (try dsimp only); refine hK _ _ ?_; clear hK K; (try simp only [Act.put, Zs, Zz, Zc])
  refine wpList_nil ?_
  go_wp2_with fail
  go_ret
  exact ⟨rfl, hE⟩

set_option maxRecDepth 100000 in
set_option maxHeartbeats 4000000 in
theorem law_checks_bad {n0 : Nat} (k : GK) (v : TV) (pg : Int) (w : World) (hn : n0 ≤ w.heap.size) (hk : isKv n0 w k v.k) (hfew : decide (nodL k 1 200 ≤ 200) = true) (e : Int) (he : e ≠ 0) (hP : PChkIs v w e) (hR : RChkIs v w e) :
    Calls Try.prog 6 #[.agg v.cs.toArray, .int .i64 pg] w fun e w' => e = .returned (.bool true) ∧ Ext w w' := by
  have HK : Hid (isKv n0 w k v.k) := hk
  have hone := isKv.one hk
  clear hk
  replace hfew : Hid _ := hfew
  replace hP : Hid _ := hP
  replace hR : Hid _ := hR
  have hb0 : (e == 0) = false := by simpa using he
  have hbe : (e != e) = false := by simp
  replace he : Hid _ := he
  go_enter Try.func6, Try.ntmps6
  go_upto_region 1 with fail
  refine name_wX (fun W1 hW => ?_)
  have hE : Ext w W1 := by rw [hW]; repeat' (first | exact Ext.refl _ | apply Ext.al)
  have b0 : Blk W1 (w.heap.size) 28 v.cs := by rw [hW]; exact Blk.newAt rfl
  clear hW
  obtain ⟨r0, hr0⟩ : ∃ r, r = w.heap.size := ⟨_, rfl⟩
  rw [← hr0] at b0
  try rw [← hr0]
  have q0 : w.heap.size ≤ r0 := by omega
  clear hr0
  have qz : r0 < W1.heap.size := b0.lt
  go_upto_region 1 with fail
  refine wp_region_lit ?_
  refine wpList_plain rfl (fun K hK => ?_); go_simp; (go_at_call 11; refine (awake_ok _).mono ?_; intro e W2 hpp; obtain ⟨rfl, hx⟩ := hpp); (try dsimp only); refine hK _ _ ?_; clear hK K; (try simp only [Act.put, Zs, Zz, Zc])
  replace b0 := b0.ext hx
  replace hE := hE.trans hx
  clear hx
  replace qz : r0 < W2.heap.size := b0.lt
  iterate 2 (refine wpList_plain rfl (fun K hK => ?_); go_simp; (try dsimp only); refine hK _ _ ?_; clear hK K; (try simp only [Act.put, Zs, Zz, Zc]))
  refine wpList_step (fun K hK => ?_); rw [if_pos (by rfl)]; (first | (refine wp_ld 28 _ (b0.range) (by rfl) (by rfl) Try.underlying28 rfl (by exact Try.infoT) ?_)); (try dsimp only); refine hK _ _ ?_; clear hK K; (try simp only [Act.put, Zs, Zz, Zc])
  refine wpList_step (fun K hK => ?_); rw [if_pos (by rfl)]; go_simp; (go_at_call 23; refine (few_is k v _ (Nat.le_trans hn hE.below.size) (isKv.ext HK.out hn hE) true hfew.out).mono ?_; intro e W3 hpp; obtain ⟨rfl, hx⟩ := hpp); (try dsimp only); refine hK _ _ ?_; clear hK K; (try simp only [Act.put, Zs, Zz, Zc])
  replace b0 := b0.ext hx
  replace hE := hE.trans hx
  clear hx
  replace qz : r0 < W3.heap.size := b0.lt
  refine wpList_step (fun K hK => ?_); rw [if_pos (by rfl)]; go_simp; (try dsimp only); refine hK _ _ ?_; clear hK K; (try simp only [Act.put, Zs, Zz, Zc])
  refine wpList_plain rfl (fun K hK => ?_); go_simp; (try dsimp only); refine hK _ _ ?_; clear hK K; (try simp only [Act.put, Zs, Zz, Zc])
  refine wpList_nil ?_
  go_upto_region 3 with fail
  refine wp_region_lit ?_
  refine wpList_plain rfl (fun K hK => ?_); (first | (refine wp_ld 28 _ (b0.range) (by rfl) (by rfl) Try.underlying28 rfl (by exact Try.infoT) ?_)); (try dsimp only); refine hK _ _ ?_; clear hK K; (try simp only [Act.put, Zs, Zz, Zc])
  refine wpList_plain rfl (fun K hK => ?_); go_simp; (go_at_call 24; refine (hR.out _ hE).mono ?_; intro e W4 hpp; obtain ⟨rfl, hx⟩ := hpp); (try dsimp only); refine hK _ _ ?_; clear hK K; (try simp only [Act.put, Zs, Zz, Zc])
  replace b0 := b0.ext hx
  replace hE := hE.trans hx
  clear hx
  replace qz : r0 < W4.heap.size := b0.lt
  refine wpList_plain rfl (fun K hK => ?_); go_simp; (try dsimp only); refine hK _ _ ?_; clear hK K; (try simp only [Act.put, Zs, Zz, Zc])
  refine wpList_nil ?_
  go_upto_region 4 with fail
  refine wp_region_lit ?_
  refine wpList_plain rfl (fun K hK => ?_); (first | (refine wp_ld 28 _ (b0.range) (by rfl) (by rfl) Try.underlying28 rfl (by exact Try.infoT) ?_)); (try dsimp only); refine hK _ _ ?_; clear hK K; (try simp only [Act.put, Zs, Zz, Zc])
  refine wpList_plain rfl (fun K hK => ?_); go_simp; (go_at_call 22; refine (hP.out _ hE).mono ?_; intro e W5 hpp; obtain ⟨rfl, hx⟩ := hpp); (try dsimp only); refine hK _ _ ?_; clear hK K; (try simp only [Act.put, Zs, Zz, Zc])
  replace b0 := b0.ext hx
  replace hE := hE.trans hx
  clear hx
  replace qz : r0 < W5.heap.size := b0.lt
  refine wpList_plain rfl (fun K hK => ?_); go_simp; (try dsimp only); refine hK _ _ ?_; clear hK K; (try simp only [Act.put, Zs, Zz, Zc])
  refine wpList_plain rfl (fun K hK => ?_); go_simp; (try simp (disch := omega) only [Yq, Yr]); (try simp only [hbe]); (try dsimp only); refine hK _ _ ?_; clear hK K; (try simp only [Act.put, Zs, Zz, Zc])
  refine wpList_nil ?_
  go_upto_region 6 with fail
  refine wp_region_lit ?_
  refine wpList_plain rfl (fun K hK => ?_); go_simp; (try dsimp only); refine hK _ _ ?_; clear hK K; (try simp only [Act.put, Zs, Zz, Zc])
  refine wpList_plain rfl (fun K hK => ?_); go_simp; (try simp (disch := omega) only [Yq, Yr]); (try simp only [hb0]); (try dsimp only); refine hK _ _ ?_; clear hK K; (try simp only [Act.put, Zs, Zz, Zc])
  refine wpList_nil ?_
  go_upto_region 8 with fail
  refine wp_region_lit ?_
  refine wpList_plain rfl (fun K hK => ?_); (first | (refine wp_ld 28 _ (b0.range) (by rfl) (by rfl) Try.underlying28 rfl (by exact Try.infoT) ?_)); (try dsimp only); refine hK _ _ ?_; clear hK K; (try simp only [Act.put, Zs, Zz, Zc])
  refine wpList_plain rfl (fun K hK => ?_); go_simp; (try dsimp only); refine hK _ _ ?_; clear hK K; (try simp only [Act.put, Zs, Zz, Zc])
  refine wpList_plain rfl (fun K hK => ?_); go_simp; (go_at_call 15; refine (pins_ref ⟨1, 1, 0, 0, 0, 0⟩ v _ e he.out (fun W hW => hP.out W (hE.trans hW))).mono ?_; intro e W6 hpp; obtain ⟨rfl, hx⟩ := hpp); (try dsimp only); refine hK _ _ ?_; clear hK K; (try simp only [Act.put, Zs, Zz, Zc])
  replace b0 := b0.ext hx
  replace hE := hE.trans hx
  clear hx
  replace qz : r0 < W6.heap.size := b0.lt
  iterate 4 (refine wpList_plain rfl (fun K hK => ?_); go_simp; (try dsimp only); refine hK _ _ ?_; clear hK K; (try simp only [Act.put, Zs, Zz, Zc]))
  refine name_wl (fun W7 hW => ?_)
  have hx : Ext W6 W7 := by rw [hW]; exact ext_alloc _ _
  have b1 : Blk W7 W6.heap.size 28 TV.z.cs := by rw [hW]; exact Blk.newAt rfl
  clear hW
  replace b0 := b0.ext hx
  replace hE := hE.trans hx
  clear hx
  obtain ⟨r1, hr⟩ : ∃ r, r = W6.heap.size := ⟨_, rfl⟩
  rw [← hr] at b1
  try rw [← hr]
  have q1 : r0 < r1 := by omega
  clear hr
  replace qz : r1 < W7.heap.size := b1.lt
  refine wpList_plain rfl (fun K hK => ?_)
  refine wp_store_box 28 _ _ (by rfl) b1 (by rfl) (by rfl) (by exact Try.infoT) (by first | exact RV.one _ | exact TV.one _ rfl | exact TV.one TV.z rfl | exact RV.one _ | exact RV.one RV.z) (by rfl) (fun W8 hg bn => ?_)
  replace b0 := b0.kept hg (Zn (by omega))
  replace hE := ext_grow hE hg (fun q hq => by cases hq; omega)
  clear b1 hg
  have b1 := bn
  clear bn
  (try dsimp only); refine hK _ _ ?_; clear hK K; (try simp only [Act.put, Zs, Zz, Zc])
  replace qz : r1 < W8.heap.size := b1.lt
  refine wpList_plain rfl (fun K hK => ?_); go_simp; (try dsimp only); refine hK _ _ ?_; clear hK K; (try simp only [Act.put, Zs, Zz, Zc])
  refine wpList_nil ?_
  go_upto_region 9 with fail
  refine wp_region_lit ?_
  refine wpList_plain rfl (fun K hK => ?_); (first | (refine wp_ld 28 _ (b0.range) (by rfl) (by rfl) Try.underlying28 rfl (by exact Try.infoT) ?_)); (try dsimp only); refine hK _ _ ?_; clear hK K; (try simp only [Act.put, Zs, Zz, Zc])
  refine wpList_plain rfl (fun K hK => ?_); go_simp; (try dsimp only); refine hK _ _ ?_; clear hK K; (try simp only [Act.put, Zs, Zz, Zc])
  refine wpList_plain rfl (fun K hK => ?_); go_simp; (go_at_call 20; refine (pdel_ref pg v _ e he.out (fun W hW => hP.out W (hE.trans hW))).mono ?_; intro e W9 hpp; obtain ⟨rfl, hx⟩ := hpp); (try dsimp only); refine hK _ _ ?_; clear hK K; (try simp only [Act.put, Zs, Zz, Zc])
  replace b0 := b0.ext hx
  replace b1 := b1.ext hx
  replace hE := hE.trans hx
  clear hx
  replace qz : r1 < W9.heap.size := b1.lt
  iterate 4 (refine wpList_plain rfl (fun K hK => ?_); go_simp; (try dsimp only); refine hK _ _ ?_; clear hK K; (try simp only [Act.put, Zs, Zz, Zc]))
  refine name_wl (fun W10 hW => ?_)
  have hx : Ext W9 W10 := by rw [hW]; exact ext_alloc _ _
  have b2 : Blk W10 W9.heap.size 28 TV.z.cs := by rw [hW]; exact Blk.newAt rfl
  clear hW
  replace b0 := b0.ext hx
  replace b1 := b1.ext hx
  replace hE := hE.trans hx
  clear hx
  obtain ⟨r2, hr⟩ : ∃ r, r = W9.heap.size := ⟨_, rfl⟩
  rw [← hr] at b2
  try rw [← hr]
  have q2 : r1 < r2 := by omega
  clear hr
  replace qz : r2 < W10.heap.size := b2.lt
  refine wpList_plain rfl (fun K hK => ?_)
  refine wp_store_box 28 _ _ (by rfl) b2 (by rfl) (by rfl) (by exact Try.infoT) (by first | exact RV.one _ | exact TV.one _ rfl | exact TV.one TV.z rfl | exact RV.one _ | exact RV.one RV.z) (by rfl) (fun W11 hg bn => ?_)
  replace b0 := b0.kept hg (Zn (by omega))
  replace b1 := b1.kept hg (Zn (by omega))
  replace hE := ext_grow hE hg (fun q hq => by cases hq; omega)
  clear b2 hg
  have b2 := bn
  clear bn
  (try dsimp only); refine hK _ _ ?_; clear hK K; (try simp only [Act.put, Zs, Zz, Zc])
  replace qz : r2 < W11.heap.size := b2.lt
  refine wpList_plain rfl (fun K hK => ?_); go_simp; (try dsimp only); refine hK _ _ ?_; clear hK K; (try simp only [Act.put, Zs, Zz, Zc])
  refine wpList_nil ?_
  go_upto_region 10 with fail
  refine wp_region_lit ?_
  refine wpList_plain rfl (fun K hK => ?_); (first | (refine wp_ld 28 _ (b0.range) (by rfl) (by rfl) Try.underlying28 rfl (by exact Try.infoT) ?_)); (try dsimp only); refine hK _ _ ?_; clear hK K; (try simp only [Act.put, Zs, Zz, Zc])
  refine wpList_plain rfl (fun K hK => ?_); go_simp; (try dsimp only); refine hK _ _ ?_; clear hK K; (try simp only [Act.put, Zs, Zz, Zc])
  refine wpList_plain rfl (fun K hK => ?_); go_simp; (go_at_call 26; refine (pfind_ref pg v _ e he.out (fun W hW => hP.out W (hE.trans hW))).mono ?_; intro e W12 hpp; obtain ⟨rfl, hx⟩ := hpp); (try dsimp only); refine hK _ _ ?_; clear hK K; (try simp only [Act.put, Zs, Zz, Zc])
  replace b0 := b0.ext hx
  replace b1 := b1.ext hx
  replace b2 := b2.ext hx
  replace hE := hE.trans hx
  clear hx
  replace qz : r2 < W12.heap.size := b2.lt
  iterate 4 (refine wpList_plain rfl (fun K hK => ?_); go_simp; (try dsimp only); refine hK _ _ ?_; clear hK K; (try simp only [Act.put, Zs, Zz, Zc]))
  refine name_wl (fun W13 hW => ?_)
  have hx : Ext W12 W13 := by rw [hW]; exact ext_alloc _ _
  have b3 : Blk W13 W12.heap.size 25 RV.z.cs := by rw [hW]; exact Blk.newAt rfl
  clear hW
  replace b0 := b0.ext hx
  replace b1 := b1.ext hx
  replace b2 := b2.ext hx
  replace hE := hE.trans hx
  clear hx
  obtain ⟨r3, hr⟩ : ∃ r, r = W12.heap.size := ⟨_, rfl⟩
  rw [← hr] at b3
  try rw [← hr]
  have q3 : r2 < r3 := by omega
  clear hr
  replace qz : r3 < W13.heap.size := b3.lt
  refine wpList_plain rfl (fun K hK => ?_)
  refine wp_store_box 25 _ _ (by rfl) b3 (by rfl) (by rfl) (by exact Try.infoR) (by first | exact RV.one _ | exact TV.one _ rfl | exact TV.one TV.z rfl | exact RV.one _ | exact RV.one RV.z) (by rfl) (fun W14 hg bn => ?_)
  replace b0 := b0.kept hg (Zn (by omega))
  replace b1 := b1.kept hg (Zn (by omega))
  replace b2 := b2.kept hg (Zn (by omega))
  replace hE := ext_grow hE hg (fun q hq => by cases hq; omega)
  clear b3 hg
  have b3 := bn
  clear bn
  (try dsimp only); refine hK _ _ ?_; clear hK K; (try simp only [Act.put, Zs, Zz, Zc])
  replace qz : r3 < W14.heap.size := b3.lt
  refine wpList_plain rfl (fun K hK => ?_); go_simp; (try dsimp only); refine hK _ _ ?_; clear hK K; (try simp only [Act.put, Zs, Zz, Zc])
  refine wpList_nil ?_
  go_upto_region 11 with fail
  refine wp_region_lit ?_
  refine wpList_plain rfl (fun K hK => ?_); (first | (refine wp_ld 28 _ (b0.range) (by rfl) (by rfl) Try.underlying28 rfl (by exact Try.infoT) ?_)); (try dsimp only); refine hK _ _ ?_; clear hK K; (try simp only [Act.put, Zs, Zz, Zc])
  refine wpList_plain rfl (fun K hK => ?_); go_simp; (try dsimp only); refine hK _ _ ?_; clear hK K; (try simp only [Act.put, Zs, Zz, Zc])
  refine wpList_plain rfl (fun K hK => ?_); go_simp; (go_at_call 27; refine (pnext_ref pg v _ e he.out (fun W hW => hP.out W (hE.trans hW))).mono ?_; intro e W15 hpp; obtain ⟨rfl, hx⟩ := hpp); (try dsimp only); refine hK _ _ ?_; clear hK K; (try simp only [Act.put, Zs, Zz, Zc])
  replace b0 := b0.ext hx
  replace b1 := b1.ext hx
  replace b2 := b2.ext hx
  replace b3 := b3.ext hx
  replace hE := hE.trans hx
  clear hx
  replace qz : r3 < W15.heap.size := b3.lt
  iterate 4 (refine wpList_plain rfl (fun K hK => ?_); go_simp; (try dsimp only); refine hK _ _ ?_; clear hK K; (try simp only [Act.put, Zs, Zz, Zc]))
  refine name_wl (fun W16 hW => ?_)
  have hx : Ext W15 W16 := by rw [hW]; exact ext_alloc _ _
  have b4 : Blk W16 W15.heap.size 25 RV.z.cs := by rw [hW]; exact Blk.newAt rfl
  clear hW
  replace b0 := b0.ext hx
  replace b1 := b1.ext hx
  replace b2 := b2.ext hx
  replace b3 := b3.ext hx
  replace hE := hE.trans hx
  clear hx
  obtain ⟨r4, hr⟩ : ∃ r, r = W15.heap.size := ⟨_, rfl⟩
  rw [← hr] at b4
  try rw [← hr]
  have q4 : r3 < r4 := by omega
  clear hr
  replace qz : r4 < W16.heap.size := b4.lt
  refine wpList_plain rfl (fun K hK => ?_)
  refine wp_store_box 25 _ _ (by rfl) b4 (by rfl) (by rfl) (by exact Try.infoR) (by first | exact RV.one _ | exact TV.one _ rfl | exact TV.one TV.z rfl | exact RV.one _ | exact RV.one RV.z) (by rfl) (fun W17 hg bn => ?_)
  replace b0 := b0.kept hg (Zn (by omega))
  replace b1 := b1.kept hg (Zn (by omega))
  replace b2 := b2.kept hg (Zn (by omega))
  replace b3 := b3.kept hg (Zn (by omega))
  replace hE := ext_grow hE hg (fun q hq => by cases hq; omega)
  clear b4 hg
  have b4 := bn
  clear bn
  (try dsimp only); refine hK _ _ ?_; clear hK K; (try simp only [Act.put, Zs, Zz, Zc])
  replace qz : r4 < W17.heap.size := b4.lt
  refine wpList_plain rfl (fun K hK => ?_); go_simp; (try dsimp only); refine hK _ _ ?_; clear hK K; (try simp only [Act.put, Zs, Zz, Zc])
  refine wpList_nil ?_
  go_upto_region 12 with fail
  refine wp_region_lit ?_
  iterate 2 (refine wpList_plain rfl (fun K hK => ?_); go_simp; (try dsimp only); refine hK _ _ ?_; clear hK K; (try simp only [Act.put, Zs, Zz, Zc]))
  refine wpList_plain rfl (fun K hK => ?_); go_simp; (try simp (disch := omega) only [Yq, Yr]); (try simp only [beq_self_eq_true, eqR_zz]); (try dsimp only); refine hK _ _ ?_; clear hK K; (try simp only [Act.put, Zs, Zz, Zc])
  refine wpList_plain rfl (fun K hK => ?_); go_simp; (try dsimp only); refine hK _ _ ?_; clear hK K; (try simp only [Act.put, Zs, Zz, Zc])
  iterate 2 (refine wpList_step (fun K hK => ?_); rw [if_pos (by rfl)]; go_simp; (try dsimp only); refine hK _ _ ?_; clear hK K; (try simp only [Act.put, Zs, Zz, Zc]))
  refine wpList_step (fun K hK => ?_); rw [if_pos (by rfl)]; go_simp; (try simp (disch := omega) only [Yq, Yr]); (try simp only [beq_self_eq_true, eqR_zz]); (try dsimp only); refine hK _ _ ?_; clear hK K; (try simp only [Act.put, Zs, Zz, Zc])
  iterate 2 (refine wpList_plain rfl (fun K hK => ?_); go_simp; (try dsimp only); refine hK _ _ ?_; clear hK K; (try simp only [Act.put, Zs, Zz, Zc]))
  refine wpList_step (fun K hK => ?_); rw [if_pos (by rfl)]; (first | (refine wp_ld 28 _ (b1.range) (by rfl) (by rfl) Try.underlying28 rfl (by exact Try.infoT) ?_)); (try dsimp only); refine hK _ _ ?_; clear hK K; (try simp only [Act.put, Zs, Zz, Zc])
  refine wpList_step (fun K hK => ?_); rw [if_pos (by rfl)]; go_simp; (try dsimp only); refine hK _ _ ?_; clear hK K; (try simp only [Act.put, Zs, Zz, Zc])
  refine wpList_step (fun K hK => ?_); rw [if_pos (by rfl)]; go_simp; (go_at_call 14; refine (rsame_P .E (fun _ => True) (fun _ => True) TV.z TV.z _ (isT_z _ _) (isT_z _ _)).mono ?_; intro e W18 hpp; obtain ⟨rfl, hx⟩ := hpp); (try dsimp only); refine hK _ _ ?_; clear hK K; (try simp only [Act.put, Zs, Zz, Zc])
  replace b0 := b0.ext hx
  replace b1 := b1.ext hx
  replace b2 := b2.ext hx
  replace b3 := b3.ext hx
  replace b4 := b4.ext hx
  replace hE := hE.trans hx
  clear hx
  replace qz : r4 < W18.heap.size := b4.lt
  iterate 2 (refine wpList_plain rfl (fun K hK => ?_); go_simp; (try dsimp only); refine hK _ _ ?_; clear hK K; (try simp only [Act.put, Zs, Zz, Zc]))
  refine wpList_step (fun K hK => ?_); rw [if_pos (by rfl)]; (first | (refine wp_ld 28 _ (b2.range) (by rfl) (by rfl) Try.underlying28 rfl (by exact Try.infoT) ?_)); (try dsimp only); refine hK _ _ ?_; clear hK K; (try simp only [Act.put, Zs, Zz, Zc])
  refine wpList_step (fun K hK => ?_); rw [if_pos (by rfl)]; go_simp; (try dsimp only); refine hK _ _ ?_; clear hK K; (try simp only [Act.put, Zs, Zz, Zc])
  refine wpList_step (fun K hK => ?_); rw [if_pos (by rfl)]; go_simp; (go_at_call 14; refine (rsame_P .E (fun _ => True) (fun _ => True) TV.z TV.z _ (isT_z _ _) (isT_z _ _)).mono ?_; intro e W19 hpp; obtain ⟨rfl, hx⟩ := hpp); (try dsimp only); refine hK _ _ ?_; clear hK K; (try simp only [Act.put, Zs, Zz, Zc])
  replace b0 := b0.ext hx
  replace b1 := b1.ext hx
  replace b2 := b2.ext hx
  replace b3 := b3.ext hx
  replace b4 := b4.ext hx
  replace hE := hE.trans hx
  clear hx
  replace qz : r4 < W19.heap.size := b4.lt
  iterate 2 (refine wpList_plain rfl (fun K hK => ?_); go_simp; (try dsimp only); refine hK _ _ ?_; clear hK K; (try simp only [Act.put, Zs, Zz, Zc]))
  refine wpList_step (fun K hK => ?_); rw [if_pos (by rfl)]; go_simp; (try dsimp only); refine hK _ _ ?_; clear hK K; (try simp only [Act.put, Zs, Zz, Zc])
  refine wpList_step (fun K hK => ?_); rw [if_pos (by rfl)]; go_simp; (try simp only [beq_self_eq_true, eqR_zz]); (try dsimp only); refine hK _ _ ?_; clear hK K; (try simp only [Act.put, Zs, Zz, Zc])
  iterate 2 (refine wpList_plain rfl (fun K hK => ?_); go_simp; (try dsimp only); refine hK _ _ ?_; clear hK K; (try simp only [Act.put, Zs, Zz, Zc]))
  refine wpList_step (fun K hK => ?_); rw [if_pos (by rfl)]; go_simp; (try dsimp only); refine hK _ _ ?_; clear hK K; (try simp only [Act.put, Zs, Zz, Zc])
  refine wpList_step (fun K hK => ?_); rw [if_pos (by rfl)]; go_simp; (try simp only [beq_self_eq_true, eqR_zz]); (try dsimp only); refine hK _ _ ?_; clear hK K; (try simp only [Act.put, Zs, Zz, Zc])
  iterate 2 (refine wpList_plain rfl (fun K hK => ?_); go_simp; (try dsimp only); refine hK _ _ ?_; clear hK K; (try simp only [Act.put, Zs, Zz, Zc]))
  refine wpList_step (fun K hK => ?_); rw [if_pos (by rfl)]; (first | (refine wp_ld 25 _ (b3.range) (by rfl) (by rfl) Try.underlying25 rfl (by exact Try.infoR) ?_)); (try dsimp only); refine hK _ _ ?_; clear hK K; (try simp only [Act.put, Zs, Zz, Zc])
  refine wpList_step (fun K hK => ?_); rw [if_pos (by rfl)]; go_simp; (try dsimp only); refine hK _ _ ?_; clear hK K; (try simp only [Act.put, Zs, Zz, Zc])
  refine wpList_step (fun K hK => ?_); rw [if_pos (by rfl)]; (first | refine wp_eqlR _ _ (by rfl) (by rfl) (by rfl) ?_ | refine wp_eqlR (v := RV.z) _ _ (by rfl) (by rfl) (by rfl) ?_); (try simp only [beq_self_eq_true, eqR_zz]); (try dsimp only); refine hK _ _ ?_; clear hK K; (try simp only [Act.put, Zs, Zz, Zc])
  iterate 2 (refine wpList_plain rfl (fun K hK => ?_); go_simp; (try dsimp only); refine hK _ _ ?_; clear hK K; (try simp only [Act.put, Zs, Zz, Zc]))
  refine wpList_step (fun K hK => ?_); rw [if_pos (by rfl)]; (first | (refine wp_ld 25 _ (b4.range) (by rfl) (by rfl) Try.underlying25 rfl (by exact Try.infoR) ?_)); (try dsimp only); refine hK _ _ ?_; clear hK K; (try simp only [Act.put, Zs, Zz, Zc])
  refine wpList_step (fun K hK => ?_); rw [if_pos (by rfl)]; go_simp; (try dsimp only); refine hK _ _ ?_; clear hK K; (try simp only [Act.put, Zs, Zz, Zc])
  refine wpList_step (fun K hK => ?_); rw [if_pos (by rfl)]; (first | refine wp_eqlR _ _ (by rfl) (by rfl) (by rfl) ?_ | refine wp_eqlR (v := RV.z) _ _ (by rfl) (by rfl) (by rfl) ?_); (try simp only [beq_self_eq_true, eqR_zz]); (try dsimp only); refine hK _ _ ?_; clear hK K; (try simp only [Act.put, Zs, Zz, Zc])
  iterate 2 (refine wpList_plain rfl (fun K hK => ?_); go_simp; (try dsimp only); refine hK _ _ ?_; clear hK K; (try simp only [Act.put, Zs, Zz, Zc]))
  refine wpList_step (fun K hK => ?_); rw [if_pos (by rfl)]; (first | (refine wp_ld 28 _ (b0.range) (by rfl) (by rfl) Try.underlying28 rfl (by exact Try.infoT) ?_)); (try dsimp only); refine hK _ _ ?_; clear hK K; (try simp only [Act.put, Zs, Zz, Zc])
  refine wpList_step (fun K hK => ?_); rw [if_pos (by rfl)]; go_simp; (go_at_call 17; refine (plist_ref v _ e he.out (fun W hW => hP.out W (hE.trans hW))).mono ?_; intro e W20 hpp; obtain ⟨rfl, hx⟩ := hpp); (try dsimp only); refine hK _ _ ?_; clear hK K; (try simp only [Act.put, Zs, Zz, Zc])
  replace b0 := b0.ext hx
  replace b1 := b1.ext hx
  replace b2 := b2.ext hx
  replace b3 := b3.ext hx
  replace b4 := b4.ext hx
  replace hE := hE.trans hx
  clear hx
  replace qz : r4 < W20.heap.size := b4.lt
  refine wpList_step (fun K hK => ?_); rw [if_pos (by rfl)]; go_simp; (try dsimp only); refine hK _ _ ?_; clear hK K; (try simp only [Act.put, Zs, Zz, Zc])
  refine wpList_step (fun K hK => ?_); rw [if_pos (by rfl)]; go_simp; (try simp (disch := omega) only [Yq, Yr]); (try simp only [beq_self_eq_true, eqR_zz]); (try dsimp only); refine hK _ _ ?_; clear hK K; (try simp only [Act.put, Zs, Zz, Zc])
  iterate 2 (refine wpList_plain rfl (fun K hK => ?_); go_simp; (try dsimp only); refine hK _ _ ?_; clear hK K; (try simp only [Act.put, Zs, Zz, Zc]))
  refine wpList_step (fun K hK => ?_); rw [if_pos (by rfl)]; (first | (refine wp_ld 28 _ (b0.range) (by rfl) (by rfl) Try.underlying28 rfl (by exact Try.infoT) ?_)); (try dsimp only); refine hK _ _ ?_; clear hK K; (try simp only [Act.put, Zs, Zz, Zc])
  refine wpList_step (fun K hK => ?_); rw [if_pos (by rfl)]; go_simp; (go_at_call 28; refine (pgap_ref 0 512 1 v _ e he.out (fun W hW => hP.out W (hE.trans hW))).mono ?_; intro e W21 hpp; obtain ⟨rfl, hx⟩ := hpp); (try dsimp only); refine hK _ _ ?_; clear hK K; (try simp only [Act.put, Zs, Zz, Zc])
  replace b0 := b0.ext hx
  replace b1 := b1.ext hx
  replace b2 := b2.ext hx
  replace b3 := b3.ext hx
  replace b4 := b4.ext hx
  replace hE := hE.trans hx
  clear hx
  replace qz : r4 < W21.heap.size := b4.lt
  refine wpList_step (fun K hK => ?_); rw [if_pos (by rfl)]; go_simp; (try simp (disch := omega) only [Yq, Yr]); (try simp only [beq_self_eq_true, eqR_zz]); (try dsimp only); refine hK _ _ ?_; clear hK K; (try simp only [Act.put, Zs, Zz, Zc])
  iterate 2 (refine wpList_plain rfl (fun K hK => ?_); go_simp; (try dsimp only); refine hK _ _ ?_; clear hK K; (try simp only [Act.put, Zs, Zz, Zc]))
  refine wpList_nil ?_
  go_wp2_with fail
  go_ret
  exact ⟨rfl, hE⟩

set_option maxRecDepth 100000 in
set_option maxHeartbeats 4000000 in
theorem law_checks_good {n0 : Nat} (k : GK) (v : TV) (pg : Int) (w : World) (hn : n0 ≤ w.heap.size) (hk : isKv n0 w k v.k) (hfew : decide (nodL k 1 200 ≤ 200) = true) {A : Nat → Prop} (p : PT) (hp : good p) (ht : isT A w p.bt v) :
    Calls Try.prog 6 #[.agg v.cs.toArray, .int .i64 pg] w fun e w' => e = .returned (.bool true) ∧ Ext w w' := by
  have HK : Hid (isKv n0 w k v.k) := hk
  have hone := isKv.one hk
  clear hk
  replace hfew : Hid _ := hfew
  have hlen := good_len hp
  go_enter Try.func6, Try.ntmps6
  go_upto_region 1 with fail
  refine name_wX (fun W1 hW => ?_)
  have hE : Ext w W1 := by rw [hW]; repeat' (first | exact Ext.refl _ | apply Ext.al)
  have b0 : Blk W1 (w.heap.size) 28 v.cs := by rw [hW]; exact Blk.newAt rfl
  clear hW
  obtain ⟨r0, hr0⟩ : ∃ r, r = w.heap.size := ⟨_, rfl⟩
  rw [← hr0] at b0
  try rw [← hr0]
  have q0 : w.heap.size ≤ r0 := by omega
  clear hr0
  have qz : r0 < W1.heap.size := b0.lt
  go_upto_region 1 with fail
  refine wp_region_lit ?_
  refine wpList_plain rfl (fun K hK => ?_); go_simp; (go_at_call 11; refine (awake_ok _).mono ?_; intro e W2 hpp; obtain ⟨rfl, hx⟩ := hpp); (try dsimp only); refine hK _ _ ?_; clear hK K; (try simp only [Act.put, Zs, Zz, Zc])
  replace b0 := b0.ext hx
  replace hE := hE.trans hx
  clear hx
  replace qz : r0 < W2.heap.size := b0.lt
  iterate 2 (refine wpList_plain rfl (fun K hK => ?_); go_simp; (try dsimp only); refine hK _ _ ?_; clear hK K; (try simp only [Act.put, Zs, Zz, Zc]))
  refine wpList_step (fun K hK => ?_); rw [if_pos (by rfl)]; (first | (refine wp_ld 28 _ (b0.range) (by rfl) (by rfl) Try.underlying28 rfl (by exact Try.infoT) ?_)); (try dsimp only); refine hK _ _ ?_; clear hK K; (try simp only [Act.put, Zs, Zz, Zc])
  refine wpList_step (fun K hK => ?_); rw [if_pos (by rfl)]; go_simp; (go_at_call 23; refine (few_is k v _ (Nat.le_trans hn hE.below.size) (isKv.ext HK.out hn hE) true hfew.out).mono ?_; intro e W3 hpp; obtain ⟨rfl, hx⟩ := hpp); (try dsimp only); refine hK _ _ ?_; clear hK K; (try simp only [Act.put, Zs, Zz, Zc])
  replace b0 := b0.ext hx
  replace hE := hE.trans hx
  clear hx
  replace qz : r0 < W3.heap.size := b0.lt
  refine wpList_step (fun K hK => ?_); rw [if_pos (by rfl)]; go_simp; (try dsimp only); refine hK _ _ ?_; clear hK K; (try simp only [Act.put, Zs, Zz, Zc])
  refine wpList_plain rfl (fun K hK => ?_); go_simp; (try dsimp only); refine hK _ _ ?_; clear hK K; (try simp only [Act.put, Zs, Zz, Zc])
  refine wpList_nil ?_
  replace ht := isT.ext hE ht
  go_upto_region 3 with fail
  refine wp_region_lit ?_
  refine wpList_plain rfl (fun K hK => ?_); (first | (refine wp_ld 28 _ (b0.range) (by rfl) (by rfl) Try.underlying28 rfl (by exact Try.infoT) ?_)); (try dsimp only); refine hK _ _ ?_; clear hK K; (try simp only [Act.put, Zs, Zz, Zc])
  refine wpList_plain rfl (fun K hK => ?_); go_simp; (go_at_call 24; refine (rcheck_P p v _ hp ht).mono ?_; intro e W4 hpp; obtain ⟨rfl, hx⟩ := hpp); (try dsimp only); refine hK _ _ ?_; clear hK K; (try simp only [Act.put, Zs, Zz, Zc])
  replace b0 := b0.ext hx
  replace ht := isT.ext hx ht
  replace hE := hE.trans hx
  clear hx
  replace qz : r0 < W4.heap.size := b0.lt
  refine wpList_plain rfl (fun K hK => ?_); go_simp; (try dsimp only); refine hK _ _ ?_; clear hK K; (try simp only [Act.put, Zs, Zz, Zc])
  refine wpList_nil ?_
  go_upto_region 4 with fail
  refine wp_region_lit ?_
  refine wpList_plain rfl (fun K hK => ?_); (first | (refine wp_ld 28 _ (b0.range) (by rfl) (by rfl) Try.underlying28 rfl (by exact Try.infoT) ?_)); (try dsimp only); refine hK _ _ ?_; clear hK K; (try simp only [Act.put, Zs, Zz, Zc])
  refine wpList_plain rfl (fun K hK => ?_); go_simp; (go_at_call 22; refine (check_P p v _ hp ht).mono ?_; intro e W5 hpp; obtain ⟨rfl, hx⟩ := hpp); (try dsimp only); refine hK _ _ ?_; clear hK K; (try simp only [Act.put, Zs, Zz, Zc])
  replace b0 := b0.ext hx
  replace ht := isT.ext hx ht
  replace hE := hE.trans hx
  clear hx
  replace qz : r0 < W5.heap.size := b0.lt
  refine wpList_plain rfl (fun K hK => ?_); go_simp; (try dsimp only); refine hK _ _ ?_; clear hK K; (try simp only [Act.put, Zs, Zz, Zc])
  refine wpList_plain rfl (fun K hK => ?_); go_simp; (try simp (disch := omega) only [Yq, Yr]); (try simp only [bne_self_eq_false]); (try dsimp only); refine hK _ _ ?_; clear hK K; (try simp only [Act.put, Zs, Zz, Zc])
  refine wpList_nil ?_
  go_upto_region 6 with fail
  refine wp_region_lit ?_
  refine wpList_plain rfl (fun K hK => ?_); go_simp; (try dsimp only); refine hK _ _ ?_; clear hK K; (try simp only [Act.put, Zs, Zz, Zc])
  refine wpList_plain rfl (fun K hK => ?_); go_simp; (try simp (disch := omega) only [Yq, Yr]); (try simp only [beq_self_eq_true]); (try dsimp only); refine hK _ _ ?_; clear hK K; (try simp only [Act.put, Zs, Zz, Zc])
  refine wpList_nil ?_
  go_upto_region 7 with fail
  have x0 := b0
  have hS : GrownX W5 [] W5 := GrownX.refl _ _
  refine wp_region_S (GrownX W5 []) (by kernel_rfl) ?_
  refine name_wd (fun W6 hW => ?_)
  have hx : Ext W5 W6 := by rw [hW]; exact ext_drew _
  clear hW
  replace hS := hS.ext hx
  replace b0 := b0.ext hx
  replace ht := isT.ext hx ht
  replace hE := hE.trans hx
  clear hx
  replace qz : r0 < W6.heap.size := b0.lt
  refine wpAnyD_takeSL (i := 0) rfl (by kernel_rfl) (fun _ _ _ _ h => h) hS ?_
  apply Exists.intro
  refine ⟨Or.inl ⟨by rfl, ?_⟩, ?_⟩
  (focus (intro wz hz; (first | exact exec_ld 28 _ rfl rfl ((GrownX.blk hz x0 (by first | decide | (simp; done) | (simp; omega) | omega)).range) Try.underlying28 rfl (by exact Try.infoT))))
  (try simp only [Act.put, Zs, Zz, Zc])
  refine wpAnyD_takeSL (i := 2) rfl (by kernel_rfl) (fun _ _ _ _ h => h) hS ?_
  apply Exists.intro
  refine ⟨Or.inl ⟨by rfl, ?_⟩, ?_⟩
  (focus (intro wz hz; (first | exact exec_ld 28 _ rfl rfl ((GrownX.blk hz x0 (by first | decide | (simp; done) | (simp; omega) | omega)).range) Try.underlying28 rfl (by exact Try.infoT))))
  (try simp only [Act.put, Zs, Zz, Zc])
  -- several: [1, 3]
  refine wpAnyD_oneL (i := 1) rfl (by kernel_rfl) (fun K hK => ?_)
  rw [if_pos (by rfl)]
  go_simp
  (go_at_call 17; refine (list_P p v _ hp ht).mono ?_; intro e W7 hpp; obtain ⟨u1, rfl, ho1, hx⟩ := hpp)
  replace hS := hS.ext hx; (try dsimp only); refine hK.out _ _ (fun _ => hS) ?_; clear hK K; (try simp only [Act.put, Zs, Zz, Zc])
  replace b0 := b0.ext hx
  replace ht := isT.ext hx ht
  replace hE := hE.trans hx
  clear hx
  replace qz : r0 < W7.heap.size := b0.lt
  refine wpAnyD_oneL (i := 3) rfl (by kernel_rfl) (fun K hK => ?_)
  rw [if_pos (by rfl)]
  go_simp
  (go_at_call 25; refine (rlist_P p v _ hp ht).mono ?_; intro e W8 hpp; obtain ⟨u2, rfl, ho2, hx⟩ := hpp)
  replace hS := hS.ext hx; (try dsimp only); refine hK.out _ _ (fun _ => hS) ?_; clear hK K; (try simp only [Act.put, Zs, Zz, Zc])
  replace b0 := b0.ext hx
  replace ht := isT.ext hx ht
  replace ho1 := ho1.ext hx
  replace hE := hE.trans hx
  clear hx
  replace qz : r0 < W8.heap.size := b0.lt
  refine wpAnyD_oneL (i := 4) rfl (by kernel_rfl) (fun K hK => ?_)
  rw [if_pos (by rfl)]
  go_simp
  (go_at_call 16; refine (lsame_eq p.flat p.flat _ _ _ ho1.isSl ho2.isSl rfl (by omega)).mono ?_; intro e W9 hpp; obtain ⟨rfl, hx⟩ := hpp)
  replace hS := hS.ext hx; (try dsimp only); refine hK.out _ _ (fun _ => hS) ?_; clear hK K; (try simp only [Act.put, Zs, Zz, Zc])
  replace b0 := b0.ext hx
  replace ht := isT.ext hx ht
  replace ho1 := ho1.ext hx
  replace ho2 := ho2.ext hx
  replace hE := hE.trans hx
  clear hx
  replace qz : r0 < W9.heap.size := b0.lt
  refine wpAnyD_oneL (i := 5) rfl (by kernel_rfl) (fun K hK => ?_)
  rw [if_pos (by rfl)]
  go_simp
  (try dsimp only); refine hK.out _ _ (fun _ => hS) ?_; clear hK K; (try simp only [Act.put, Zs, Zz, Zc])
  refine wpAnyD_done (by kernel_rfl) ?_ _
  clear hS x0
  go_wp2_with fail
  go_ret
  exact ⟨rfl, hE⟩

theorem law_checks (k : GK) (v : TV) (pg : Int) (w : World) (hk : isKv w.heap.size w k v.k) :
    Calls Try.prog 6 #[.agg v.cs.toArray, .int .i64 pg] w fun e w' => e = .returned (.bool true) ∧ Ext w w' := by
  have hn : w.heap.size ≤ w.heap.size := Nat.le_refl _
  cases hf : decide (nodL k 1 200 ≤ 200) with
  | false => exact law_checks_big k v pg w hn hk hf
  | true =>
    have hc : (1 : Int) + k.count ≤ 200 := by
      have h1 : nodL k 1 200 ≤ 200 := of_decide_eq_true hf
      have h2 := nodL_count k 1 200 (by omega) (by omega) (by omega) h1
      omega
    cases hm : fm1 v.h v.f v.l v.g v.x k.len (fmL k) with
    | false => exact law_checks_bad k v pg w hn hk hf 3 (by decide) (fun W hE => pchk_unf k v W hE.below.size (hk.ext hn hE) hm) (fun W hE => rchk_unf k v W hE.below.size (hk.ext hn hE) hm)
    | true =>
      obtain ⟨t, ht, hl⟩ := to_bt k w.heap.size v w hn hk hm
      have hd : t.dp ≤ 1000 := by have := BT.dp_len t; omega
      by_cases h0 : chkR t = 0
      · obtain ⟨p, rfl, hp⟩ := chk_good_of hd h0
        exact law_checks_good k v pg w hn hk hf p hp ht
      · exact law_checks_bad k v pg w hn hk hf (chkR t) h0 (fun W hE => by rw [← chk_same hd]; exact check_any t v W (ht.ext hE)) (fun W hE => rcheck_any t v W (ht.ext hE) (by omega))

end Go.Proofs.Ytnbohogkfdeddaa
