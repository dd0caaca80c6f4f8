/- Rangetree: Build. -/
import Derived.Test.YtnbohogkfdeddaaRub
import Derived.Test.YtnbohogkfdeddaaRtx
set_option linter.unusedSimpArgs false
set_option linter.unusedVariables false
namespace Go.Proofs.Ytnbohogkfdeddaa
open Go.RowKit

theorem Up.grown {A : Nat → Prop} {w w' : World} {k : Option Nat} (h : Up A w) (hg : w.grownBy w' k) : Up A w' := fun q hq => h q (Nat.le_trans hg.size hq)
theorem good_E : good .E := ⟨trivial, ⟨fun x h => by simp [PT.flat] at h, by simp [PT.flat]⟩⟩
def bldF : PT → Int → List RV → PT × Int
  | p, _, [] => (p, 0)
  | p, last, x :: l => if x.s < last then (.E, 10) else bldF (insP p x) x.e l
/-- What Build returns. -/
def BuildF (l : List RV) : PT × Int := if l.all vldB = true then bldF .E 0 l else (.E, 2)
theorem sl_shape {w : World} {v : Value} {m n : Nat} {xs : List Value} (h : isSl w v m n xs) : ∃ ad c, v = .slice ad n c := by
  rcases h.2 with ⟨a, c, hv, hn⟩ | ⟨b, o, cap, hv, _⟩
  · exact ⟨a, c, by rw [hv, hn]⟩
  · exact ⟨_, _, hv⟩
theorem sl_at {w : World} {ad : Option Addr} {c : Nat} {l : List RV} (h : isSl w (.slice ad l.length c) 6 l.length (rF l)) {k : Nat} (hk : k < l.length) :
    ∃ b o, ad = some ⟨b, o, none⟩ ∧ l.length ≤ c ∧ c ≤ maxLen ∧ b < w.heap.size ∧ w.rangeAt b (o + k * 6) (l[k]).cs := by
  obtain ⟨b, o, cap, hv, h1, h2, h3, h4⟩ := h.cell (by omega)
  cases hv
  refine ⟨b, o, rfl, h1, h2, h3, fun j u hu => ?_⟩
  have hj : j < 6 := (List.getElem?_eq_some_iff.1 hu).1
  have := rF_at l k (l[k]) (List.getElem?_eq_getElem hk) j hj
  rw [show o + k * 6 + j = o + (k * 6 + j) by omega, h4 (k * 6 + j) (by omega), this, hu]
theorem ins_ord {p : PT} {x : RV} {last : Int} (hp : good p) (hv : vld x) (hl : ∀ y ∈ p.flat, y.e ≤ last) (hx : ¬ x.s < last) : good (insP p x) ∧ (insP p x).flat = p.flat ++ [x] := by
  have hm : ∀ y ∈ p.flat, y.e ≤ x.s := fun y hy => by have := hl y hy; omega
  refine ⟨ins_good hp hv (fun y hy hmm => by have := hm y hy; unfold meets at hmm; omega), ?_⟩
  rw [ins_flat p x hp.o]
  have := insL_right p.flat [] x (fun y hy => by have h1 := hm y hy; have h2 := (hp.o.v y hy).2.1; unfold RV.e at h1; omega)
  simpa [insL] using this

set_option maxRecDepth 100000 in
set_option maxHeartbeats 4000000 in
theorem build_any {A : Nat → Prop} (l : List RV) (s : Value) (w : World) (hA : Up A w) (hs : isSl w s 6 l.length (rF l)) (hlen : l.length ≤ 1000) :
    Calls Try.prog 12 #[s] w fun e w' => ∃ v', e = .returned (.tuple #[.agg v'.cs.toArray, .int .i64 (BuildF l).2]) ∧ isT A w' (BuildF l).1.bt v' ∧ Ext w w' := by
  obtain ⟨ad, c, rfl⟩ := sl_shape hs
  have HS : Hid (isSl w (.slice ad l.length c) 6 l.length (rF l)) := hs
  clear hs
  go_enter Try.func12, Try.ntmps12
  go_upto_region 1 with fail
  refine name_wX (fun W1 hW => ?_)
  have hE : Ext w W1 := by rw [hW]; repeat' (first | exact Ext.refl _ | apply Ext.al)
  have b0 : Blk W1 (w.heap.size) 28 TV.z.cs := by rw [hW]; exact Blk.newAt rfl
  clear hW
  obtain ⟨r0, hr0⟩ : ∃ r, r = w.heap.size := ⟨_, rfl⟩
  rw [← hr0] at b0
  try rw [← hr0]
  have q0 : w.heap.size ≤ r0 := by omega
  clear hr0
  have qz : r0 < W1.heap.size := b0.lt
  go_upto_region 3 with fail
  go_loopw [12] (fun vi wr => ∃ k : Nat, vi = .int .i64 k ∧ k ≤ l.length ∧ (∀ x ∈ l.take k, vld x) ∧ Blk wr r0 28 TV.z.cs ∧ Ext w wr) (fun vi _ => l.length - (intOf vi).toNat)
  case atStart => exact ⟨0, rfl, by omega, by simp, b0, hE⟩
  case round =>
    clear b0 hE qz
    obtain ⟨k, rfl, hk, hv, b0, hE⟩ := hrel
    obtain ⟨W0, rfl⟩ : ∃ W0, W0 = wr := ⟨_, rfl⟩
    have qz : r0 < W0.heap.size := b0.lt
    by_cases hlt : k < l.length
    · obtain ⟨b, o, rfl, hc1, hc2, hbw0, hra⟩ := sl_at HS.out hlt
      have hbw : b < W0.heap.size := Nat.lt_of_lt_of_le hbw0 hE.below.size
      replace hra := rangeAt.ext hra hbw0 hE
      go_upto_region 4 with fail
      refine wp_region_lit ?_
      refine wpList_plain rfl (fun K hK => ?_); go_simp; (try dsimp only); refine hK _ _ ?_; clear hK K; (try simp only [Act.put, Zs, Zz, Zc])
      refine wpList_plain rfl (fun K hK => ?_); (first | (refine wp_ld 25 _ (hra) (by rfl) (by rfl) Try.underlying25 rfl (by exact Try.infoR) ?_)); (try dsimp only); refine hK _ _ ?_; clear hK K; (try simp only [Act.put, Zs, Zz, Zc])
      refine wpList_plain rfl (fun K hK => ?_); go_simp; (try dsimp only); refine hK _ _ ?_; clear hK K; (try simp only [Act.put, Zs, Zz, Zc])
      refine name_wl (fun W101 hW => ?_)
      have hx : Ext W0 W101 := by rw [hW]; exact ext_alloc _ _
      have b1 : Blk W101 W0.heap.size 25 RV.z.cs := by rw [hW]; exact Blk.newAt rfl
      clear hW
      replace b0 := b0.ext hx
      replace hra := rangeAt.ext hra hbw hx
      replace hbw := Nat.lt_of_lt_of_le hbw hx.below.size
      replace hE := hE.trans hx
      clear hx
      obtain ⟨r1, hr⟩ : ∃ r, r = W0.heap.size := ⟨_, rfl⟩
      rw [← hr] at b1
      try rw [← hr]
      have q1 : r0 < r1 := by omega
      clear hr
      replace qz : r1 < W101.heap.size := b1.lt
      refine wpList_plain rfl (fun K hK => ?_)
      refine wp_store_box 25 _ _ (by rfl) b1 (by rfl) (by rfl) (by exact Try.infoR) (by first | exact RV.one _ | exact TV.one _ rfl | exact TV.one TV.z rfl) (by rfl) (fun W102 hg bn => ?_)
      replace b0 := b0.kept hg (Zn (by omega))
      replace hra := rangeAt.kept hra hbw hg (Zn (by omega))
      replace hbw := Nat.lt_of_lt_of_le hbw hg.size
      replace hE := ext_grow hE hg (fun q hq => by cases hq; omega)
      clear b1 hg
      have b1 := bn
      clear bn
      (try dsimp only); refine hK _ _ ?_; clear hK K; (try simp only [Act.put, Zs, Zz, Zc])
      replace qz : r1 < W102.heap.size := b1.lt
      refine wpList_nil ?_
      cases hcv : vldB l[k] with
      | false =>
        go_upto_region 5 with fail
        refine wp_region_lit ?_
        refine wpList_plain rfl (fun K hK => ?_); (first | (refine wp_ld 25 _ (b1.range) (by rfl) (by rfl) Try.underlying25 rfl (by exact Try.infoR) ?_)); (try dsimp only); refine hK _ _ ?_; clear hK K; (try simp only [Act.put, Zs, Zz, Zc])
        refine wpList_plain rfl (fun K hK => ?_); go_simp; (go_at_call 29; refine (valid_is _ _ false hcv).mono ?_; intro e W201 hpp; obtain ⟨rfl, hx⟩ := hpp); (try dsimp only); refine hK _ _ ?_; clear hK K; (try simp only [Act.put, Zs, Zz, Zc])
        replace b0 := b0.ext hx
        replace b1 := b1.ext hx
        replace hra := rangeAt.ext hra hbw hx
        replace hbw := Nat.lt_of_lt_of_le hbw hx.below.size
        replace hE := hE.trans hx
        clear hx
        replace qz : r1 < W201.heap.size := b1.lt
        refine wpList_plain rfl (fun K hK => ?_); go_simp; (try dsimp only); refine hK _ _ ?_; clear hK K; (try simp only [Act.put, Zs, Zz, Zc])
        refine wpList_nil ?_
        go_upto_region 6 with fail
        refine wp_region_lit ?_
        refine wpList_plain rfl (fun K hK => ?_); go_simp; (try dsimp only); refine hK _ _ ?_; clear hK K; (try simp only [Act.put, Zs, Zz, Zc])
        refine wpList_plain rfl (fun K hK => ?_)
        refine wp_store_box 28 _ _ (by rfl) b0 (by rfl) (by rfl) (by exact Try.infoT) (by first | exact RV.one _ | exact TV.one _ rfl | exact TV.one TV.z rfl) (by rfl) (fun W202 hg bn => ?_)
        replace b1 := b1.kept hg (Zn (by omega))
        replace hra := rangeAt.kept hra hbw hg (Zn (by omega))
        replace hbw := Nat.lt_of_lt_of_le hbw hg.size
        replace hE := ext_grow hE hg (fun q hq => by cases hq; omega)
        clear b0 hg
        have b0 := bn
        clear bn
        (try dsimp only); refine hK _ _ ?_; clear hK K; (try simp only [Act.put, Zs, Zz, Zc])
        replace qz : r1 < W202.heap.size := b1.lt
        refine wpList_plain rfl (fun K hK => ?_); go_simp; (try dsimp only); refine hK _ _ ?_; clear hK K; (try simp only [Act.put, Zs, Zz, Zc])
        refine wpList_nil ?_
        go_wp2_with fail
        have hF : BuildF l = (.E, 2) := by
          unfold BuildF
          rw [if_neg]
          intro h
          have := List.all_eq_true.1 h l[k] (List.getElem_mem hlt)
          rw [hcv] at this
          cases this
        exact bodyPost_ret (res_ct rfl (GivesC.of b0 rfl Try.underlying28 rfl Try.infoT) rfl) rfl ⟨TV.z, by rw [hF]; rfl, by rw [hF]; exact isT_z _ _, hE⟩
      | true =>
        go_upto_region 5 with fail
        refine wp_region_lit ?_
        refine wpList_plain rfl (fun K hK => ?_); (first | (refine wp_ld 25 _ (b1.range) (by rfl) (by rfl) Try.underlying25 rfl (by exact Try.infoR) ?_)); (try dsimp only); refine hK _ _ ?_; clear hK K; (try simp only [Act.put, Zs, Zz, Zc])
        refine wpList_plain rfl (fun K hK => ?_); go_simp; (go_at_call 29; refine (valid_is _ _ true hcv).mono ?_; intro e W301 hpp; obtain ⟨rfl, hx⟩ := hpp); (try dsimp only); refine hK _ _ ?_; clear hK K; (try simp only [Act.put, Zs, Zz, Zc])
        replace b0 := b0.ext hx
        replace b1 := b1.ext hx
        replace hra := rangeAt.ext hra hbw hx
        replace hbw := Nat.lt_of_lt_of_le hbw hx.below.size
        replace hE := hE.trans hx
        clear hx
        replace qz : r1 < W301.heap.size := b1.lt
        refine wpList_plain rfl (fun K hK => ?_); go_simp; (try dsimp only); refine hK _ _ ?_; clear hK K; (try simp only [Act.put, Zs, Zz, Zc])
        refine wpList_nil ?_
        go_upto_region 7 with fail
        refine wp_region_lit ?_
        refine wpList_plain rfl (fun K hK => ?_); go_simp; (try simp (disch := omega) only [Yq, Yr]); (try dsimp only); refine hK _ _ ?_; clear hK K; (try simp only [Act.put, Zs, Zz, Zc])
        refine wpList_plain rfl (fun K hK => ?_); go_simp; (try dsimp only); refine hK _ _ ?_; clear hK K; (try simp only [Act.put, Zs, Zz, Zc])
        refine wpList_nil ?_
        go_wp2_with fail
        go_roundw
        case rel =>
          refine ⟨k + 1, by go_num, by omega, ?_, b0, hE⟩
          intro x hx
          rw [List.take_succ_eq_append_getElem hlt] at hx
          rcases List.mem_append.1 hx with h | h
          · exact hv x h
          · rw [List.mem_singleton.1 h]; exact (vldB_iff _).1 hcv
        case measure => simp [intOf]; omega
    · have hF : BuildF l = bldF .E 0 l := by
        unfold BuildF
        rw [if_pos]
        refine List.all_eq_true.2 (fun x hx => (vldB_iff x).2 (hv x ?_))
        rw [List.take_of_length_le (by omega)]
        exact hx
      have hva : ∀ x ∈ l, vld x := fun x hx => hv x (by rw [List.take_of_length_le (by omega)]; exact hx)
      replace hva : Hid _ := hva
      clear hv
      replace hF : Hid _ := hF
      go_upto_region 8 with fail
      refine wp_region_lit ?_
      refine wpList_plain rfl (fun K hK => ?_); go_simp; (try dsimp only); refine hK _ _ ?_; clear hK K; (try simp only [Act.put, Zs, Zz, Zc])
      refine name_wl (fun W401 hW => ?_)
      have hx : Ext W0 W401 := by rw [hW]; exact ext_alloc _ _
      have b1 : Blk W401 W0.heap.size 28 TV.z.cs := by rw [hW]; exact Blk.newAt rfl
      clear hW
      replace b0 := b0.ext hx
      replace hE := hE.trans hx
      clear hx
      obtain ⟨r1, hr⟩ : ∃ r, r = W0.heap.size := ⟨_, rfl⟩
      rw [← hr] at b1
      try rw [← hr]
      have q1 : r0 < r1 := by omega
      clear hr
      replace qz : r1 < W401.heap.size := b1.lt
      refine wpList_nil ?_
      go_upto_region 10 with fail
      obtain ⟨m, hm, hm2⟩ : ∃ m, r1 < m ∧ m = W401.heap.size := ⟨_, qz, rfl⟩
      have hm3 : m ≤ W401.heap.size := by omega
      clear hm2
      obtain ⟨A0, hA0⟩ : ∃ A0, A0 = Lo A w.heap.size m := ⟨_, rfl⟩
      have hnA : ¬ A0 r1 := by rw [hA0]; exact Lo.not (by omega) (by omega)
      have hnA0 : ¬ A0 r0 := by rw [hA0]; exact Lo.not (by omega) (by omega)
      have hUp : Up A0 W401 := by rw [hA0]; exact Up.lo hA hE hm3
      go_loopw [4, 23] (fun vl vi wr => ∃ (k : Nat) (p : PT) (v : TV) (last : Int), vl = .int .i64 last ∧ vi = .int .i64 k ∧ k ≤ l.length ∧ Blk wr r0 28 TV.z.cs ∧ Blk wr r1 28 v.cs ∧ isT A0 wr p.bt v ∧ good p ∧ (∀ x ∈ p.flat, x.e ≤ last) ∧ bldF .E 0 l = bldF p last (l.drop k) ∧ Ext w wr ∧ Up A0 wr ∧ p.flat = l.take k) (fun _ vi _ => l.length - (intOf vi).toNat)
      case atStart => exact ⟨0, .E, TV.z, 0, rfl, rfl, by omega, b0, b1, isT_z _ _, good_E, (fun x h => by simp [PT.flat] at h), by simp, hE, hUp, by simp [PT.flat]⟩
      case round =>
        clear b0 b1 hE qz hUp
        obtain ⟨k, p, v, last, rfl, rfl, hk, b0, b1, tv, hp, hla, hbl, hE, hUp, hfl⟩ := hrel
        obtain ⟨W0, rfl⟩ : ∃ W0, W0 = wr := ⟨_, rfl⟩
        have qz : r1 < W0.heap.size := b1.lt
        replace hbl : Hid _ := hbl
        replace hla : Hid _ := hla
        replace hfl : Hid _ := hfl
        by_cases hlt : k < l.length
        · obtain ⟨b, o, rfl, hc1, hc2, hbw0, hra⟩ := sl_at HS.out hlt
          have hbw : b < W0.heap.size := Nat.lt_of_lt_of_le hbw0 hE.below.size
          replace hra := rangeAt.ext hra hbw0 hE
          replace tv := isT.lw tv
          have hvx : vld l[k] := hva.out _ (List.getElem_mem hlt)
          have hd : l.drop k = l[k] :: l.drop (k + 1) := List.drop_eq_getElem_cons hlt
          have hbd := good_bd hp
          have hht := good_ht hp
          obtain ⟨W0', hW0'⟩ : ∃ X, X = W0 := ⟨_, rfl⟩
          have hE1 : Ext W0' W0 := by rw [hW0']; exact Ext.refl _
          have hUp0 : Up A0 W0' := by rw [hW0']; exact hUp
          replace tv : isT (Lw A0 W0'.heap.size) W0 p.bt v := by rw [hW0']; exact tv
          go_upto_region 11 with fail
          have hsz : W0'.heap.size = W0.heap.size := by rw [hW0']
          refine wp_region_lit ?_
          refine wpList_plain rfl (fun K hK => ?_); go_simp; (try dsimp only); refine hK _ _ ?_; clear hK K; (try simp only [Act.put, Zs, Zz, Zc])
          refine wpList_plain rfl (fun K hK => ?_); (first | (refine wp_ld 25 _ (hra) (by rfl) (by rfl) Try.underlying25 rfl (by exact Try.infoR) ?_)); (try dsimp only); refine hK _ _ ?_; clear hK K; (try simp only [Act.put, Zs, Zz, Zc])
          refine wpList_plain rfl (fun K hK => ?_); have qb : W0'.heap.size ≤ W0.heap.size := hE1.below.size; go_simp; (try dsimp only); refine hK _ _ ?_; clear hK K; (try simp only [Act.put, Zs, Zz, Zc])
          refine name_wl (fun W501 hW => ?_)
          have hx : Ext W0 W501 := by rw [hW]; exact ext_alloc _ _
          have b2 : Blk W501 W0.heap.size 25 RV.z.cs := by rw [hW]; exact Blk.newAt rfl
          clear hW
          replace b0 := b0.ext hx
          replace b1 := b1.ext hx
          replace hra := rangeAt.ext hra hbw hx
          replace hbw := Nat.lt_of_lt_of_le hbw hx.below.size
          replace tv := isT.ext hx tv
          replace hE1 := hE1.trans hx
          replace hUp := hUp.ext hx
          replace hE := hE.trans hx
          clear hx
          obtain ⟨r2, hr⟩ : ∃ r, r = W0.heap.size := ⟨_, rfl⟩
          rw [← hr] at b2
          try rw [← hr]
          have q2 : r1 < r2 := by omega
          have qb2 : W0'.heap.size ≤ r2 := by omega
          clear hr
          replace qz : r2 < W501.heap.size := b2.lt
          refine wpList_plain rfl (fun K hK => ?_)
          refine wp_store_box 25 _ _ (by rfl) b2 (by rfl) (by rfl) (by exact Try.infoR) (by first | exact RV.one _ | exact TV.one _ rfl | exact TV.one TV.z rfl | exact TV.one _ (isT.one tv)) (by rfl) (fun W502 hg bn => ?_)
          replace b0 := b0.kept hg (Zn (by omega))
          replace b1 := b1.kept hg (Zn (by omega))
          replace hra := rangeAt.kept hra hbw hg (Zn (by omega))
          replace hbw := Nat.lt_of_lt_of_le hbw hg.size
          replace tv := isT.kept hg (Lw.not (by omega)) tv
          replace hE1 := ext_grow hE1 hg (fun q hq => by cases hq; omega)
          replace hUp := hUp.grown hg
          replace hE := ext_grow hE hg (fun q hq => by cases hq; omega)
          clear b2 hg
          have b2 := bn
          clear bn
          (try dsimp only); refine hK _ _ ?_; clear hK K; (try simp only [Act.put, Zs, Zz, Zc])
          replace qz : r2 < W502.heap.size := b2.lt
          refine wpList_nil ?_
          by_cases hcs : (l[k]).s < last
          · go_upto_region 12 with fail
            refine wp_region_lit ?_
            refine wpList_plain rfl (fun K hK => ?_); go_simp; (try dsimp only); refine hK _ _ ?_; clear hK K; (try simp only [Act.put, Zs, Zz, Zc])
            refine wpList_plain rfl (fun K hK => ?_); have zc := b2.cell 0; go_simp; clear zc; (try dsimp only); refine hK _ _ ?_; clear hK K; (try simp only [Act.put, Zs, Zz, Zc])
            refine wpList_plain rfl (fun K hK => ?_); go_simp; (try dsimp only); refine hK _ _ ?_; clear hK K; (try simp only [Act.put, Zs, Zz, Zc])
            refine wpList_plain rfl (fun K hK => ?_); go_simp; (try simp (disch := omega) only [Yq, Yr]); (try dsimp only); refine hK _ _ ?_; clear hK K; (try simp only [Act.put, Zs, Zz, Zc])
            refine wpList_nil ?_
            go_upto_region 13 with fail
            refine wp_region_lit ?_
            refine wpList_plain rfl (fun K hK => ?_); go_simp; (try dsimp only); refine hK _ _ ?_; clear hK K; (try simp only [Act.put, Zs, Zz, Zc])
            refine wpList_plain rfl (fun K hK => ?_)
            refine wp_store_box 28 _ _ (by rfl) b0 (by rfl) (by rfl) (by exact Try.infoT) (by first | exact RV.one _ | exact TV.one _ rfl | exact TV.one TV.z rfl | exact TV.one _ (isT.one tv)) (by rfl) (fun W601 hg bn => ?_)
            replace b1 := b1.kept hg (Zn (by omega))
            replace b2 := b2.kept hg (Zn (by omega))
            replace hra := rangeAt.kept hra hbw hg (Zn (by omega))
            replace hbw := Nat.lt_of_lt_of_le hbw hg.size
            replace tv := isT.kept hg (fun h => hnA0 h.1) tv
            replace hE1 := trivial
            replace hUp := hUp.grown hg
            replace hE := ext_grow hE hg (fun q hq => by cases hq; omega)
            clear b0 hg
            have b0 := bn
            clear bn
            (try dsimp only); refine hK _ _ ?_; clear hK K; (try simp only [Act.put, Zs, Zz, Zc])
            replace qz : r2 < W601.heap.size := b2.lt
            refine wpList_plain rfl (fun K hK => ?_); go_simp; (try dsimp only); refine hK _ _ ?_; clear hK K; (try simp only [Act.put, Zs, Zz, Zc])
            refine wpList_nil ?_
            go_wp2_with fail
            have hF2 : BuildF l = (.E, 10) := by rw [hF.out, hbl.out, hd, bldF, if_pos hcs]
            exact bodyPost_ret (res_ct rfl (GivesC.of b0 rfl Try.underlying28 rfl Try.infoT) rfl) rfl ⟨TV.z, by rw [hF2]; rfl, by rw [hF2]; exact isT_z _ _, hE⟩
          · go_upto_region 12 with fail
            refine wp_region_lit ?_
            refine wpList_plain rfl (fun K hK => ?_); go_simp; (try dsimp only); refine hK _ _ ?_; clear hK K; (try simp only [Act.put, Zs, Zz, Zc])
            refine wpList_plain rfl (fun K hK => ?_); have zc := b2.cell 0; go_simp; clear zc; (try dsimp only); refine hK _ _ ?_; clear hK K; (try simp only [Act.put, Zs, Zz, Zc])
            refine wpList_plain rfl (fun K hK => ?_); go_simp; (try dsimp only); refine hK _ _ ?_; clear hK K; (try simp only [Act.put, Zs, Zz, Zc])
            refine wpList_plain rfl (fun K hK => ?_); go_simp; (try simp (disch := omega) only [Yq, Yr]); (try dsimp only); refine hK _ _ ?_; clear hK K; (try simp only [Act.put, Zs, Zz, Zc])
            refine wpList_nil ?_
            go_upto_region 14 with fail
            refine wp_region_lit ?_
            refine wpList_plain rfl (fun K hK => ?_); (first | (refine wp_ld 25 _ (b2.range) (by rfl) (by rfl) Try.underlying25 rfl (by exact Try.infoR) ?_)); (try dsimp only); refine hK _ _ ?_; clear hK K; (try simp only [Act.put, Zs, Zz, Zc])
            refine wpList_plain rfl (fun K hK => ?_); go_simp; (go_at_call 30; refine (end_any _ _ hvx).mono ?_; intro e W701 hpp; obtain ⟨rfl, hx⟩ := hpp); (try dsimp only); refine hK _ _ ?_; clear hK K; (try simp only [Act.put, Zs, Zz, Zc])
            replace b0 := b0.ext hx
            replace b1 := b1.ext hx
            replace b2 := b2.ext hx
            replace hra := rangeAt.ext hra hbw hx
            replace hbw := Nat.lt_of_lt_of_le hbw hx.below.size
            replace tv := isT.ext hx tv
            replace hE1 := hE1.trans hx
            replace hUp := hUp.ext hx
            replace hE := hE.trans hx
            clear hx
            replace qz : r2 < W701.heap.size := b2.lt
            refine wpList_plain rfl (fun K hK => ?_); go_simp; (try dsimp only); refine hK _ _ ?_; clear hK K; (try simp only [Act.put, Zs, Zz, Zc])
            refine wpList_nil ?_
            go_upto_region 15 with fail
            obtain ⟨m2, hm4, hm5⟩ : ∃ m2, r2 < m2 ∧ m2 = W701.heap.size := ⟨_, qz, rfl⟩
            have hm6 : m2 ≤ W701.heap.size := by omega
            clear hm5
            refine wp_region_lit ?_
            refine wpList_plain rfl (fun K hK => ?_); (first | (refine wp_ld 28 _ (b1.range) (by rfl) (by rfl) Try.underlying28 rfl (by exact Try.infoT) ?_)); (try dsimp only); refine hK _ _ ?_; clear hK K; (try simp only [Act.put, Zs, Zz, Zc])
            refine wpList_plain rfl (fun K hK => ?_); (first | (refine wp_ld 25 _ (b2.range) (by rfl) (by rfl) Try.underlying25 rfl (by exact Try.infoR) ?_)); (try dsimp only); refine hK _ _ ?_; clear hK K; (try simp only [Act.put, Zs, Zz, Zc])
            refine wpList_plain rfl (fun K hK => ?_); go_simp; (go_at_call 31; refine (ins_P p (Lo A0 W0'.heap.size m2) _ _ _ (Up.lo hUp0 hE1 hm6) tv.up hvx hbd hp.b (by omega)).mono ?_; intro e W702 hpp; obtain ⟨v1, rfl, t1, hx⟩ := hpp); (try dsimp only); refine hK _ _ ?_; clear hK K; (try simp only [Act.put, Zs, Zz, Zc])
            replace b0 := b0.ext hx
            replace b1 := b1.ext hx
            replace b2 := b2.ext hx
            replace hra := rangeAt.ext hra hbw hx
            replace hbw := Nat.lt_of_lt_of_le hbw hx.below.size
            replace tv := isT.ext hx tv
            replace hE1 := hE1.trans hx
            replace hUp := hUp.ext hx
            replace hm6 := Nat.le_trans hm6 hx.below.size
            replace hE := hE.trans hx
            clear hx
            replace qz : r2 < W702.heap.size := b2.lt
            replace t1 := isT.hi t1
            refine wpList_plain rfl (fun K hK => ?_)
            refine wp_store_box 28 _ _ (by rfl) b1 (by rfl) (by rfl) (by exact Try.infoT) (by first | exact RV.one _ | exact TV.one _ rfl | exact TV.one TV.z rfl | exact TV.one _ (isT.one tv) | exact TV.one _ (isT.one t1)) (by rfl) (fun W703 hg bn => ?_)
            replace b0 := b0.kept hg (Zn (by omega))
            replace b2 := b2.kept hg (Zn (by omega))
            replace hra := rangeAt.kept hra hbw hg (Zn (by omega))
            replace hbw := Nat.lt_of_lt_of_le hbw hg.size
            replace tv := isT.kept hg (fun h => hnA h.1) tv
            replace hE1 := trivial
            replace hUp := hUp.grown hg
            replace hm6 := Nat.le_trans hm6 hg.size
            replace t1 := isT.kept hg hnA t1
            replace hE := ext_grow hE hg (fun q hq => by cases hq; omega)
            clear b1 hg
            have b1 := bn
            clear bn
            (try dsimp only); refine hK _ _ ?_; clear hK K; (try simp only [Act.put, Zs, Zz, Zc])
            replace qz : r2 < W703.heap.size := b2.lt
            refine wpList_nil ?_
            go_upto_region 16 with fail
            refine wp_region_lit ?_
            refine wpList_plain rfl (fun K hK => ?_); go_simp; (try simp (disch := omega) only [Yq, Yr]); (try dsimp only); refine hK _ _ ?_; clear hK K; (try simp only [Act.put, Zs, Zz, Zc])
            refine wpList_plain rfl (fun K hK => ?_); go_simp; (try dsimp only); refine hK _ _ ?_; clear hK K; (try simp only [Act.put, Zs, Zz, Zc])
            refine wpList_nil ?_
            obtain ⟨hg1, hg2⟩ := ins_ord hp hvx hla.out hcs
            go_wp2_with fail
            go_roundw
            case rel =>
              refine ⟨k + 1, insP p l[k], v1, (l[k]).e, rfl, by go_num, by omega, b0, b1, t1, hg1, ?_, by rw [hbl.out, hd, bldF, if_neg hcs], hE, hUp, ?_⟩
              · intro y hy
                rw [hg2] at hy
                rcases List.mem_append.1 hy with h | h
                · have h1 := hla.out y h
                  have h2 := hvx.2.1
                  unfold RV.e at *
                  omega
                · rw [List.mem_singleton.1 h]; exact Int.le_refl _
              · rw [hg2, hfl.out, List.take_succ_eq_append_getElem hlt]
            case measure => simp [intOf]; omega
        · have hF2 : BuildF l = (p, 0) := by rw [hF.out, hbl.out, List.drop_of_length_le (by omega), bldF]
          go_upto_region 17 with fail
          refine wp_region_lit ?_
          refine wpList_plain rfl (fun K hK => ?_); (first | (refine wp_ld 28 _ (b1.range) (by rfl) (by rfl) Try.underlying28 rfl (by exact Try.infoT) ?_)); (try dsimp only); refine hK _ _ ?_; clear hK K; (try simp only [Act.put, Zs, Zz, Zc])
          refine wpList_plain rfl (fun K hK => ?_)
          refine wp_store_box 28 _ _ (by rfl) b0 (by rfl) (by rfl) (by exact Try.infoT) (by first | exact RV.one _ | exact TV.one _ rfl | exact TV.one TV.z rfl | exact TV.one _ (isT.one tv)) (by rfl) (fun W801 hg bn => ?_)
          replace b1 := b1.kept hg (Zn (by omega))
          replace tv := isT.kept hg (by rw [hA0]; exact Lo.not (by omega) (by omega)) tv
          replace hE := ext_grow hE hg (fun q hq => by cases hq; omega)
          clear b0 hg
          have b0 := bn
          clear bn
          (try dsimp only); refine hK _ _ ?_; clear hK K; (try simp only [Act.put, Zs, Zz, Zc])
          replace qz : r1 < W801.heap.size := b1.lt
          refine wpList_plain rfl (fun K hK => ?_); go_simp; (try dsimp only); refine hK _ _ ?_; clear hK K; (try simp only [Act.put, Zs, Zz, Zc])
          refine wpList_nil ?_
          go_wp2_with fail
          exact bodyPost_ret (res_ct rfl (GivesC.of b0 rfl Try.underlying28 rfl Try.infoT) rfl) rfl ⟨v, by rw [hF2]; rfl, by rw [hF2]; exact isT.mono (fun q _ hq => by rw [hA0] at hq; exact hq.1) tv, hE⟩

end Go.Proofs.Ytnbohogkfdeddaa
