/- Rangetree: List. -/
import Derived.Test.YtnbohogkfdeddaaRua
import Derived.Test.YtnbohogkfdeddaaRtw
set_option linter.unusedSimpArgs false
set_option linter.unusedVariables false
namespace Go.Proofs.Ytnbohogkfdeddaa
open Go.RowKit

theorem Try.enter_l1 : ∀ args w, (callFunc 37 args).run Try.prog w = .ok (.enter 37 args) w := by
  intro args w
  go_simp
theorem gr_ext {r1 : Nat} {w X w' : World} (hE : Ext w X) (h : GR r1 X w') (h1 : w.heap.size ≤ r1) (h2 : ∀ g, rowAt X r1 = some g → w.heap.size ≤ g) : Ext w w' := by
  have hb := hE.below
  refine Ext.of_below ⟨h.os.trans hb.os, h.tape.trans hb.tape, h.output.trans hb.output, Nat.le_trans hb.size h.size, fun b hq => ?_⟩
  refine (h.block b (Nat.lt_of_lt_of_le hq hb.size) (by omega) (fun e => ?_)).trans (hb.block b hq)
  have := h2 b e
  omega
def EachL (base r1 : Nat) (t : BT) : Prop := ∀ (A : Nat → Prop) (xs : List RV) (v : TV) (w : World), SL base r1 xs w → isT A w t v → (∀ g, A g → KR r1 w g) → xs.length + t.nodes.length ≤ 90000 →
  Calls Try.prog 36 #[.agg v.cs.toArray, .func (.func 37) #[] #[.pointer (some ⟨r1, 0, none⟩)]] w fun e w' => e = .returned (.tuple #[]) ∧ SL base r1 (xs ++ t.nodes.map BT.rg) w' ∧ GR r1 w w'

set_option maxRecDepth 100000 in
set_option maxHeartbeats 4000000 in
theorem eachL_N {base r1 : Nat} {h f l gg : Int} {a b : BT} {y : RV} (iha : EachL base r1 a) (ihb : EachL base r1 b) : EachL base r1 (.N h f l gg a y b) := by
  intro A xs v w hs ht hAK hlen
  have hl1 : xs.length + a.nodes.length ≤ 90000 := by simp only [BT.nodes, List.length_append, List.length_cons] at hlen; omega
  have hl2 : (xs ++ a.nodes.map BT.rg).length < 99999 := by simp only [List.length_append, List.length_map]; omega
  have hl3 : (xs ++ a.nodes.map BT.rg ++ [y]).length + b.nodes.length ≤ 90000 := by simp only [BT.nodes, List.length_append, List.length_cons] at hlen; simp only [List.length_append, List.length_map, List.length_cons, List.length_nil]; omega
  replace hl1 : Hid _ := hl1
  replace hl2 : Hid _ := hl2
  replace hl3 : Hid _ := hl3
  clear hlen
  have HT : isT A w (.N h f l gg a y b) v := ht
  obtain ⟨e1, e2, e3, e4, e5, e6, g, o, c, va, vb, hk, hc, hgw0, hAg, hra, hrb, ta, tb⟩ := ht
  obtain ⟨vh, vf, vl, vg, vx, vk⟩ := v
  dsimp only at e1 e2 e3 e4 e5 hk
  obtain rfl : h = vh := e1.symm
  obtain rfl : f = vf := e2.symm
  obtain rfl : l = vl := e3.symm
  obtain rfl : gg = vg := e4.symm
  obtain rfl : y = vx := e5.symm
  subst hk
  have hcI : (2 : Int) ≤ (c : Int) := by omega
  have hh0 : (h == 0) = false := by simpa using e6
  have hcw : r1 < w.heap.size := hs.lt
  replace HT : Hid (isT A w (.N h f l gg a y b) _) := HT
  have hcf := Try.enter_l1
  clear e6 e1 e2 e3 e4 e5
  go_enter Try.func36, Try.ntmps36
  go_upto_region 1 with fail
  refine name_wX (fun W1 hW => ?_)
  have hE : Ext w W1 := by rw [hW]; repeat' (first | exact Ext.refl _ | apply Ext.al)
  have b0 : Blk W1 (w.heap.size) 28 (TV.cs ⟨h, f, l, gg, y, .slice (some ⟨g, o, none⟩) 2 c⟩) := by rw [hW]; exact Blk.newAt rfl
  clear hW
  obtain ⟨r0, hr0⟩ : ∃ r, r = w.heap.size := ⟨_, rfl⟩
  rw [← hr0] at b0
  try rw [← hr0]
  have q0 : w.heap.size ≤ r0 := by omega
  clear hr0
  have qz : r0 < W1.heap.size := b0.lt
  replace ta := isT.ext hE ta
  replace tb := isT.ext hE tb
  have hgw : g < W1.heap.size := Nat.lt_of_lt_of_le hgw0 hE.below.size
  replace hra := rangeAt.ext hra hgw0 hE
  replace hrb := rangeAt.ext hrb hgw0 hE
  have tv := isT.ext hE HT.out
  have k0 : KR r1 W1 r0 := hs.new hE q0 qz
  replace hs := SL.ext hs hE
  replace hAK : ∀ q, A q → KR r1 W1 q := fun q hq => (hAK q hq).ext hE hcw
  have hE0 : GR r1 w W1 := GR.of_ext hE hcw
  clear hE HT
  have hE := hE0
  clear hE0
  have c0 : W1.cell? ⟨r0, 0, none⟩ = some (.int .i64 h) := b0.cell 0
  have c10 : W1.cell? ⟨r0, 10, none⟩ = some (.slice (some ⟨g, o, none⟩) 2 c) := b0.cell 10
  have z0 : LtD r0 W1.heap.size := qz
  go_upto_region 2 with (first | ((with_reducible (apply wp_cond_split)); rfl; (all_goals intro hcd); (all_goals (first | (exfalso; exact Bool.noConfusion hcd) | ((try simp only [hcd]); go_prune)))) | ((fail_if_success go_not_at_region 1); ((with_reducible refine wp_region_same ?_); (first | go_big_quiet_step (fail) | quiet_step (fail)); (first | go_big_quiet_step (fail) | quiet_step (fail)); (first | go_big_quiet_step (fail) | quiet_step (fail)); (first | go_big_quiet_step (fail) | quiet_step (fail)); (first | go_big_quiet_step (fail) | (refine wpQuiet_liftE (wanted_F rfl rfl rfl) ?_; refine lift_fieldAddr rfl rfl ?_; apply Exists.intro; refine ⟨fun hgd => ?_, ?_⟩; (focus ((try simp only [Ya, Ye, Yb, Yd, Yc, Yg, Ys, Yt, Yh, Yi, Yj, Yk, Yl, Ym, Yn, int_eq_le, Yo, Yp] at hgd); (try simp only [Act.put, Zs, Zz, Zc]); go_simp; (try simp (disch := omega) only [Yq, Yr]); (first | done | exact rfl | (intro _; exact rfl)))); simp only [Act.put, Zs, Zz, Zc])); (first | go_big_quiet_step (fail) | (refine wpQuiet_liftE (wanted_F rfl rfl rfl) ?_; refine lift_put (n := 8) rfl (fun h => h) ?_; refine lift_load rfl rfl ?_; apply Exists.intro; refine ⟨fun hgd => ?_, ?_⟩; (focus ((try simp only [Ya, Ye, Yb, Yd, Yc, Yg, Ys, Yt, Yh, Yi, Yj, Yk, Yl, Ym, Yn, int_eq_le, Yo, Yp] at hgd); (try simp only [Act.put, Zs, Zz, Zc]); go_simp; (try simp (disch := omega) only [Yq, Yr]); (first | done | exact rfl | (intro _; exact rfl)))); simp only [Act.put, Zs, Zz, Zc])); (first | go_big_quiet_step (fail) | (refine wpQuiet_liftE (wanted_F rfl rfl rfl) ?_; refine lift_put (n := 9) rfl (fun h => h) ?_; apply Exists.intro; refine ⟨fun hgd => ?_, ?_⟩; (focus ((try simp only [Ya, Ye, Yb, Yd, Yc, Yg, Ys, Yt, Yh, Yi, Yj, Yk, Yl, Ym, Yn, int_eq_le, Yo, Yp] at hgd); (try simp only [Act.put, Zs, Zz, Zc]); go_simp; (try simp (disch := omega) only [Yq, Yr]); (first | done | exact rfl | (intro _; exact rfl)))); simp only [Act.put, Zs, Zz, Zc])); (first | go_big_quiet_step (fail) | (refine wpQuiet_liftE (wanted_F rfl rfl rfl) ?_; refine lift_put (n := 10) rfl (fun h => h) ?_; refine lift_binOp_tc rfl rfl ?_; apply Exists.intro; refine ⟨fun hgd => ?_, ?_⟩; (focus ((try simp only [Ya, Ye, Yb, Yd, Yc, Yg, Ys, Yt, Yh, Yi, Yj, Yk, Yl, Ym, Yn, int_eq_le, Yo, Yp] at hgd); (try simp only [Act.put, Zs, Zz, Zc]); go_simp; (try simp (disch := omega) only [Yq, Yr]); (first | done | exact rfl | (intro _; exact rfl)))); simp only [Act.put, Zs, Zz, Zc])); (first | (refine wpQuiet_pick_or rfl rfl rfl rfl ?_; simp only [Act.put, Zs, Zz, Zc]) | go_big_quiet_step (fail)); (with_reducible refine wpQuiet_nil ?_); intro wq hwq; subst hwq)))
  clear c0 c10 z0
  have c10 : wq.cell? ⟨r0, 10, none⟩ = some (.slice (some ⟨g, o, none⟩) 2 c) := b0.cell 10
  refine wp_region_lit ?_
  refine wpList_plain rfl (fun K hK => ?_); go_simp; (try dsimp only); refine hK _ _ ?_; clear hK K; (try simp only [Act.put, Zs, Zz, Zc])
  refine wpList_plain rfl (fun K hK => ?_); have zc := b0.cell 10; go_simp; clear zc; (try dsimp only); refine hK _ _ ?_; clear hK K; (try simp only [Act.put, Zs, Zz, Zc])
  refine wpList_plain rfl (fun K hK => ?_); go_simp; (try dsimp only); refine hK _ _ ?_; clear hK K; (try simp only [Act.put, Zs, Zz, Zc])
  refine wpList_plain rfl (fun K hK => ?_); (first | (refine wp_ld 28 _ (hra) (by rfl) (by rfl) Try.underlying28 rfl (by exact Try.infoT) ?_) | (refine wp_ld 28 _ (hrb) (by rfl) (by rfl) Try.underlying28 rfl (by exact Try.infoT) ?_)); (try dsimp only); refine hK _ _ ?_; clear hK K; (try simp only [Act.put, Zs, Zz, Zc])
  refine wpList_plain rfl (fun K hK => ?_); go_simp; (try dsimp only); refine hK _ _ ?_; clear hK K; (try simp only [Act.put, Zs, Zz, Zc])
  refine wpList_plain rfl (fun K hK => ?_); go_simp; (go_at_call 36; refine (iha A _ _ _ hs ta hAK hl1.out).mono ?_; intro e W2 hpp; obtain ⟨rfl, hs2, hx⟩ := hpp); (try dsimp only); refine hK _ _ ?_; clear hK K; (try simp only [Act.put, Zs, Zz, Zc])
  replace b0 := GR.blk hx k0 b0
  replace ta := isT.gr hx hAK ta
  replace tb := isT.gr hx hAK tb
  replace tv := isT.gr hx hAK tv
  replace hra := GR.range hx (hAK g hAg) hra
  replace hrb := GR.range hx (hAK g hAg) hrb
  replace hgw := Nat.lt_of_lt_of_le hgw hx.size
  replace k0 := KR.gr k0 hx
  replace hAK := (fun q hq => KR.gr (hAK q hq) hx)
  replace hE := GR.trans hE hx
  clear hx
  replace qz : r0 < W2.heap.size := b0.lt
  clear hs c10
  have hs := hs2
  clear hs2
  have c10 : W2.cell? ⟨r0, 10, none⟩ = some (.slice (some ⟨g, o, none⟩) 2 c) := b0.cell 10
  refine wpList_nil ?_
  go_upto_region 3 with fail
  refine wp_region_lit ?_
  refine wpList_plain rfl (fun K hK => ?_); go_simp; (try dsimp only); refine hK _ _ ?_; clear hK K; (try simp only [Act.put, Zs, Zz, Zc])
  refine wpList_plain rfl (fun K hK => ?_); (first | (refine wp_ld 28 _ (b0.range) (by rfl) (by rfl) Try.underlying28 rfl (by exact Try.infoT) ?_)); (try dsimp only); refine hK _ _ ?_; clear hK K; (try simp only [Act.put, Zs, Zz, Zc])
  refine wpList_plain rfl (fun K hK => ?_); go_simp; (refine (list1_any base r1 _ _ _ _ hs tv (by simp) hl2.out).mono ?_; intro e W3 hpp; obtain ⟨rfl, hs2, hx⟩ := hpp); (try dsimp only); refine hK _ _ ?_; clear hK K; (try simp only [Act.put, Zs, Zz, Zc])
  replace b0 := GR.blk hx k0 b0
  replace ta := isT.gr hx hAK ta
  replace tb := isT.gr hx hAK tb
  replace tv := isT.gr hx hAK tv
  replace hra := GR.range hx (hAK g hAg) hra
  replace hrb := GR.range hx (hAK g hAg) hrb
  replace hgw := Nat.lt_of_lt_of_le hgw hx.size
  replace k0 := KR.gr k0 hx
  replace hAK := (fun q hq => KR.gr (hAK q hq) hx)
  replace hE := GR.trans hE hx
  clear hx
  replace qz : r0 < W3.heap.size := b0.lt
  clear hs c10
  have hs := hs2
  clear hs2
  have c10 : W3.cell? ⟨r0, 10, none⟩ = some (.slice (some ⟨g, o, none⟩) 2 c) := b0.cell 10
  refine wpList_nil ?_
  go_upto_region 4 with fail
  refine wp_region_lit ?_
  refine wpList_plain rfl (fun K hK => ?_); go_simp; (try dsimp only); refine hK _ _ ?_; clear hK K; (try simp only [Act.put, Zs, Zz, Zc])
  refine wpList_plain rfl (fun K hK => ?_); have zc := b0.cell 10; go_simp; clear zc; (try dsimp only); refine hK _ _ ?_; clear hK K; (try simp only [Act.put, Zs, Zz, Zc])
  refine wpList_plain rfl (fun K hK => ?_); go_simp; (try dsimp only); refine hK _ _ ?_; clear hK K; (try simp only [Act.put, Zs, Zz, Zc])
  refine wpList_plain rfl (fun K hK => ?_); (first | (refine wp_ld 28 _ (hra) (by rfl) (by rfl) Try.underlying28 rfl (by exact Try.infoT) ?_) | (refine wp_ld 28 _ (hrb) (by rfl) (by rfl) Try.underlying28 rfl (by exact Try.infoT) ?_)); (try dsimp only); refine hK _ _ ?_; clear hK K; (try simp only [Act.put, Zs, Zz, Zc])
  refine wpList_plain rfl (fun K hK => ?_); go_simp; (try dsimp only); refine hK _ _ ?_; clear hK K; (try simp only [Act.put, Zs, Zz, Zc])
  refine wpList_plain rfl (fun K hK => ?_); go_simp; (go_at_call 36; refine (ihb A _ _ _ hs tb hAK hl3.out).mono ?_; intro e W4 hpp; obtain ⟨rfl, hs2, hx⟩ := hpp); (try dsimp only); refine hK _ _ ?_; clear hK K; (try simp only [Act.put, Zs, Zz, Zc])
  replace b0 := GR.blk hx k0 b0
  replace ta := isT.gr hx hAK ta
  replace tb := isT.gr hx hAK tb
  replace tv := isT.gr hx hAK tv
  replace hra := GR.range hx (hAK g hAg) hra
  replace hrb := GR.range hx (hAK g hAg) hrb
  replace hgw := Nat.lt_of_lt_of_le hgw hx.size
  replace k0 := KR.gr k0 hx
  replace hAK := (fun q hq => KR.gr (hAK q hq) hx)
  replace hE := GR.trans hE hx
  clear hx
  replace qz : r0 < W4.heap.size := b0.lt
  clear hs c10
  have hs := hs2
  clear hs2
  have c10 : W4.cell? ⟨r0, 10, none⟩ = some (.slice (some ⟨g, o, none⟩) 2 c) := b0.cell 10
  refine wpList_nil ?_
  go_wp2_with fail
  go_end0
  exact ⟨rfl, by simpa [BT.nodes, BT.rg] using hs, hE⟩
theorem eachL_P (base r1 : Nat) : ∀ t : BT, EachL base r1 t
  | .E => fun A xs v w hs ht hAK hl => (each_E _ _ v w ht).mono fun e w' ⟨he, hE⟩ => ⟨he, by simpa [BT.nodes] using hs.ext hE, GR.of_ext hE hs.lt⟩
  | .N h f l g a x b => eachL_N (eachL_P base r1 a) (eachL_P base r1 b)

set_option maxRecDepth 100000 in
set_option maxHeartbeats 4000000 in
theorem list_P {A : Nat → Prop} (p : PT) (v : TV) (w : World) (hp : good p) (ht : isT A w p.bt v) :
    Calls Try.prog 17 #[.agg v.cs.toArray] w fun e w' => ∃ u, e = .returned u ∧ ownR w' w.heap.size u p.flat ∧ Ext w w' := by
  replace ht := ht.lw
  have hl := good_len hp
  have hn := nodes_flat p
  have hcf := Try.enter_l1
  go_enter Try.func17, Try.ntmps17
  go_upto_region 1 with fail
  refine name_wX (fun W1 hW => ?_)
  have hE : Ext w W1 := by rw [hW]; repeat' (first | exact Ext.refl _ | apply Ext.al)
  have b0 : Blk W1 (w.heap.size) 28 v.cs := by rw [hW]; exact Blk.newAt rfl
  clear hW
  obtain ⟨r0, hr0⟩ : ∃ r, r = w.heap.size := ⟨_, rfl⟩
  rw [← hr0] at b0
  try rw [← hr0]
  have q0 : w.heap.size ≤ r0 := by omega
  clear hr0
  have qz : r0 < W1.heap.size := b0.lt
  replace ht := isT.ext hE ht
  refine wp_region_lit ?_
  refine wpList_plain rfl (fun K hK => ?_); (first | (refine wp_ld 28 _ (b0.range) (by rfl) (by rfl) Try.underlying28 rfl (by exact Try.infoT) ?_)); (try dsimp only); refine hK _ _ ?_; clear hK K; (try simp only [Act.put, Zs, Zz, Zc])
  refine wpList_plain rfl (fun K hK => ?_); go_simp; (go_at_call 22; refine (check_P p v _ hp ht).mono ?_; intro e W2 hpp; obtain ⟨rfl, hx⟩ := hpp); (try dsimp only); refine hK _ _ ?_; clear hK K; (try simp only [Act.put, Zs, Zz, Zc])
  replace b0 := b0.ext hx
  replace ht := isT.ext hx ht
  replace hE := hE.trans hx
  clear hx
  replace qz : r0 < W2.heap.size := b0.lt
  refine wpList_plain rfl (fun K hK => ?_); go_simp; (try simp (disch := omega) only [Yq, Yr]); (try dsimp only); refine hK _ _ ?_; clear hK K; (try simp only [Act.put, Zs, Zz, Zc])
  refine wpList_nil ?_
  go_upto_region 3 with fail
  refine wp_region_lit ?_
  refine wpList_plain rfl (fun K hK => ?_); go_simp; (try dsimp only); refine hK _ _ ?_; clear hK K; (try simp only [Act.put, Zs, Zz, Zc])
  refine name_wl (fun W3 hW => ?_)
  have hx : Ext W2 W3 := by rw [hW]; exact ext_alloc _ _
  have b1 : Blk W3 W2.heap.size 22 [.slice none 0 0] := by rw [hW]; exact Blk.newAt rfl
  clear hW
  replace b0 := b0.ext hx
  replace ht := isT.ext hx ht
  replace hE := hE.trans hx
  clear hx
  obtain ⟨r1, hr⟩ : ∃ r, r = W2.heap.size := ⟨_, rfl⟩
  rw [← hr] at b1
  try rw [← hr]
  have q1 : r0 < r1 := by omega
  clear hr
  replace qz : r1 < W3.heap.size := b1.lt
  refine wpList_nil ?_
  go_upto_region 4 with fail
  refine wp_region_lit ?_
  refine wpList_plain rfl (fun K hK => ?_); (first | (refine wp_ld 28 _ (b0.range) (by rfl) (by rfl) Try.underlying28 rfl (by exact Try.infoT) ?_)); (try dsimp only); refine hK _ _ ?_; clear hK K; (try simp only [Act.put, Zs, Zz, Zc])
  refine wpList_plain rfl (fun K hK => ?_); go_simp; (try dsimp only); refine hK _ _ ?_; clear hK K; (try simp only [Act.put, Zs, Zz, Zc])
  refine wpList_plain rfl (fun K hK => ?_); go_simp; (go_at_call 36; refine (eachL_P w.heap.size r1 p.bt (Lw A w.heap.size) [] v _ ⟨hE.below.size, _, b1, ownR_nil _ _⟩ ht (fun q hq => ⟨Nat.lt_of_lt_of_le hq.2 hE.below.size, (by have := hq.2; omega), (by rw [b1.row]; simp [Value.ownBlock])⟩) (by have := congrArg List.length hn; simp only [List.length_map] at this; simp only [List.length_nil]; omega)).mono ?_; intro e W8 hpp; obtain ⟨rfl, hs2, hx⟩ := hpp); (try dsimp only); refine hK _ _ ?_; clear hK K; (try simp only [Act.put, Zs, Zz, Zc])
  refine wpList_nil ?_
  have hE8 : Ext w W8 := gr_ext hE hx (by omega) (fun q hq => by rw [b1.row] at hq; simp [Value.ownBlock] at hq)
  obtain ⟨hb8, u, b8, hown⟩ := hs2
  clear b0 b1 hE ht hx qz
  have hE := hE8
  clear hE8
  go_upto_region 5 with fail
  refine wp_region_lit ?_
  refine wpList_plain rfl (fun K hK => ?_); have zc := b8.cell 0; go_simp; clear zc; (try dsimp only); refine hK _ _ ?_; clear hK K; (try simp only [Act.put, Zs, Zz, Zc])
  refine wpList_plain rfl (fun K hK => ?_); go_simp; (try dsimp only); refine hK _ _ ?_; clear hK K; (try simp only [Act.put, Zs, Zz, Zc])
  refine wpList_nil ?_
  go_wp2_with fail
  go_ret
  exact ⟨u, rfl, by rw [← hn]; exact hown, hE⟩

end Go.Proofs.Ytnbohogkfdeddaa
