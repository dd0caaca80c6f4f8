/- Rangetree: each. -/
import Derived.Test.YtnbohogkfdeddaaRtg
import Derived.Test.YtnbohogkfdeddaaWk2
set_option linter.unusedSimpArgs false
set_option linter.unusedVariables false
namespace Go.Proofs.Ytnbohogkfdeddaa
open Go.RowKit

def BT.nodes : BT → List BT
  | .E => []
  | .N h f l g a x b => a.nodes ++ (.N h f l g a x b) :: b.nodes
theorem isT.gx {A : Nat → Prop} {w w' : World} {L : List Nat} (hg : GrownX w L w') (hL : ∀ g, A g → L.contains g = false) : ∀ {t : BT} {v : TV}, isT A w t v → isT A w' t v
  | .E, v, h => h
  | .N _ _ _ _ a x b, v, ⟨h1, h2, h3, h4, h5, h6, r, o, c, va, vb, h7, h8, h9, hr, h10, h11, h12, h13⟩ =>
    ⟨h1, h2, h3, h4, h5, h6, r, o, c, va, vb, h7, h8, Nat.lt_of_lt_of_le h9 hg.size, hr, hg.range h10 h9 (hL r hr), hg.range h11 h9 (hL r hr), isT.gx hg hL h12, isT.gx hg hL h13⟩
theorem GrownX.trans {X w w' : World} {L : List Nat} (h : GrownX X L w) (h' : GrownX w L w') : GrownX X L w' :=
  ⟨h'.os.trans h.os, h'.tape.trans h.tape, h'.output.trans h.output, Nat.le_trans h.size h'.size, fun b hb hn => (h'.block b (Nat.lt_of_lt_of_le hb h.size) hn).trans (h.block b hb hn)⟩
theorem res_0 {P : Program} {fn : Func} {tm : Array Value} {w : World} (hr : fn.results = #[]) : (results fn tm).run P w = .ok (.tuple #[]) w := by
  simp [results, hr]
/-- What a closure that each calls does to the state. -/
def StepOK {σ : Type} (K : FuncId) (caps : Array Value) (L : List Nat) (A : Nat → Prop) (S : σ → World → Prop) (step : σ → BT → σ) (V : BT → Prop) : Prop :=
  ∀ (s : σ) (b : BT) (v : TV) (w : World), S s w → isT A w b v → b ≠ .E → V b → Calls Try.prog K (#[.agg v.cs.toArray] ++ caps) w fun e w' => e = .returned (.tuple #[]) ∧ S (step s b) w' ∧ GrownX w L w'

set_option maxRecDepth 100000 in
set_option maxHeartbeats 800000 in
theorem each_E {A : Nat → Prop} (K : FuncId) (caps : Array Value) (v : TV) (w : World) (ht : isT A w .E v) :
    Calls Try.prog 36 #[.agg v.cs.toArray, .func (.func K) #[] caps] w fun e w' => e = .returned (.tuple #[]) ∧ Ext w w' := by
  obtain ⟨ka, kc, hk⟩ : ∃ a c, v.k = .slice a 0 c := ht.2.2.2.2.2
  have h0 : v.h = 0 := ht.1
  obtain ⟨vh, vf, vl, vg, vx, vk⟩ := v
  dsimp only at h0 hk
  subst h0 hk
  clear ht
  go_enter Try.func36, Try.ntmps36
  go_upto_region 1 with fail
  refine name_wX (fun W1 hW => ?_)
  have hE : Ext w W1 := by rw [hW]; repeat' (first | exact Ext.refl _ | apply Ext.al)
  have b0 : Blk W1 (w.heap.size) 28 (TV.cs ⟨0, vf, vl, vg, vx, .slice ka 0 kc⟩) := by rw [hW]; exact Blk.newAt rfl
  clear hW
  obtain ⟨r0, hr0⟩ : ∃ r, r = w.heap.size := ⟨_, rfl⟩
  rw [← hr0] at b0
  try rw [← hr0]
  have q0 : w.heap.size ≤ r0 := by omega
  clear hr0
  have qz : r0 < W1.heap.size := b0.lt
  have c0 : W1.cell? ⟨r0, 0, none⟩ = some (.int .i64 0) := b0.cell 0
  have c10 : W1.cell? ⟨r0, 10, none⟩ = some (.slice ka 0 kc) := b0.cell 10
  have z0 : LtD r0 W1.heap.size := qz
  go_upto_region 9999 with (first | ((with_reducible (apply wp_cond_split)); rfl; (all_goals intro hcd); (all_goals (first | (exfalso; exact Bool.noConfusion hcd) | ((try simp only [hcd]); go_prune)))) | ((fail_if_success go_not_at_region 1); ((with_reducible refine wp_region_same ?_); (first | go_big_quiet_step (fail) | quiet_step (fail)); (first | go_big_quiet_step (fail) | quiet_step (fail)); (first | go_big_quiet_step (fail) | quiet_step (fail)); (first | go_big_quiet_step (fail) | quiet_step (fail)); (first | go_big_quiet_step (fail) | (refine wpQuiet_liftE (wanted_F rfl rfl rfl) ?_; refine lift_fieldAddr rfl rfl ?_; apply Exists.intro; refine ⟨fun hgd => ?_, ?_⟩; (focus ((try simp only [Ya, Ye, Yb, Yd, Yc, Yg, Ys, Yt, Yh, Yi, Yj, Yk, Yl, Ym, Yn, int_eq_le, Yo, Yp] at hgd); (try simp only [Act.put, Zs, Zz, Zc]); go_simp; (try simp (disch := omega) only [Yq, Yr]); (first | done | exact rfl | (intro _; exact rfl)))); simp only [Act.put, Zs, Zz, Zc])); (first | go_big_quiet_step (fail) | (refine wpQuiet_liftE (wanted_F rfl rfl rfl) ?_; refine lift_put (n := 8) rfl (fun h => h) ?_; refine lift_load rfl rfl ?_; apply Exists.intro; refine ⟨fun hgd => ?_, ?_⟩; (focus ((try simp only [Ya, Ye, Yb, Yd, Yc, Yg, Ys, Yt, Yh, Yi, Yj, Yk, Yl, Ym, Yn, int_eq_le, Yo, Yp] at hgd); (try simp only [Act.put, Zs, Zz, Zc]); go_simp; (try simp (disch := omega) only [Yq, Yr]); (first | done | exact rfl | (intro _; exact rfl)))); simp only [Act.put, Zs, Zz, Zc])); (first | go_big_quiet_step (fail) | (refine wpQuiet_liftE (wanted_F rfl rfl rfl) ?_; refine lift_put (n := 9) rfl (fun h => h) ?_; apply Exists.intro; refine ⟨fun hgd => ?_, ?_⟩; (focus ((try simp only [Ya, Ye, Yb, Yd, Yc, Yg, Ys, Yt, Yh, Yi, Yj, Yk, Yl, Ym, Yn, int_eq_le, Yo, Yp] at hgd); (try simp only [Act.put, Zs, Zz, Zc]); go_simp; (try simp (disch := omega) only [Yq, Yr]); (first | done | exact rfl | (intro _; exact rfl)))); simp only [Act.put, Zs, Zz, Zc])); (first | go_big_quiet_step (fail) | (refine wpQuiet_liftE (wanted_F rfl rfl rfl) ?_; refine lift_put (n := 10) rfl (fun h => h) ?_; refine lift_binOp_tc rfl rfl ?_; apply Exists.intro; refine ⟨fun hgd => ?_, ?_⟩; (focus ((try simp only [Ya, Ye, Yb, Yd, Yc, Yg, Ys, Yt, Yh, Yi, Yj, Yk, Yl, Ym, Yn, int_eq_le, Yo, Yp] at hgd); (try simp only [Act.put, Zs, Zz, Zc]); go_simp; (try simp (disch := omega) only [Yq, Yr]); (first | done | exact rfl | (intro _; exact rfl)))); simp only [Act.put, Zs, Zz, Zc])); (first | (refine wpQuiet_pick_or rfl rfl rfl rfl ?_; simp only [Act.put, Zs, Zz, Zc]) | go_big_quiet_step (fail)); (with_reducible refine wpQuiet_nil ?_); intro wq hwq; subst hwq)))
  all_goals exact bodyPost_ret (res_0 rfl) rfl ⟨rfl, hE⟩

def EachOK (t : BT) : Prop := ∀ {σ : Type} (K : FuncId) (caps : Array Value) (L : List Nat) (A : Nat → Prop) (S : σ → World → Prop) (step : σ → BT → σ) (V : BT → Prop), (∀ args w, (callFunc K args).run Try.prog w = .ok (.enter K args) w) → StepOK K caps L A S step V → (∀ s w w', S s w → Ext w w' → S s w') → (∀ g, A g → L.contains g = false) → (∀ b ∈ t.nodes, V b) →
  ∀ (s : σ) (v : TV) (w : World), S s w → isT A w t v → (∀ g, w.heap.size ≤ g → L.contains g = false) →
    Calls Try.prog 36 #[.agg v.cs.toArray, .func (.func K) #[] caps] w fun e w' => e = .returned (.tuple #[]) ∧ S (t.nodes.foldl step s) w' ∧ GrownX w L w'

set_option maxRecDepth 100000 in
set_option maxHeartbeats 800000 in
theorem each_N {h f l gg : Int} {a b : BT} {y : RV} (iha : EachOK a) (ihb : EachOK b) : EachOK (.N h f l gg a y b) := by
  intro σ kf caps L A S step V hcf hkf hS hAL hV s v w hs ht hL
  have hVa : ∀ b ∈ a.nodes, V b := fun q hq => hV q (by simp [BT.nodes, hq])
  have hVb : ∀ q ∈ b.nodes, V q := fun q hq => hV q (by simp [BT.nodes, hq])
  have hVn : V (.N h f l gg a y b) := hV _ (by simp [BT.nodes])
  replace hVa : Hid _ := hVa
  replace hVb : Hid _ := hVb
  replace hVn : Hid (V _) := hVn
  clear hV
  have HT : isT A w (.N h f l gg a y b) v := ht
  obtain ⟨e1, e2, e3, e4, e5, e6, g, o, c, va, vb, hk, hc, hgw0, hAg, hra, hrb, ta, tb⟩ := ht
  obtain ⟨vh, vf, vl, vg, vx, vk⟩ := v
  dsimp only at e1 e2 e3 e4 e5 hk
  obtain rfl : h = vh := e1.symm
  obtain rfl : f = vf := e2.symm
  obtain rfl : l = vl := e3.symm
  obtain rfl : gg = vg := e4.symm
  obtain rfl : y = vx := e5.symm
  subst hk
  have hcI : (2 : Int) ≤ (c : Int) := by omega
  have hh0 : (h == 0) = false := by simpa using e6
  have hgL : L.contains g = false := hAL g hAg
  replace HT : Hid (isT A w (.N h f l gg a y b) _) := HT
  replace hL : Hid _ := hL
  replace hgL : Hid _ := hgL
  clear e6 e1 e2 e3 e4 e5
  go_enter Try.func36, Try.ntmps36
  go_upto_region 1 with fail
  refine name_wX (fun W1 hW => ?_)
  have hE : Ext w W1 := by rw [hW]; repeat' (first | exact Ext.refl _ | apply Ext.al)
  have b0 : Blk W1 (w.heap.size) 28 (TV.cs ⟨h, f, l, gg, y, .slice (some ⟨g, o, none⟩) 2 c⟩) := by rw [hW]; exact Blk.newAt rfl
  clear hW
  obtain ⟨r0, hr0⟩ : ∃ r, r = w.heap.size := ⟨_, rfl⟩
  rw [← hr0] at b0
  try rw [← hr0]
  have q0 : w.heap.size ≤ r0 := by omega
  clear hr0
  have qz : r0 < W1.heap.size := b0.lt
  replace ta := isT.ext hE ta
  replace tb := isT.ext hE tb
  have hgw : g < W1.heap.size := Nat.lt_of_lt_of_le hgw0 hE.below.size
  replace hra := rangeAt.ext hra hgw0 hE
  replace hrb := rangeAt.ext hrb hgw0 hE
  have tv := isT.ext hE HT.out
  replace hs := hS _ _ _ hs hE
  have hE0 : GrownX w L W1 := GrownX.of_ext hE
  clear hE HT
  have hE := hE0
  clear hE0
  have c0 : W1.cell? ⟨r0, 0, none⟩ = some (.int .i64 h) := b0.cell 0
  have c10 : W1.cell? ⟨r0, 10, none⟩ = some (.slice (some ⟨g, o, none⟩) 2 c) := b0.cell 10
  have z0 : LtD r0 W1.heap.size := qz
  go_upto_region 2 with (first | ((with_reducible (apply wp_cond_split)); rfl; (all_goals intro hcd); (all_goals (first | (exfalso; exact Bool.noConfusion hcd) | ((try simp only [hcd]); go_prune)))) | ((fail_if_success go_not_at_region 1); ((with_reducible refine wp_region_same ?_); (first | go_big_quiet_step (fail) | quiet_step (fail)); (first | go_big_quiet_step (fail) | quiet_step (fail)); (first | go_big_quiet_step (fail) | quiet_step (fail)); (first | go_big_quiet_step (fail) | quiet_step (fail)); (first | go_big_quiet_step (fail) | (refine wpQuiet_liftE (wanted_F rfl rfl rfl) ?_; refine lift_fieldAddr rfl rfl ?_; apply Exists.intro; refine ⟨fun hgd => ?_, ?_⟩; (focus ((try simp only [Ya, Ye, Yb, Yd, Yc, Yg, Ys, Yt, Yh, Yi, Yj, Yk, Yl, Ym, Yn, int_eq_le, Yo, Yp] at hgd); (try simp only [Act.put, Zs, Zz, Zc]); go_simp; (try simp (disch := omega) only [Yq, Yr]); (first | done | exact rfl | (intro _; exact rfl)))); simp only [Act.put, Zs, Zz, Zc])); (first | go_big_quiet_step (fail) | (refine wpQuiet_liftE (wanted_F rfl rfl rfl) ?_; refine lift_put (n := 8) rfl (fun h => h) ?_; refine lift_load rfl rfl ?_; apply Exists.intro; refine ⟨fun hgd => ?_, ?_⟩; (focus ((try simp only [Ya, Ye, Yb, Yd, Yc, Yg, Ys, Yt, Yh, Yi, Yj, Yk, Yl, Ym, Yn, int_eq_le, Yo, Yp] at hgd); (try simp only [Act.put, Zs, Zz, Zc]); go_simp; (try simp (disch := omega) only [Yq, Yr]); (first | done | exact rfl | (intro _; exact rfl)))); simp only [Act.put, Zs, Zz, Zc])); (first | go_big_quiet_step (fail) | (refine wpQuiet_liftE (wanted_F rfl rfl rfl) ?_; refine lift_put (n := 9) rfl (fun h => h) ?_; apply Exists.intro; refine ⟨fun hgd => ?_, ?_⟩; (focus ((try simp only [Ya, Ye, Yb, Yd, Yc, Yg, Ys, Yt, Yh, Yi, Yj, Yk, Yl, Ym, Yn, int_eq_le, Yo, Yp] at hgd); (try simp only [Act.put, Zs, Zz, Zc]); go_simp; (try simp (disch := omega) only [Yq, Yr]); (first | done | exact rfl | (intro _; exact rfl)))); simp only [Act.put, Zs, Zz, Zc])); (first | go_big_quiet_step (fail) | (refine wpQuiet_liftE (wanted_F rfl rfl rfl) ?_; refine lift_put (n := 10) rfl (fun h => h) ?_; refine lift_binOp_tc rfl rfl ?_; apply Exists.intro; refine ⟨fun hgd => ?_, ?_⟩; (focus ((try simp only [Ya, Ye, Yb, Yd, Yc, Yg, Ys, Yt, Yh, Yi, Yj, Yk, Yl, Ym, Yn, int_eq_le, Yo, Yp] at hgd); (try simp only [Act.put, Zs, Zz, Zc]); go_simp; (try simp (disch := omega) only [Yq, Yr]); (first | done | exact rfl | (intro _; exact rfl)))); simp only [Act.put, Zs, Zz, Zc])); (first | (refine wpQuiet_pick_or rfl rfl rfl rfl ?_; simp only [Act.put, Zs, Zz, Zc]) | go_big_quiet_step (fail)); (with_reducible refine wpQuiet_nil ?_); intro wq hwq; subst hwq)))
  clear c0 c10 z0
  have c10 : wq.cell? ⟨r0, 10, none⟩ = some (.slice (some ⟨g, o, none⟩) 2 c) := b0.cell 10
  refine wp_region_lit ?_
  refine wpList_plain rfl (fun K hK => ?_); go_simp; (try dsimp only); refine hK _ _ ?_; clear hK K; (try simp only [Act.put, Zs, Zz, Zc])
  refine wpList_plain rfl (fun K hK => ?_); have zc := b0.cell 10; go_simp; clear zc; (try dsimp only); refine hK _ _ ?_; clear hK K; (try simp only [Act.put, Zs, Zz, Zc])
  refine wpList_plain rfl (fun K hK => ?_); go_simp; (try dsimp only); refine hK _ _ ?_; clear hK K; (try simp only [Act.put, Zs, Zz, Zc])
  refine wpList_plain rfl (fun K hK => ?_); (first | (refine wp_ld 28 _ (hra) (by rfl) (by rfl) Try.underlying28 rfl (by exact Try.infoT) ?_) | (refine wp_ld 28 _ (hrb) (by rfl) (by rfl) Try.underlying28 rfl (by exact Try.infoT) ?_)); (try dsimp only); refine hK _ _ ?_; clear hK K; (try simp only [Act.put, Zs, Zz, Zc])
  refine wpList_plain rfl (fun K hK => ?_); go_simp; (try dsimp only); refine hK _ _ ?_; clear hK K; (try simp only [Act.put, Zs, Zz, Zc])
  refine wpList_plain rfl (fun K hK => ?_); go_simp; (go_at_call 36; refine (iha kf caps L A S step V hcf hkf hS hAL hVa.out _ _ _ hs ta (fun q hq => hL.out q (Nat.le_trans hE.size hq))).mono ?_; intro e W2 hpp; obtain ⟨rfl, hs2, hx⟩ := hpp); (try dsimp only); refine hK _ _ ?_; clear hK K; (try simp only [Act.put, Zs, Zz, Zc])
  replace b0 := GrownX.blk hx b0 (hL.out _ (by omega))
  replace ta := isT.gx hx hAL ta
  replace tb := isT.gx hx hAL tb
  replace tv := isT.gx hx hAL tv
  replace hra := GrownX.range hx hra hgw hgL.out
  replace hrb := GrownX.range hx hrb hgw hgL.out
  replace hgw := Nat.lt_of_lt_of_le hgw hx.size
  replace hE := GrownX.trans hE hx
  clear hx
  replace qz : r0 < W2.heap.size := b0.lt
  clear hs c10
  have hs := hs2
  clear hs2
  have c10 : W2.cell? ⟨r0, 10, none⟩ = some (.slice (some ⟨g, o, none⟩) 2 c) := b0.cell 10
  refine wpList_nil ?_
  go_upto_region 3 with fail
  refine wp_region_lit ?_
  refine wpList_plain rfl (fun K hK => ?_); go_simp; (try dsimp only); refine hK _ _ ?_; clear hK K; (try simp only [Act.put, Zs, Zz, Zc])
  refine wpList_plain rfl (fun K hK => ?_); (first | (refine wp_ld 28 _ (b0.range) (by rfl) (by rfl) Try.underlying28 rfl (by exact Try.infoT) ?_)); (try dsimp only); refine hK _ _ ?_; clear hK K; (try simp only [Act.put, Zs, Zz, Zc])
  refine wpList_plain rfl (fun K hK => ?_); go_simp; (refine (hkf _ _ _ _ hs tv (by simp) hVn.out).mono ?_; intro e W3 hpp; obtain ⟨rfl, hs2, hx⟩ := hpp); (try dsimp only); refine hK _ _ ?_; clear hK K; (try simp only [Act.put, Zs, Zz, Zc])
  replace b0 := GrownX.blk hx b0 (hL.out _ (by omega))
  replace ta := isT.gx hx hAL ta
  replace tb := isT.gx hx hAL tb
  replace tv := isT.gx hx hAL tv
  replace hra := GrownX.range hx hra hgw hgL.out
  replace hrb := GrownX.range hx hrb hgw hgL.out
  replace hgw := Nat.lt_of_lt_of_le hgw hx.size
  replace hE := GrownX.trans hE hx
  clear hx
  replace qz : r0 < W3.heap.size := b0.lt
  clear hs c10
  have hs := hs2
  clear hs2
  have c10 : W3.cell? ⟨r0, 10, none⟩ = some (.slice (some ⟨g, o, none⟩) 2 c) := b0.cell 10
  refine wpList_nil ?_
  go_upto_region 4 with fail
  refine wp_region_lit ?_
  refine wpList_plain rfl (fun K hK => ?_); go_simp; (try dsimp only); refine hK _ _ ?_; clear hK K; (try simp only [Act.put, Zs, Zz, Zc])
  refine wpList_plain rfl (fun K hK => ?_); have zc := b0.cell 10; go_simp; clear zc; (try dsimp only); refine hK _ _ ?_; clear hK K; (try simp only [Act.put, Zs, Zz, Zc])
  refine wpList_plain rfl (fun K hK => ?_); go_simp; (try dsimp only); refine hK _ _ ?_; clear hK K; (try simp only [Act.put, Zs, Zz, Zc])
  refine wpList_plain rfl (fun K hK => ?_); (first | (refine wp_ld 28 _ (hra) (by rfl) (by rfl) Try.underlying28 rfl (by exact Try.infoT) ?_) | (refine wp_ld 28 _ (hrb) (by rfl) (by rfl) Try.underlying28 rfl (by exact Try.infoT) ?_)); (try dsimp only); refine hK _ _ ?_; clear hK K; (try simp only [Act.put, Zs, Zz, Zc])
  refine wpList_plain rfl (fun K hK => ?_); go_simp; (try dsimp only); refine hK _ _ ?_; clear hK K; (try simp only [Act.put, Zs, Zz, Zc])
  refine wpList_plain rfl (fun K hK => ?_); go_simp; (go_at_call 36; refine (ihb kf caps L A S step V hcf hkf hS hAL hVb.out _ _ _ hs tb (fun q hq => hL.out q (Nat.le_trans hE.size hq))).mono ?_; intro e W4 hpp; obtain ⟨rfl, hs2, hx⟩ := hpp); (try dsimp only); refine hK _ _ ?_; clear hK K; (try simp only [Act.put, Zs, Zz, Zc])
  replace b0 := GrownX.blk hx b0 (hL.out _ (by omega))
  replace ta := isT.gx hx hAL ta
  replace tb := isT.gx hx hAL tb
  replace tv := isT.gx hx hAL tv
  replace hra := GrownX.range hx hra hgw hgL.out
  replace hrb := GrownX.range hx hrb hgw hgL.out
  replace hgw := Nat.lt_of_lt_of_le hgw hx.size
  replace hE := GrownX.trans hE hx
  clear hx
  replace qz : r0 < W4.heap.size := b0.lt
  clear hs c10
  have hs := hs2
  clear hs2
  have c10 : W4.cell? ⟨r0, 10, none⟩ = some (.slice (some ⟨g, o, none⟩) 2 c) := b0.cell 10
  refine wpList_nil ?_
  go_wp2_with fail
  go_end0
  exact ⟨rfl, by simpa [BT.nodes] using hs, hE⟩
theorem each_P : ∀ t : BT, EachOK t
  | .E => fun K caps L A S step V hcf hK hS hAL hV s v w hs ht hL => (each_E K caps v w ht).mono fun e w' ⟨he, hE⟩ => ⟨he, hS _ _ _ hs hE, GrownX.of_ext hE⟩
  | .N h f l g a x b => each_N (each_P a) (each_P b)

end Go.Proofs.Ytnbohogkfdeddaa
