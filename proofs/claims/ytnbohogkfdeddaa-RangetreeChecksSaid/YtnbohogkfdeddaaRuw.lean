/- Rangetree: the reference: Node. -/
import Derived.Test.YtnbohogkfdeddaaRui
import Derived.Test.YtnbohogkfdeddaaRtn
set_option linter.unusedSimpArgs false
set_option linter.unusedVariables false
namespace Go.Proofs.Ytnbohogkfdeddaa
open Go.RowKit

theorem run_bldT (v0 v1 v2 v3 : Int) (x : RV) (w : World) : (Instr.build 28 #[(0, .int .i64 v0), (1, .int .i64 v1), (2, .int .i64 v2), (3, .int .i64 v3), (4, .agg x.cs.toArray)]).run Try.prog w = .ok (.agg (TV.cs ⟨v0, v1, v2, v3, x, .slice none 0 0⟩).toArray) w := by
  simp only [RV.cs, TV.cs]
  go_simp
theorem exec_bldT {op : Oper} {a : Act} {w : World} (o0 o1 o2 o3 o4 : Operand) (ho : op.op = .build 28 #[(0, o0), (1, o1), (2, o2), (3, o3), (4, o4)]) {v0 v1 v2 v3 : Int} {x : RV} (h0 : a.eval o0 = .int .i64 v0) (h1 : a.eval o1 = .int .i64 v1) (h2 : a.eval o2 = .int .i64 v2) (h3 : a.eval o3 = .int .i64 v3) (h4 : a.eval o4 = .agg x.cs.toArray) :
    (execOp a.eval op).run Try.prog w = .ok (.value (.agg (TV.cs ⟨v0, v1, v2, v3, x, .slice none 0 0⟩).toArray)) w := by
  unfold execOp
  simp only [ho, List.map_toArray, List.map_cons, List.map_nil, h0, h1, h2, h3, h4, Sem.run_bind, run_bldT, Sem.run_pure, Result.andThen_ok]
set_option maxRecDepth 100000 in
set_option maxHeartbeats 4000000 in
theorem rnode_any (l : TV) (x : RV) (r : TV) (w : World) (hv : vld x) (hl : 0 ≤ l.h) (hr : 0 ≤ r.h) :
    Calls Try.prog 55 #[.agg l.cs.toArray, .agg x.cs.toArray, .agg r.cs.toArray] w fun e w' => ∃ gk, e = .returned (.agg (nodeV l x r (.slice (some ⟨gk, 0, none⟩) 2 2)).cs.toArray) ∧ Blk w' gk 28 (l.cs ++ r.cs) ∧ w.heap.size ≤ gk ∧ Ext w w' := by
  have hv0 : Hid (vld x) := hv
  clear hv
  replace hl : Hid (0 ≤ l.h) := hl
  replace hr : Hid (0 ≤ r.h) := hr
  go_enter Try.func55, Try.ntmps55
  go_upto_region 1 with fail
  refine name_wX (fun W1 hW => ?_)
  have hE : Ext w W1 := by rw [hW]; repeat' (first | exact Ext.refl _ | apply Ext.al)
  have b0 : Blk W1 (w.heap.size) 28 l.cs := by rw [hW]; exact (((Blk.newAt rfl).alloc _).alloc _).alloc _
  have b1 : Blk W1 (w.heap.size + 1) 25 x.cs := by rw [hW]; exact ((Blk.newAt (by simp)).alloc _).alloc _
  have b2 : Blk W1 (w.heap.size + 1 + 1) 28 r.cs := by rw [hW]; exact (Blk.newAt (by simp)).alloc _
  have b3 : Blk W1 (w.heap.size + 1 + 1 + 1) 28 TV.z.cs := by rw [hW]; exact Blk.newAt (by simp)
  clear hW
  obtain ⟨r3, hr3⟩ : ∃ r, r = w.heap.size + 1 + 1 + 1 := ⟨_, rfl⟩
  rw [← hr3] at b3
  try rw [← hr3]
  obtain ⟨r2, hr2⟩ : ∃ r, r = w.heap.size + 1 + 1 := ⟨_, rfl⟩
  rw [← hr2] at b2
  try rw [← hr2]
  obtain ⟨r1, hr1⟩ : ∃ r, r = w.heap.size + 1 := ⟨_, rfl⟩
  rw [← hr1] at b1
  try rw [← hr1]
  obtain ⟨r0, hr0⟩ : ∃ r, r = w.heap.size := ⟨_, rfl⟩
  rw [← hr0] at b0
  try rw [← hr0]
  have q0 : w.heap.size ≤ r0 := by omega
  have q1 : r0 < r1 := by omega
  have q2 : r1 < r2 := by omega
  have q3 : r2 < r3 := by omega
  clear hr0 hr1 hr2 hr3
  have qz : r3 < W1.heap.size := b3.lt
  go_upto_region 1 with fail
  obtain ⟨M, hM⟩ : ∃ z : Int, z = (if l.h < r.h then r.h else l.h) := ⟨_, rfl⟩
  replace hM : Hid _ := hM
  obtain ⟨H, hH⟩ : ∃ z : Int, z = IntKind.i64.wrap (1 + M) := ⟨_, rfl⟩
  replace hH : Hid _ := hH
  obtain ⟨G, hG⟩ : ∃ z : Int, z = (if l.g < r.g then r.g else l.g) := ⟨_, rfl⟩
  replace hG : Hid _ := hG
  go_cut [7] (fun va wc => ∃ ra : Nat, va = .pointer (some ⟨ra, 0, none⟩) ∧ r3 < ra ∧ Blk wc ra 28 (TV.cs ⟨H, x.s, x.e, G, x, .slice none 0 0⟩) ∧ Ext W1 wc)
  case first =>
    have hEz : Ext W1 W1 := Ext.refl _
    have x0 := b0
    have x1 := b1
    have x2 := b2
    have x3 := b3
    obtain ⟨mX, hmX⟩ : ∃ m, m = W1.heap.size := ⟨_, rfl⟩
    have hS : GrownX W1 [] W1 := GrownX.refl _ _
    refine wp_region_S (GrownX W1 []) (by kernel_rfl) ?_
    refine name_wd (fun W2 hW => ?_)
    have hx : Ext W1 W2 := by rw [hW]; exact ext_drew _
    clear hW
    replace hS := hS.ext hx
    replace b0 := b0.ext hx
    replace b1 := b1.ext hx
    replace b2 := b2.ext hx
    replace b3 := b3.ext hx
    replace hEz := hEz.trans hx
    replace hE := hE.trans hx
    clear hx
    replace qz : r3 < W2.heap.size := b3.lt
    refine wpAnyD_takeSL (i := 0) rfl (by kernel_rfl) (fun _ _ _ _ h => h) hS ?_
    apply Exists.intro
    refine ⟨Or.inl ⟨by rfl, ?_⟩, ?_⟩
    (focus (intro wz hz; go_simp; (try with_reducible rfl); done))
    (try simp only [Act.put, Zs, Zz, Zc])
    refine wpAnyD_takeSL (i := 1) rfl (by kernel_rfl) (fun _ _ _ _ h => h) hS ?_
    apply Exists.intro
    refine ⟨Or.inl ⟨by rfl, ?_⟩, ?_⟩
    (focus (intro wz hz; have zc := (GrownX.blk hz x0 (by first | decide | (simp; done) | (simp; omega) | omega)).cell 0; go_simp; (try with_reducible rfl); done))
    (try simp only [Act.put, Zs, Zz, Zc])
    refine wpAnyD_takeSL (i := 2) rfl (by kernel_rfl) (fun _ _ _ _ h => h) hS ?_
    apply Exists.intro
    refine ⟨Or.inl ⟨by rfl, ?_⟩, ?_⟩
    (focus (intro wz hz; go_simp; (try with_reducible rfl); done))
    (try simp only [Act.put, Zs, Zz, Zc])
    refine wpAnyD_takeSL (i := 3) rfl (by kernel_rfl) (fun _ _ _ _ h => h) hS ?_
    apply Exists.intro
    refine ⟨Or.inl ⟨by rfl, ?_⟩, ?_⟩
    (focus (intro wz hz; have zc := (GrownX.blk hz x2 (by first | decide | (simp; done) | (simp; omega) | omega)).cell 0; go_simp; (try with_reducible rfl); done))
    (try simp only [Act.put, Zs, Zz, Zc])
    refine wpAnyD_takeSL (i := 4) rfl (by kernel_rfl) (fun _ _ _ _ h => h) hS ?_
    apply Exists.intro
    refine ⟨Or.inl ⟨by rfl, ?_⟩, ?_⟩
    (focus (intro wz hz; go_simp; (try with_reducible rfl); done))
    (try simp only [Act.put, Zs, Zz, Zc])
    refine wpAnyD_takeSL (i := 5) rfl (by kernel_rfl) (fun _ _ _ _ h => h) hS ?_
    apply Exists.intro
    refine ⟨Or.inl ⟨by rfl, ?_⟩, ?_⟩
    (focus (intro wz hz; go_simp; (try simp (disch := omega) only [Yq, Yr]); (try with_reducible rfl); done))
    (try simp only [Act.put, Zs, Zz, Zc])
    refine wpAnyD_takeSL (i := 6) rfl (by kernel_rfl) (fun _ _ _ _ h => h) hS ?_
    apply Exists.intro
    refine ⟨Or.inl ⟨by rfl, ?_⟩, ?_⟩
    (focus (intro wz hz; go_simp; (try with_reducible rfl); done))
    (try simp only [Act.put, Zs, Zz, Zc])
    refine wpAnyD_takeSL (i := 7) rfl (by kernel_rfl) (fun _ _ _ _ h => h) hS ?_
    apply Exists.intro
    refine ⟨Or.inl ⟨by rfl, ?_⟩, ?_⟩
    (focus (intro wz hz; have zc := (GrownX.blk hz x1 (by first | decide | (simp; done) | (simp; omega) | omega)).cell 0; go_simp; (try with_reducible rfl); done))
    (try simp only [Act.put, Zs, Zz, Zc])
    refine wpAnyD_takeSL (i := 8) rfl (by kernel_rfl) (fun _ _ _ _ h => h) hS ?_
    apply Exists.intro
    refine ⟨Or.inl ⟨by rfl, ?_⟩, ?_⟩
    (focus (intro wz hz; (first | exact exec_ld 25 _ rfl rfl ((GrownX.blk hz x1 (by first | decide | (simp; done) | (simp; omega) | omega)).range) Try.underlying25 rfl (by exact Try.infoR))))
    (try simp only [Act.put, Zs, Zz, Zc])
    refine wpAnyD_takeSL (i := 10) rfl (by kernel_rfl) (fun _ _ _ _ h => h) hS ?_
    apply Exists.intro
    refine ⟨Or.inl ⟨by rfl, ?_⟩, ?_⟩
    (focus (intro wz hz; go_simp; (try with_reducible rfl); done))
    (try simp only [Act.put, Zs, Zz, Zc])
    refine wpAnyD_takeSL (i := 11) rfl (by kernel_rfl) (fun _ _ _ _ h => h) hS ?_
    apply Exists.intro
    refine ⟨Or.inl ⟨by rfl, ?_⟩, ?_⟩
    (focus (intro wz hz; have zc := (GrownX.blk hz x0 (by first | decide | (simp; done) | (simp; omega) | omega)).cell 3; go_simp; (try with_reducible rfl); done))
    (try simp only [Act.put, Zs, Zz, Zc])
    refine wpAnyD_takeSL (i := 12) rfl (by kernel_rfl) (fun _ _ _ _ h => h) hS ?_
    apply Exists.intro
    refine ⟨Or.inl ⟨by rfl, ?_⟩, ?_⟩
    (focus (intro wz hz; go_simp; (try with_reducible rfl); done))
    (try simp only [Act.put, Zs, Zz, Zc])
    refine wpAnyD_takeSL (i := 13) rfl (by kernel_rfl) (fun _ _ _ _ h => h) hS ?_
    apply Exists.intro
    refine ⟨Or.inl ⟨by rfl, ?_⟩, ?_⟩
    (focus (intro wz hz; have zc := (GrownX.blk hz x2 (by first | decide | (simp; done) | (simp; omega) | omega)).cell 3; go_simp; (try with_reducible rfl); done))
    (try simp only [Act.put, Zs, Zz, Zc])
    refine wpAnyD_takeSL (i := 14) rfl (by kernel_rfl) (fun _ _ _ _ h => h) hS ?_
    apply Exists.intro
    refine ⟨Or.inl ⟨by rfl, ?_⟩, ?_⟩
    (focus (intro wz hz; go_simp; (try with_reducible rfl); done))
    (try simp only [Act.put, Zs, Zz, Zc])
    refine wpAnyD_takeSL (i := 15) rfl (by kernel_rfl) (fun _ _ _ _ h => h) hS ?_
    apply Exists.intro
    refine ⟨Or.inl ⟨by rfl, ?_⟩, ?_⟩
    (focus (intro wz hz; (first | exact exec_ld 25 _ rfl rfl ((GrownX.blk hz x1 (by first | decide | (simp; done) | (simp; omega) | omega)).range) Try.underlying25 rfl (by exact Try.infoR))))
    (try simp only [Act.put, Zs, Zz, Zc])
    refine wpAnyD_many [9, 17] (by kernel_rfl) (by simp) (AllD_consL rfl (fun K hK => ?_) (AllD_consL rfl (fun K hK => ?_) AllD_nil))
    · rw [if_pos (by rfl)]
      go_simp
      (go_at_call 54; refine (rend_any x _ hv0.out).mono ?_; intro e W33 hpp; obtain ⟨rfl, hx⟩ := hpp)
      replace hS := hS.ext hx; (try dsimp only); refine hK.out _ _ (fun _ => hS) ?_; clear hK K; (try simp only [Act.put, Zs, Zz, Zc])
      replace b0 := b0.ext hx
      replace b1 := b1.ext hx
      replace b2 := b2.ext hx
      replace b3 := b3.ext hx
      replace hEz := hEz.trans hx
      replace hE := hE.trans hx
      clear hx
      replace qz : r3 < W33.heap.size := b3.lt
      refine wpAnyD_takeSL (i := 16) rfl (by kernel_rfl) (fun _ _ _ _ h => h) hS ?_
      apply Exists.intro
      refine ⟨Or.inl ⟨by rfl, ?_⟩, ?_⟩
      (focus (intro wz hz; exact exec_bldT _ _ _ _ _ (by rfl) (by rfl) (by rfl) (by rfl) (by rfl) (by rfl)))
      (try simp only [Act.put, Zs, Zz, Zc])
      refine wpAnyD_oneL (i := 17) rfl (by kernel_rfl) (fun K hK => ?_)
      rw [if_pos (by rfl)]
      have qb : mX ≤ W33.heap.size := (by rw [hmX]; exact hS.size)
      go_simp
      (try dsimp only); refine hK.out _ _ (fun _ => hS.ext (ext_alloc _ _)) ?_; clear hK K; (try simp only [Act.put, Zs, Zz, Zc])
      refine name_wd (fun W34 hW => ?_)
      have hx : Ext W33 W34 := by rw [hW]; exact ext_alloc _ _
      have b4 : Blk W34 W33.heap.size 28 TV.z.cs := by rw [hW]; exact Blk.newAt rfl
      clear hW
      replace hS := hS.ext hx
      replace b0 := b0.ext hx
      replace b1 := b1.ext hx
      replace b2 := b2.ext hx
      replace b3 := b3.ext hx
      replace hEz := hEz.trans hx
      replace hE := hE.trans hx
      clear hx
      obtain ⟨r4, hr⟩ : ∃ r, r = W33.heap.size := ⟨_, rfl⟩
      rw [← hr] at b4
      try rw [← hr]
      have q4 : r3 < r4 := by omega
      have qb4 : mX ≤ r4 := by omega
      clear hr
      replace qz : r4 < W34.heap.size := b4.lt
      refine wpAnyD_oneL (i := 18) rfl (by kernel_rfl) (fun K hK => ?_)
      rw [if_pos (by rfl)]
      refine wp_store_box 28 _ _ (by rfl) b4 (by rfl) (by rfl) (by exact Try.infoT) (by first | exact RV.one _ | exact TV.one _ rfl | exact RV.one _ | exact TV.one TV.z rfl | exact TV.one ⟨_, _, _, _, x, _⟩ rfl) (by rfl) (fun W35 hg bn => ?_)
      replace b0 := b0.kept hg (Zn (by omega))
      replace b1 := b1.kept hg (Zn (by omega))
      replace b2 := b2.kept hg (Zn (by omega))
      replace b3 := b3.kept hg (Zn (by omega))
      replace hEz := ext_grow hEz hg (fun q hq => by cases hq; omega)
      replace hE := ext_grow hE hg (fun q hq => by cases hq; omega)
      replace hS := hS.stepNew hg (by omega)
      clear b4 hg
      have b4 := bn
      clear bn
      (try dsimp only); refine hK.out _ _ (fun _ => hS) ?_; clear hK K; (try simp only [Act.put, Zs, Zz, Zc])
      replace qz : r4 < W35.heap.size := b4.lt
      refine wpAnyD_done (by kernel_rfl) ?_ _
      clear hS hmX x0 x1 x2 x3
      rw [← hM.out] at b4
      rw [← hH.out] at b4
      rw [← hG.out] at b4
      simp only [Exit.then]; go_step; go_meet
      exact ⟨r4, rfl, by omega, b4, hEz⟩
    · rw [if_pos (by rfl)]
      have qb : mX ≤ W2.heap.size := (by rw [hmX]; exact hS.size)
      go_simp
      (try dsimp only); refine hK.out _ _ (fun _ => hS.ext (ext_alloc _ _)) ?_; clear hK K; (try simp only [Act.put, Zs, Zz, Zc])
      refine name_wd (fun W63 hW => ?_)
      have hx : Ext W2 W63 := by rw [hW]; exact ext_alloc _ _
      have b4 : Blk W63 W2.heap.size 28 TV.z.cs := by rw [hW]; exact Blk.newAt rfl
      clear hW
      replace hS := hS.ext hx
      replace b0 := b0.ext hx
      replace b1 := b1.ext hx
      replace b2 := b2.ext hx
      replace b3 := b3.ext hx
      replace hEz := hEz.trans hx
      replace hE := hE.trans hx
      clear hx
      obtain ⟨r4, hr⟩ : ∃ r, r = W2.heap.size := ⟨_, rfl⟩
      rw [← hr] at b4
      try rw [← hr]
      have q4 : r3 < r4 := by omega
      have qb4 : mX ≤ r4 := by omega
      clear hr
      replace qz : r4 < W63.heap.size := b4.lt
      refine wpAnyD_oneL (i := 9) rfl (by kernel_rfl) (fun K hK => ?_)
      rw [if_pos (by rfl)]
      go_simp
      (go_at_call 54; refine (rend_any x _ hv0.out).mono ?_; intro e W64 hpp; obtain ⟨rfl, hx⟩ := hpp)
      replace hS := hS.ext hx; (try dsimp only); refine hK.out _ _ (fun _ => hS) ?_; clear hK K; (try simp only [Act.put, Zs, Zz, Zc])
      replace b0 := b0.ext hx
      replace b1 := b1.ext hx
      replace b2 := b2.ext hx
      replace b3 := b3.ext hx
      replace b4 := b4.ext hx
      replace hEz := hEz.trans hx
      replace hE := hE.trans hx
      clear hx
      replace qz : r4 < W64.heap.size := b4.lt
      refine wpAnyD_takeSL (i := 16) rfl (by kernel_rfl) (fun _ _ _ _ h => h) hS ?_
      apply Exists.intro
      refine ⟨Or.inl ⟨by rfl, ?_⟩, ?_⟩
      (focus (intro wz hz; exact exec_bldT _ _ _ _ _ (by rfl) (by rfl) (by rfl) (by rfl) (by rfl) (by rfl)))
      (try simp only [Act.put, Zs, Zz, Zc])
      refine wpAnyD_oneL (i := 18) rfl (by kernel_rfl) (fun K hK => ?_)
      rw [if_pos (by rfl)]
      refine wp_store_box 28 _ _ (by rfl) b4 (by rfl) (by rfl) (by exact Try.infoT) (by first | exact RV.one _ | exact TV.one _ rfl | exact RV.one _ | exact TV.one TV.z rfl | exact TV.one ⟨_, _, _, _, x, _⟩ rfl) (by rfl) (fun W65 hg bn => ?_)
      replace b0 := b0.kept hg (Zn (by omega))
      replace b1 := b1.kept hg (Zn (by omega))
      replace b2 := b2.kept hg (Zn (by omega))
      replace b3 := b3.kept hg (Zn (by omega))
      replace hEz := ext_grow hEz hg (fun q hq => by cases hq; omega)
      replace hE := ext_grow hE hg (fun q hq => by cases hq; omega)
      replace hS := hS.stepNew hg (by omega)
      clear b4 hg
      have b4 := bn
      clear bn
      (try dsimp only); refine hK.out _ _ (fun _ => hS) ?_; clear hK K; (try simp only [Act.put, Zs, Zz, Zc])
      replace qz : r4 < W65.heap.size := b4.lt
      refine wpAnyD_done (by kernel_rfl) ?_ _
      clear hS hmX x0 x1 x2 x3
      rw [← hM.out] at b4
      rw [← hH.out] at b4
      rw [← hG.out] at b4
      simp only [Exit.then]; go_step; go_meet
      exact ⟨r4, rfl, by omega, b4, hEz⟩
  obtain ⟨r4, rfl, q4x, b4, hx⟩ := hcut
  obtain ⟨W2, rfl⟩ : ∃ W, W = wc := ⟨_, rfl⟩
  replace b0 := b0.ext hx
  replace b1 := b1.ext hx
  replace b2 := b2.ext hx
  replace b3 := b3.ext hx
  replace hE := hE.trans hx
  clear hx
  replace qz : r3 < W2.heap.size := b3.lt
  replace qz : r4 < W2.heap.size := b4.lt
  by_cases c1 : l.h = 0 <;> by_cases c2 : r.h = 0
  · have hlb : (l.h != 0) = false := by simpa using c1
    have hrb : (r.h != 0) = false := by simpa using c2
    have HL : Hid (l.h = 0) := c1
    have HR : Hid (r.h = 0) := c2
    clear c1 c2
    go_upto_region 2 with fail
    refine wp_region_lit ?_
    refine wpList_plain rfl (fun K hK => ?_); go_simp; (try dsimp only); refine hK _ _ ?_; clear hK K; (try simp only [Act.put, Zs, Zz, Zc])
    refine wpList_plain rfl (fun K hK => ?_); have zc := b0.cell 0; go_simp; clear zc; (try simp only [hlb]); (try dsimp only); refine hK _ _ ?_; clear hK K; (try simp only [Act.put, Zs, Zz, Zc])
    refine wpList_plain rfl (fun K hK => ?_); go_simp; (try simp (disch := omega) only [Yq, Yr]); (try simp only [hlb]); (try dsimp only); refine hK _ _ ?_; clear hK K; (try simp only [Act.put, Zs, Zz, Zc])
    refine wpList_nil ?_
    go_upto_region 5 with fail
    refine wp_region_lit ?_
    refine wpList_plain rfl (fun K hK => ?_); go_simp; (try dsimp only); refine hK _ _ ?_; clear hK K; (try simp only [Act.put, Zs, Zz, Zc])
    refine wpList_plain rfl (fun K hK => ?_); have zc := b2.cell 0; go_simp; clear zc; (try simp only [hrb]); (try dsimp only); refine hK _ _ ?_; clear hK K; (try simp only [Act.put, Zs, Zz, Zc])
    refine wpList_plain rfl (fun K hK => ?_); go_simp; (try simp (disch := omega) only [Yq, Yr]); (try simp only [hrb]); (try dsimp only); refine hK _ _ ?_; clear hK K; (try simp only [Act.put, Zs, Zz, Zc])
    refine wpList_nil ?_
    go_upto_region 8 with fail
    refine wp_region_lit ?_
    refine wpList_plain rfl (fun K hK => ?_); (first | (refine wp_ld 28 _ (b0.range) (by rfl) (by rfl) Try.underlying28 rfl (by exact Try.infoT) ?_)); (try dsimp only); refine hK _ _ ?_; clear hK K; (try simp only [Act.put, Zs, Zz, Zc])
    refine wpList_plain rfl (fun K hK => ?_); (first | (refine wp_ld 28 _ (b2.range) (by rfl) (by rfl) Try.underlying28 rfl (by exact Try.infoT) ?_)); (try dsimp only); refine hK _ _ ?_; clear hK K; (try simp only [Act.put, Zs, Zz, Zc])
    refine wpList_plain rfl (fun K hK => ?_); refine wp_bs _ _ (by rfl) (by rfl) (by rfl) ?_; (try dsimp only); refine hK _ _ ?_; clear hK K; (try simp only [Act.put, Zs, Zz, Zc])
    refine name_wl (fun W401 hW => ?_)
    have hx : Ext W2 W401 := by rw [hW]; exact ext_alloc _ _
    have b5 : Blk W401 W2.heap.size 28 (l.cs ++ r.cs) := by rw [hW]; exact Blk.newAt rfl
    clear hW
    replace b0 := b0.ext hx
    replace b1 := b1.ext hx
    replace b2 := b2.ext hx
    replace b3 := b3.ext hx
    replace b4 := b4.ext hx
    replace hE := hE.trans hx
    clear hx
    obtain ⟨r5, hr⟩ : ∃ r, r = W2.heap.size := ⟨_, rfl⟩
    rw [← hr] at b5
    try rw [← hr]
    have q5 : r4 < r5 := by omega
    clear hr
    replace qz : r5 < W401.heap.size := b5.lt
    refine wpList_plain rfl (fun K hK => ?_); go_simp; (try dsimp only); refine hK _ _ ?_; clear hK K; (try simp only [Act.put, Zs, Zz, Zc])
    refine wpList_plain rfl (fun K hK => ?_)
    have zc := b4.cell 10; have zf := b4.frozen 10; have zl := b4.lt; go_simp; clear zc zf zl
    (try dsimp only)
    refine name_k (fun W402 hW => ?_)
    have hg : W401.grownBy W402 (some r4) := by rw [hW]; exact grown_set _ _ _ _
    have bn := Blk.setW b4 hW
    replace b0 := b0.kept hg (Zn (by omega))
    replace b1 := b1.kept hg (Zn (by omega))
    replace b2 := b2.kept hg (Zn (by omega))
    replace b3 := b3.kept hg (Zn (by omega))
    replace b5 := b5.kept hg (Zn (by omega))
    replace hE := ext_grow hE hg (fun q hq => by cases hq; omega)
    clear b4 hg hW
    have b4 := bn
    clear bn
    replace qz : r5 < W402.heap.size := b5.lt
    (try dsimp only); refine hK _ _ ?_; clear hK K; (try simp only [Act.put, Zs, Zz, Zc])
    refine wpList_nil ?_
    go_upto_region 9 with fail
    refine wp_region_lit ?_
    refine wpList_plain rfl (fun K hK => ?_); (first | (refine wp_ld 28 _ (b4.range) (by rfl) (by rfl) Try.underlying28 rfl (by exact Try.infoT) ?_)); (try dsimp only); refine hK _ _ ?_; clear hK K; (try simp only [Act.put, Zs, Zz, Zc])
    refine wpList_plain rfl (fun K hK => ?_)
    refine wp_store_box 28 _ _ (by rfl) b3 (by rfl) (by rfl) (by exact Try.infoT) (by first | exact RV.one _ | exact TV.one _ rfl | exact RV.one _ | exact TV.one TV.z rfl | exact TV.one ⟨_, _, _, _, x, _⟩ rfl) (by rfl) (fun W403 hg bn => ?_)
    replace b0 := b0.kept hg (Zn (by omega))
    replace b1 := b1.kept hg (Zn (by omega))
    replace b2 := b2.kept hg (Zn (by omega))
    replace b4 := b4.kept hg (Zn (by omega))
    replace b5 := b5.kept hg (Zn (by omega))
    replace hE := ext_grow hE hg (fun q hq => by cases hq; omega)
    clear b3 hg
    have b3 := bn
    clear bn
    (try dsimp only); refine hK _ _ ?_; clear hK K; (try simp only [Act.put, Zs, Zz, Zc])
    replace qz : r5 < W403.heap.size := b5.lt
    refine wpList_nil ?_
    go_wp2_with fail
    have hq : nodeV l x r (.slice (some ⟨r5, 0, none⟩) 2 2) = ⟨H, x.s, x.e, G, x, .slice (some ⟨r5, 0, none⟩) 2 2⟩ := by
      have h1 := HL.out
      have h2 := HR.out
      have h3 := hl.out
      have h4 := hr.out
      unfold nodeV gapV mx
      simp only [if_neg (show ¬ 0 < l.h by omega), if_neg (show ¬ 0 < r.h by omega)]
      rw [hH.out, hM.out, hG.out]
      rfl
    have b3_ : Blk W403 r3 28 (nodeV l x r (.slice (some ⟨r5, 0, none⟩) 2 2)).cs := by rw [hq]; exact b3
    exact bodyPost_ret (res_c rfl (GivesC.of b3_ rfl Try.underlying28 rfl Try.infoT)) rfl ⟨r5, rfl, b5, by omega, hE⟩
  · have hlb : (l.h != 0) = false := by simpa using c1
    have hrb : (r.h != 0) = true := by simpa using c2
    have HL : Hid (l.h = 0) := c1
    have HR : Hid (¬ r.h = 0) := c2
    clear c1 c2
    go_upto_region 2 with fail
    refine wp_region_lit ?_
    refine wpList_plain rfl (fun K hK => ?_); go_simp; (try dsimp only); refine hK _ _ ?_; clear hK K; (try simp only [Act.put, Zs, Zz, Zc])
    refine wpList_plain rfl (fun K hK => ?_); have zc := b0.cell 0; go_simp; clear zc; (try simp only [hlb]); (try dsimp only); refine hK _ _ ?_; clear hK K; (try simp only [Act.put, Zs, Zz, Zc])
    refine wpList_plain rfl (fun K hK => ?_); go_simp; (try simp (disch := omega) only [Yq, Yr]); (try simp only [hlb]); (try dsimp only); refine hK _ _ ?_; clear hK K; (try simp only [Act.put, Zs, Zz, Zc])
    refine wpList_nil ?_
    go_upto_region 5 with fail
    refine wp_region_lit ?_
    refine wpList_plain rfl (fun K hK => ?_); go_simp; (try dsimp only); refine hK _ _ ?_; clear hK K; (try simp only [Act.put, Zs, Zz, Zc])
    refine wpList_plain rfl (fun K hK => ?_); have zc := b2.cell 0; go_simp; clear zc; (try simp only [hrb]); (try dsimp only); refine hK _ _ ?_; clear hK K; (try simp only [Act.put, Zs, Zz, Zc])
    refine wpList_plain rfl (fun K hK => ?_); go_simp; (try simp (disch := omega) only [Yq, Yr]); (try simp only [hrb]); (try dsimp only); refine hK _ _ ?_; clear hK K; (try simp only [Act.put, Zs, Zz, Zc])
    refine wpList_nil ?_
    go_upto_region 6 with fail
    refine wp_region_lit ?_
    refine wpList_plain rfl (fun K hK => ?_); go_simp; (try dsimp only); refine hK _ _ ?_; clear hK K; (try simp only [Act.put, Zs, Zz, Zc])
    refine wpList_plain rfl (fun K hK => ?_); have zc := b2.cell 2; go_simp; clear zc; (try dsimp only); refine hK _ _ ?_; clear hK K; (try simp only [Act.put, Zs, Zz, Zc])
    refine wpList_plain rfl (fun K hK => ?_); go_simp; (try dsimp only); refine hK _ _ ?_; clear hK K; (try simp only [Act.put, Zs, Zz, Zc])
    refine wpList_plain rfl (fun K hK => ?_)
    have zc := b4.cell 2; have zf := b4.frozen 2; have zl := b4.lt; go_simp; clear zc zf zl
    (try dsimp only)
    refine name_k (fun W501 hW => ?_)
    have hg : W2.grownBy W501 (some r4) := by rw [hW]; exact grown_set _ _ _ _
    have bn := Blk.setW b4 hW
    replace b0 := b0.kept hg (Zn (by omega))
    replace b1 := b1.kept hg (Zn (by omega))
    replace b2 := b2.kept hg (Zn (by omega))
    replace b3 := b3.kept hg (Zn (by omega))
    replace hE := ext_grow hE hg (fun q hq => by cases hq; omega)
    clear b4 hg hW
    have b4 := bn
    clear bn
    replace qz : r4 < W501.heap.size := b4.lt
    (try dsimp only); refine hK _ _ ?_; clear hK K; (try simp only [Act.put, Zs, Zz, Zc])
    refine wpList_nil ?_
    have b4_ : Blk W501 r4 28 (TV.cs ⟨H, x.s, r.l, G, x, .slice none 0 0⟩) := b4
    clear b4
    have b4 := b4_
    clear b4_
    go_upto_region 7 with fail
    have x0 := b0
    have x1 := b1
    have x2 := b2
    have x3 := b3
    have x4 := b4
    have hS : GrownX W501 [] W501 := GrownX.refl _ _
    refine wp_region_SE (GrownX W501 []) [0, 1, 2, 3, 4, 5, 6, 7, 8] (by kernel_rfl) ?_
    refine name_wd (fun W502 hW => ?_)
    have hx : Ext W501 W502 := by rw [hW]; exact ext_drew _
    clear hW
    replace hS := hS.ext hx
    replace b0 := b0.ext hx
    replace b1 := b1.ext hx
    replace b2 := b2.ext hx
    replace b3 := b3.ext hx
    replace b4 := b4.ext hx
    replace hE := hE.trans hx
    clear hx
    replace qz : r4 < W502.heap.size := b4.lt
    refine wpAnyD_takeSL (i := 0) rfl (by kernel_rfl) (fun _ _ _ _ h => h) hS ?_
    apply Exists.intro
    refine ⟨Or.inl ⟨by rfl, ?_⟩, ?_⟩
    (focus (intro wz hz; go_simp; (try with_reducible rfl); done))
    (try simp only [Act.put, Zs, Zz, Zc])
    refine wpAnyD_takeSL (i := 1) rfl (by kernel_rfl) (fun _ _ _ _ h => h) hS ?_
    apply Exists.intro
    refine ⟨Or.inl ⟨by rfl, ?_⟩, ?_⟩
    (focus (intro wz hz; have zc := (GrownX.blk hz x4 (by first | decide | (simp; done) | (simp; omega) | omega)).cell 3; go_simp; (try with_reducible rfl); done))
    (try simp only [Act.put, Zs, Zz, Zc])
    refine wpAnyD_takeSL (i := 2) rfl (by kernel_rfl) (fun _ _ _ _ h => h) hS ?_
    apply Exists.intro
    refine ⟨Or.inl ⟨by rfl, ?_⟩, ?_⟩
    (focus (intro wz hz; go_simp; (try with_reducible rfl); done))
    (try simp only [Act.put, Zs, Zz, Zc])
    refine wpAnyD_takeSL (i := 3) rfl (by kernel_rfl) (fun _ _ _ _ h => h) hS ?_
    apply Exists.intro
    refine ⟨Or.inl ⟨by rfl, ?_⟩, ?_⟩
    (focus (intro wz hz; have zc := (GrownX.blk hz x2 (by first | decide | (simp; done) | (simp; omega) | omega)).cell 1; go_simp; (try with_reducible rfl); done))
    (try simp only [Act.put, Zs, Zz, Zc])
    refine wpAnyD_takeSL (i := 4) rfl (by kernel_rfl) (fun _ _ _ _ h => h) hS ?_
    apply Exists.intro
    refine ⟨Or.inl ⟨by rfl, ?_⟩, ?_⟩
    (focus (intro wz hz; (first | exact exec_ld 25 _ rfl rfl ((GrownX.blk hz x1 (by first | decide | (simp; done) | (simp; omega) | omega)).range) Try.underlying25 rfl (by exact Try.infoR))))
    (try simp only [Act.put, Zs, Zz, Zc])
    refine wpAnyD_oneL (i := 5) rfl (by kernel_rfl) (fun K hK => ?_)
    rw [if_pos (by rfl)]
    go_simp
    (go_at_call 54; refine (rend_any x _ hv0.out).mono ?_; intro e W503 hpp; obtain ⟨rfl, hx⟩ := hpp)
    replace hS := hS.ext hx; (try dsimp only); refine hK.out _ _ (fun _ => hS) ?_; clear hK K; (try simp only [Act.put, Zs, Zz, Zc])
    replace b0 := b0.ext hx
    replace b1 := b1.ext hx
    replace b2 := b2.ext hx
    replace b3 := b3.ext hx
    replace b4 := b4.ext hx
    replace hE := hE.trans hx
    clear hx
    replace qz : r4 < W503.heap.size := b4.lt
    refine wpAnyD_takeSL (i := 6) rfl (by kernel_rfl) (fun _ _ _ _ h => h) hS ?_
    apply Exists.intro
    refine ⟨Or.inl ⟨by rfl, ?_⟩, ?_⟩
    (focus (intro wz hz; go_simp; (try simp (disch := omega) only [Yq, Yr]); (try with_reducible rfl); done))
    (try simp only [Act.put, Zs, Zz, Zc])
    refine wpAnyD_takeSL (i := 7) rfl (by kernel_rfl) (fun _ _ _ _ h => h) hS ?_
    apply Exists.intro
    refine ⟨Or.inl ⟨by rfl, ?_⟩, ?_⟩
    (focus (intro wz hz; go_simp; (try with_reducible rfl); done))
    (try simp only [Act.put, Zs, Zz, Zc])
    refine wpAnyD_takeSL (i := 8) rfl (by kernel_rfl) (fun _ _ _ _ h => h) hS ?_
    apply Exists.intro
    refine ⟨Or.inl ⟨by rfl, ?_⟩, ?_⟩
    (focus (intro wz hz; go_simp; (try with_reducible rfl); done))
    (try simp only [Act.put, Zs, Zz, Zc])
    refine wpAnyD_oneL (i := 9) rfl (by kernel_rfl) (fun K hK => ?_)
    rw [if_pos (by rfl)]
    have zc := b4.cell 3; have zf := b4.frozen 3; have zl := b4.lt; go_simp; clear zc zf zl
    (try dsimp only)
    refine name_k (fun W504 hW => ?_)
    have hg : W503.grownBy W504 (some r4) := by rw [hW]; exact grown_set _ _ _ _
    have bn := Blk.setW b4 hW
    replace b0 := b0.kept hg (Zn (by omega))
    replace b1 := b1.kept hg (Zn (by omega))
    replace b2 := b2.kept hg (Zn (by omega))
    replace b3 := b3.kept hg (Zn (by omega))
    replace hE := ext_grow hE hg (fun q hq => by cases hq; omega)
    clear b4 hg hW
    have b4 := bn
    clear bn
    replace qz : r4 < W504.heap.size := b4.lt
    (try dsimp only); refine hK.out _ _ (fun h => absurd h (by decide)) ?_; clear hK K; (try simp only [Act.put, Zs, Zz, Zc])
    refine wpAnyD_done (by kernel_rfl) ?_ _
    clear hS x0 x1 x2 x3 x4
    obtain ⟨G3, hG3⟩ : ∃ z : Int, z = (if G < IntKind.i64.wrap (r.f - x.e) then IntKind.i64.wrap (r.f - x.e) else G) := ⟨_, rfl⟩
    rw [← hG3] at b4
    try rw [← hG3]
    replace hG3 : Hid _ := hG3
    go_upto_region 8 with fail
    refine wp_region_lit ?_
    refine wpList_plain rfl (fun K hK => ?_); (first | (refine wp_ld 28 _ (b0.range) (by rfl) (by rfl) Try.underlying28 rfl (by exact Try.infoT) ?_)); (try dsimp only); refine hK _ _ ?_; clear hK K; (try simp only [Act.put, Zs, Zz, Zc])
    refine wpList_plain rfl (fun K hK => ?_); (first | (refine wp_ld 28 _ (b2.range) (by rfl) (by rfl) Try.underlying28 rfl (by exact Try.infoT) ?_)); (try dsimp only); refine hK _ _ ?_; clear hK K; (try simp only [Act.put, Zs, Zz, Zc])
    refine wpList_plain rfl (fun K hK => ?_); refine wp_bs _ _ (by rfl) (by rfl) (by rfl) ?_; (try dsimp only); refine hK _ _ ?_; clear hK K; (try simp only [Act.put, Zs, Zz, Zc])
    refine name_wl (fun W505 hW => ?_)
    have hx : Ext W504 W505 := by rw [hW]; exact ext_alloc _ _
    have b5 : Blk W505 W504.heap.size 28 (l.cs ++ r.cs) := by rw [hW]; exact Blk.newAt rfl
    clear hW
    replace b0 := b0.ext hx
    replace b1 := b1.ext hx
    replace b2 := b2.ext hx
    replace b3 := b3.ext hx
    replace b4 := b4.ext hx
    replace hE := hE.trans hx
    clear hx
    obtain ⟨r5, hr⟩ : ∃ r, r = W504.heap.size := ⟨_, rfl⟩
    rw [← hr] at b5
    try rw [← hr]
    have q5 : r4 < r5 := by omega
    clear hr
    replace qz : r5 < W505.heap.size := b5.lt
    refine wpList_plain rfl (fun K hK => ?_); go_simp; (try dsimp only); refine hK _ _ ?_; clear hK K; (try simp only [Act.put, Zs, Zz, Zc])
    refine wpList_plain rfl (fun K hK => ?_)
    have zc := b4.cell 10; have zf := b4.frozen 10; have zl := b4.lt; go_simp; clear zc zf zl
    (try dsimp only)
    refine name_k (fun W506 hW => ?_)
    have hg : W505.grownBy W506 (some r4) := by rw [hW]; exact grown_set _ _ _ _
    have bn := Blk.setW b4 hW
    replace b0 := b0.kept hg (Zn (by omega))
    replace b1 := b1.kept hg (Zn (by omega))
    replace b2 := b2.kept hg (Zn (by omega))
    replace b3 := b3.kept hg (Zn (by omega))
    replace b5 := b5.kept hg (Zn (by omega))
    replace hE := ext_grow hE hg (fun q hq => by cases hq; omega)
    clear b4 hg hW
    have b4 := bn
    clear bn
    replace qz : r5 < W506.heap.size := b5.lt
    (try dsimp only); refine hK _ _ ?_; clear hK K; (try simp only [Act.put, Zs, Zz, Zc])
    refine wpList_nil ?_
    go_upto_region 9 with fail
    refine wp_region_lit ?_
    refine wpList_plain rfl (fun K hK => ?_); (first | (refine wp_ld 28 _ (b4.range) (by rfl) (by rfl) Try.underlying28 rfl (by exact Try.infoT) ?_)); (try dsimp only); refine hK _ _ ?_; clear hK K; (try simp only [Act.put, Zs, Zz, Zc])
    refine wpList_plain rfl (fun K hK => ?_)
    refine wp_store_box 28 _ _ (by rfl) b3 (by rfl) (by rfl) (by exact Try.infoT) (by first | exact RV.one _ | exact TV.one _ rfl | exact RV.one _ | exact TV.one TV.z rfl | exact TV.one ⟨_, _, _, _, x, _⟩ rfl) (by rfl) (fun W507 hg bn => ?_)
    replace b0 := b0.kept hg (Zn (by omega))
    replace b1 := b1.kept hg (Zn (by omega))
    replace b2 := b2.kept hg (Zn (by omega))
    replace b4 := b4.kept hg (Zn (by omega))
    replace b5 := b5.kept hg (Zn (by omega))
    replace hE := ext_grow hE hg (fun q hq => by cases hq; omega)
    clear b3 hg
    have b3 := bn
    clear bn
    (try dsimp only); refine hK _ _ ?_; clear hK K; (try simp only [Act.put, Zs, Zz, Zc])
    replace qz : r5 < W507.heap.size := b5.lt
    refine wpList_nil ?_
    go_wp2_with fail
    have hq : nodeV l x r (.slice (some ⟨r5, 0, none⟩) 2 2) = ⟨H, x.s, r.l, G3, x, .slice (some ⟨r5, 0, none⟩) 2 2⟩ := by
      have h1 := HL.out
      have h2 := HR.out
      have h3 := hl.out
      have h4 := hr.out
      unfold nodeV gapV mx
      simp only [if_neg (show ¬ 0 < l.h by omega), if_pos (show 0 < r.h by omega)]
      rw [hH.out, hM.out, hG3.out, hG.out]
      rfl
    have b3_ : Blk W507 r3 28 (nodeV l x r (.slice (some ⟨r5, 0, none⟩) 2 2)).cs := by rw [hq]; exact b3
    exact bodyPost_ret (res_c rfl (GivesC.of b3_ rfl Try.underlying28 rfl Try.infoT)) rfl ⟨r5, rfl, b5, by omega, hE⟩
  · have hlb : (l.h != 0) = true := by simpa using c1
    have hrb : (r.h != 0) = false := by simpa using c2
    have HL : Hid (¬ l.h = 0) := c1
    have HR : Hid (r.h = 0) := c2
    clear c1 c2
    go_upto_region 2 with fail
    refine wp_region_lit ?_
    refine wpList_plain rfl (fun K hK => ?_); go_simp; (try dsimp only); refine hK _ _ ?_; clear hK K; (try simp only [Act.put, Zs, Zz, Zc])
    refine wpList_plain rfl (fun K hK => ?_); have zc := b0.cell 0; go_simp; clear zc; (try simp only [hlb]); (try dsimp only); refine hK _ _ ?_; clear hK K; (try simp only [Act.put, Zs, Zz, Zc])
    refine wpList_plain rfl (fun K hK => ?_); go_simp; (try simp (disch := omega) only [Yq, Yr]); (try simp only [hlb]); (try dsimp only); refine hK _ _ ?_; clear hK K; (try simp only [Act.put, Zs, Zz, Zc])
    refine wpList_nil ?_
    go_upto_region 3 with fail
    refine wp_region_lit ?_
    refine wpList_plain rfl (fun K hK => ?_); go_simp; (try dsimp only); refine hK _ _ ?_; clear hK K; (try simp only [Act.put, Zs, Zz, Zc])
    refine wpList_plain rfl (fun K hK => ?_); have zc := b0.cell 1; go_simp; clear zc; (try dsimp only); refine hK _ _ ?_; clear hK K; (try simp only [Act.put, Zs, Zz, Zc])
    refine wpList_plain rfl (fun K hK => ?_); go_simp; (try dsimp only); refine hK _ _ ?_; clear hK K; (try simp only [Act.put, Zs, Zz, Zc])
    refine wpList_plain rfl (fun K hK => ?_)
    have zc := b4.cell 1; have zf := b4.frozen 1; have zl := b4.lt; go_simp; clear zc zf zl
    (try dsimp only)
    refine name_k (fun W601 hW => ?_)
    have hg : W2.grownBy W601 (some r4) := by rw [hW]; exact grown_set _ _ _ _
    have bn := Blk.setW b4 hW
    replace b0 := b0.kept hg (Zn (by omega))
    replace b1 := b1.kept hg (Zn (by omega))
    replace b2 := b2.kept hg (Zn (by omega))
    replace b3 := b3.kept hg (Zn (by omega))
    replace hE := ext_grow hE hg (fun q hq => by cases hq; omega)
    clear b4 hg hW
    have b4 := bn
    clear bn
    replace qz : r4 < W601.heap.size := b4.lt
    (try dsimp only); refine hK _ _ ?_; clear hK K; (try simp only [Act.put, Zs, Zz, Zc])
    refine wpList_nil ?_
    go_upto_region 4 with fail
    refine wp_region_lit ?_
    refine wpList_plain rfl (fun K hK => ?_); go_simp; (try dsimp only); refine hK _ _ ?_; clear hK K; (try simp only [Act.put, Zs, Zz, Zc])
    refine wpList_plain rfl (fun K hK => ?_); have zc := b4.cell 3; go_simp; clear zc; (try dsimp only); refine hK _ _ ?_; clear hK K; (try simp only [Act.put, Zs, Zz, Zc])
    refine wpList_plain rfl (fun K hK => ?_); go_simp; (try dsimp only); refine hK _ _ ?_; clear hK K; (try simp only [Act.put, Zs, Zz, Zc])
    refine wpList_plain rfl (fun K hK => ?_); have zc := b1.cell 0; go_simp; clear zc; (try dsimp only); refine hK _ _ ?_; clear hK K; (try simp only [Act.put, Zs, Zz, Zc])
    refine wpList_plain rfl (fun K hK => ?_); go_simp; (try dsimp only); refine hK _ _ ?_; clear hK K; (try simp only [Act.put, Zs, Zz, Zc])
    refine wpList_plain rfl (fun K hK => ?_); have zc := b0.cell 2; go_simp; clear zc; (try dsimp only); refine hK _ _ ?_; clear hK K; (try simp only [Act.put, Zs, Zz, Zc])
    refine wpList_plain rfl (fun K hK => ?_); go_simp; (try simp (disch := omega) only [Yq, Yr]); (try dsimp only); refine hK _ _ ?_; clear hK K; (try simp only [Act.put, Zs, Zz, Zc])
    iterate 2 (refine wpList_plain rfl (fun K hK => ?_); go_simp; (try dsimp only); refine hK _ _ ?_; clear hK K; (try simp only [Act.put, Zs, Zz, Zc]))
    refine wpList_plain rfl (fun K hK => ?_)
    have zc := b4.cell 3; have zf := b4.frozen 3; have zl := b4.lt; go_simp; clear zc zf zl
    (try dsimp only)
    refine name_k (fun W602 hW => ?_)
    have hg : W601.grownBy W602 (some r4) := by rw [hW]; exact grown_set _ _ _ _
    have bn := Blk.setW b4 hW
    replace b0 := b0.kept hg (Zn (by omega))
    replace b1 := b1.kept hg (Zn (by omega))
    replace b2 := b2.kept hg (Zn (by omega))
    replace b3 := b3.kept hg (Zn (by omega))
    replace hE := ext_grow hE hg (fun q hq => by cases hq; omega)
    clear b4 hg hW
    have b4 := bn
    clear bn
    replace qz : r4 < W602.heap.size := b4.lt
    (try dsimp only); refine hK _ _ ?_; clear hK K; (try simp only [Act.put, Zs, Zz, Zc])
    refine wpList_nil ?_
    obtain ⟨G2, hG2⟩ : ∃ z : Int, z = (if G < IntKind.i64.wrap (x.s - l.l) then IntKind.i64.wrap (x.s - l.l) else G) := ⟨_, rfl⟩
    rw [← hG2] at b4
    try rw [← hG2]
    replace hG2 : Hid _ := hG2
    have b4_ : Blk W602 r4 28 (TV.cs ⟨H, l.f, x.e, G2, x, .slice none 0 0⟩) := b4
    clear b4
    have b4 := b4_
    clear b4_
    go_upto_region 5 with fail
    refine wp_region_lit ?_
    refine wpList_plain rfl (fun K hK => ?_); go_simp; (try dsimp only); refine hK _ _ ?_; clear hK K; (try simp only [Act.put, Zs, Zz, Zc])
    refine wpList_plain rfl (fun K hK => ?_); have zc := b2.cell 0; go_simp; clear zc; (try simp only [hrb]); (try dsimp only); refine hK _ _ ?_; clear hK K; (try simp only [Act.put, Zs, Zz, Zc])
    refine wpList_plain rfl (fun K hK => ?_); go_simp; (try simp (disch := omega) only [Yq, Yr]); (try simp only [hrb]); (try dsimp only); refine hK _ _ ?_; clear hK K; (try simp only [Act.put, Zs, Zz, Zc])
    refine wpList_nil ?_
    go_upto_region 8 with fail
    refine wp_region_lit ?_
    refine wpList_plain rfl (fun K hK => ?_); (first | (refine wp_ld 28 _ (b0.range) (by rfl) (by rfl) Try.underlying28 rfl (by exact Try.infoT) ?_)); (try dsimp only); refine hK _ _ ?_; clear hK K; (try simp only [Act.put, Zs, Zz, Zc])
    refine wpList_plain rfl (fun K hK => ?_); (first | (refine wp_ld 28 _ (b2.range) (by rfl) (by rfl) Try.underlying28 rfl (by exact Try.infoT) ?_)); (try dsimp only); refine hK _ _ ?_; clear hK K; (try simp only [Act.put, Zs, Zz, Zc])
    refine wpList_plain rfl (fun K hK => ?_); refine wp_bs _ _ (by rfl) (by rfl) (by rfl) ?_; (try dsimp only); refine hK _ _ ?_; clear hK K; (try simp only [Act.put, Zs, Zz, Zc])
    refine name_wl (fun W603 hW => ?_)
    have hx : Ext W602 W603 := by rw [hW]; exact ext_alloc _ _
    have b5 : Blk W603 W602.heap.size 28 (l.cs ++ r.cs) := by rw [hW]; exact Blk.newAt rfl
    clear hW
    replace b0 := b0.ext hx
    replace b1 := b1.ext hx
    replace b2 := b2.ext hx
    replace b3 := b3.ext hx
    replace b4 := b4.ext hx
    replace hE := hE.trans hx
    clear hx
    obtain ⟨r5, hr⟩ : ∃ r, r = W602.heap.size := ⟨_, rfl⟩
    rw [← hr] at b5
    try rw [← hr]
    have q5 : r4 < r5 := by omega
    clear hr
    replace qz : r5 < W603.heap.size := b5.lt
    refine wpList_plain rfl (fun K hK => ?_); go_simp; (try dsimp only); refine hK _ _ ?_; clear hK K; (try simp only [Act.put, Zs, Zz, Zc])
    refine wpList_plain rfl (fun K hK => ?_)
    have zc := b4.cell 10; have zf := b4.frozen 10; have zl := b4.lt; go_simp; clear zc zf zl
    (try dsimp only)
    refine name_k (fun W604 hW => ?_)
    have hg : W603.grownBy W604 (some r4) := by rw [hW]; exact grown_set _ _ _ _
    have bn := Blk.setW b4 hW
    replace b0 := b0.kept hg (Zn (by omega))
    replace b1 := b1.kept hg (Zn (by omega))
    replace b2 := b2.kept hg (Zn (by omega))
    replace b3 := b3.kept hg (Zn (by omega))
    replace b5 := b5.kept hg (Zn (by omega))
    replace hE := ext_grow hE hg (fun q hq => by cases hq; omega)
    clear b4 hg hW
    have b4 := bn
    clear bn
    replace qz : r5 < W604.heap.size := b5.lt
    (try dsimp only); refine hK _ _ ?_; clear hK K; (try simp only [Act.put, Zs, Zz, Zc])
    refine wpList_nil ?_
    go_upto_region 9 with fail
    refine wp_region_lit ?_
    refine wpList_plain rfl (fun K hK => ?_); (first | (refine wp_ld 28 _ (b4.range) (by rfl) (by rfl) Try.underlying28 rfl (by exact Try.infoT) ?_)); (try dsimp only); refine hK _ _ ?_; clear hK K; (try simp only [Act.put, Zs, Zz, Zc])
    refine wpList_plain rfl (fun K hK => ?_)
    refine wp_store_box 28 _ _ (by rfl) b3 (by rfl) (by rfl) (by exact Try.infoT) (by first | exact RV.one _ | exact TV.one _ rfl | exact RV.one _ | exact TV.one TV.z rfl | exact TV.one ⟨_, _, _, _, x, _⟩ rfl) (by rfl) (fun W605 hg bn => ?_)
    replace b0 := b0.kept hg (Zn (by omega))
    replace b1 := b1.kept hg (Zn (by omega))
    replace b2 := b2.kept hg (Zn (by omega))
    replace b4 := b4.kept hg (Zn (by omega))
    replace b5 := b5.kept hg (Zn (by omega))
    replace hE := ext_grow hE hg (fun q hq => by cases hq; omega)
    clear b3 hg
    have b3 := bn
    clear bn
    (try dsimp only); refine hK _ _ ?_; clear hK K; (try simp only [Act.put, Zs, Zz, Zc])
    replace qz : r5 < W605.heap.size := b5.lt
    refine wpList_nil ?_
    go_wp2_with fail
    have hq : nodeV l x r (.slice (some ⟨r5, 0, none⟩) 2 2) = ⟨H, l.f, x.e, G2, x, .slice (some ⟨r5, 0, none⟩) 2 2⟩ := by
      have h1 := HL.out
      have h2 := HR.out
      have h3 := hl.out
      have h4 := hr.out
      unfold nodeV gapV mx
      simp only [if_pos (show 0 < l.h by omega), if_neg (show ¬ 0 < r.h by omega)]
      rw [hH.out, hM.out, hG2.out, hG.out]
      rfl
    have b3_ : Blk W605 r3 28 (nodeV l x r (.slice (some ⟨r5, 0, none⟩) 2 2)).cs := by rw [hq]; exact b3
    exact bodyPost_ret (res_c rfl (GivesC.of b3_ rfl Try.underlying28 rfl Try.infoT)) rfl ⟨r5, rfl, b5, by omega, hE⟩
  · have hlb : (l.h != 0) = true := by simpa using c1
    have hrb : (r.h != 0) = true := by simpa using c2
    have HL : Hid (¬ l.h = 0) := c1
    have HR : Hid (¬ r.h = 0) := c2
    clear c1 c2
    go_upto_region 2 with fail
    refine wp_region_lit ?_
    refine wpList_plain rfl (fun K hK => ?_); go_simp; (try dsimp only); refine hK _ _ ?_; clear hK K; (try simp only [Act.put, Zs, Zz, Zc])
    refine wpList_plain rfl (fun K hK => ?_); have zc := b0.cell 0; go_simp; clear zc; (try simp only [hlb]); (try dsimp only); refine hK _ _ ?_; clear hK K; (try simp only [Act.put, Zs, Zz, Zc])
    refine wpList_plain rfl (fun K hK => ?_); go_simp; (try simp (disch := omega) only [Yq, Yr]); (try simp only [hlb]); (try dsimp only); refine hK _ _ ?_; clear hK K; (try simp only [Act.put, Zs, Zz, Zc])
    refine wpList_nil ?_
    go_upto_region 3 with fail
    refine wp_region_lit ?_
    refine wpList_plain rfl (fun K hK => ?_); go_simp; (try dsimp only); refine hK _ _ ?_; clear hK K; (try simp only [Act.put, Zs, Zz, Zc])
    refine wpList_plain rfl (fun K hK => ?_); have zc := b0.cell 1; go_simp; clear zc; (try dsimp only); refine hK _ _ ?_; clear hK K; (try simp only [Act.put, Zs, Zz, Zc])
    refine wpList_plain rfl (fun K hK => ?_); go_simp; (try dsimp only); refine hK _ _ ?_; clear hK K; (try simp only [Act.put, Zs, Zz, Zc])
    refine wpList_plain rfl (fun K hK => ?_)
    have zc := b4.cell 1; have zf := b4.frozen 1; have zl := b4.lt; go_simp; clear zc zf zl
    (try dsimp only)
    refine name_k (fun W701 hW => ?_)
    have hg : W2.grownBy W701 (some r4) := by rw [hW]; exact grown_set _ _ _ _
    have bn := Blk.setW b4 hW
    replace b0 := b0.kept hg (Zn (by omega))
    replace b1 := b1.kept hg (Zn (by omega))
    replace b2 := b2.kept hg (Zn (by omega))
    replace b3 := b3.kept hg (Zn (by omega))
    replace hE := ext_grow hE hg (fun q hq => by cases hq; omega)
    clear b4 hg hW
    have b4 := bn
    clear bn
    replace qz : r4 < W701.heap.size := b4.lt
    (try dsimp only); refine hK _ _ ?_; clear hK K; (try simp only [Act.put, Zs, Zz, Zc])
    refine wpList_nil ?_
    go_upto_region 4 with fail
    refine wp_region_lit ?_
    refine wpList_plain rfl (fun K hK => ?_); go_simp; (try dsimp only); refine hK _ _ ?_; clear hK K; (try simp only [Act.put, Zs, Zz, Zc])
    refine wpList_plain rfl (fun K hK => ?_); have zc := b4.cell 3; go_simp; clear zc; (try dsimp only); refine hK _ _ ?_; clear hK K; (try simp only [Act.put, Zs, Zz, Zc])
    refine wpList_plain rfl (fun K hK => ?_); go_simp; (try dsimp only); refine hK _ _ ?_; clear hK K; (try simp only [Act.put, Zs, Zz, Zc])
    refine wpList_plain rfl (fun K hK => ?_); have zc := b1.cell 0; go_simp; clear zc; (try dsimp only); refine hK _ _ ?_; clear hK K; (try simp only [Act.put, Zs, Zz, Zc])
    refine wpList_plain rfl (fun K hK => ?_); go_simp; (try dsimp only); refine hK _ _ ?_; clear hK K; (try simp only [Act.put, Zs, Zz, Zc])
    refine wpList_plain rfl (fun K hK => ?_); have zc := b0.cell 2; go_simp; clear zc; (try dsimp only); refine hK _ _ ?_; clear hK K; (try simp only [Act.put, Zs, Zz, Zc])
    refine wpList_plain rfl (fun K hK => ?_); go_simp; (try simp (disch := omega) only [Yq, Yr]); (try dsimp only); refine hK _ _ ?_; clear hK K; (try simp only [Act.put, Zs, Zz, Zc])
    iterate 2 (refine wpList_plain rfl (fun K hK => ?_); go_simp; (try dsimp only); refine hK _ _ ?_; clear hK K; (try simp only [Act.put, Zs, Zz, Zc]))
    refine wpList_plain rfl (fun K hK => ?_)
    have zc := b4.cell 3; have zf := b4.frozen 3; have zl := b4.lt; go_simp; clear zc zf zl
    (try dsimp only)
    refine name_k (fun W702 hW => ?_)
    have hg : W701.grownBy W702 (some r4) := by rw [hW]; exact grown_set _ _ _ _
    have bn := Blk.setW b4 hW
    replace b0 := b0.kept hg (Zn (by omega))
    replace b1 := b1.kept hg (Zn (by omega))
    replace b2 := b2.kept hg (Zn (by omega))
    replace b3 := b3.kept hg (Zn (by omega))
    replace hE := ext_grow hE hg (fun q hq => by cases hq; omega)
    clear b4 hg hW
    have b4 := bn
    clear bn
    replace qz : r4 < W702.heap.size := b4.lt
    (try dsimp only); refine hK _ _ ?_; clear hK K; (try simp only [Act.put, Zs, Zz, Zc])
    refine wpList_nil ?_
    obtain ⟨G2, hG2⟩ : ∃ z : Int, z = (if G < IntKind.i64.wrap (x.s - l.l) then IntKind.i64.wrap (x.s - l.l) else G) := ⟨_, rfl⟩
    rw [← hG2] at b4
    try rw [← hG2]
    replace hG2 : Hid _ := hG2
    have b4_ : Blk W702 r4 28 (TV.cs ⟨H, l.f, x.e, G2, x, .slice none 0 0⟩) := b4
    clear b4
    have b4 := b4_
    clear b4_
    go_upto_region 5 with fail
    refine wp_region_lit ?_
    refine wpList_plain rfl (fun K hK => ?_); go_simp; (try dsimp only); refine hK _ _ ?_; clear hK K; (try simp only [Act.put, Zs, Zz, Zc])
    refine wpList_plain rfl (fun K hK => ?_); have zc := b2.cell 0; go_simp; clear zc; (try simp only [hrb]); (try dsimp only); refine hK _ _ ?_; clear hK K; (try simp only [Act.put, Zs, Zz, Zc])
    refine wpList_plain rfl (fun K hK => ?_); go_simp; (try simp (disch := omega) only [Yq, Yr]); (try simp only [hrb]); (try dsimp only); refine hK _ _ ?_; clear hK K; (try simp only [Act.put, Zs, Zz, Zc])
    refine wpList_nil ?_
    go_upto_region 6 with fail
    refine wp_region_lit ?_
    refine wpList_plain rfl (fun K hK => ?_); go_simp; (try dsimp only); refine hK _ _ ?_; clear hK K; (try simp only [Act.put, Zs, Zz, Zc])
    refine wpList_plain rfl (fun K hK => ?_); have zc := b2.cell 2; go_simp; clear zc; (try dsimp only); refine hK _ _ ?_; clear hK K; (try simp only [Act.put, Zs, Zz, Zc])
    refine wpList_plain rfl (fun K hK => ?_); go_simp; (try dsimp only); refine hK _ _ ?_; clear hK K; (try simp only [Act.put, Zs, Zz, Zc])
    refine wpList_plain rfl (fun K hK => ?_)
    have zc := b4.cell 2; have zf := b4.frozen 2; have zl := b4.lt; go_simp; clear zc zf zl
    (try dsimp only)
    refine name_k (fun W703 hW => ?_)
    have hg : W702.grownBy W703 (some r4) := by rw [hW]; exact grown_set _ _ _ _
    have bn := Blk.setW b4 hW
    replace b0 := b0.kept hg (Zn (by omega))
    replace b1 := b1.kept hg (Zn (by omega))
    replace b2 := b2.kept hg (Zn (by omega))
    replace b3 := b3.kept hg (Zn (by omega))
    replace hE := ext_grow hE hg (fun q hq => by cases hq; omega)
    clear b4 hg hW
    have b4 := bn
    clear bn
    replace qz : r4 < W703.heap.size := b4.lt
    (try dsimp only); refine hK _ _ ?_; clear hK K; (try simp only [Act.put, Zs, Zz, Zc])
    refine wpList_nil ?_
    have b4_ : Blk W703 r4 28 (TV.cs ⟨H, l.f, r.l, G2, x, .slice none 0 0⟩) := b4
    clear b4
    have b4 := b4_
    clear b4_
    go_upto_region 7 with fail
    have x0 := b0
    have x1 := b1
    have x2 := b2
    have x3 := b3
    have x4 := b4
    have hS : GrownX W703 [] W703 := GrownX.refl _ _
    refine wp_region_SE (GrownX W703 []) [0, 1, 2, 3, 4, 5, 6, 7, 8] (by kernel_rfl) ?_
    refine name_wd (fun W704 hW => ?_)
    have hx : Ext W703 W704 := by rw [hW]; exact ext_drew _
    clear hW
    replace hS := hS.ext hx
    replace b0 := b0.ext hx
    replace b1 := b1.ext hx
    replace b2 := b2.ext hx
    replace b3 := b3.ext hx
    replace b4 := b4.ext hx
    replace hE := hE.trans hx
    clear hx
    replace qz : r4 < W704.heap.size := b4.lt
    refine wpAnyD_takeSL (i := 0) rfl (by kernel_rfl) (fun _ _ _ _ h => h) hS ?_
    apply Exists.intro
    refine ⟨Or.inl ⟨by rfl, ?_⟩, ?_⟩
    (focus (intro wz hz; go_simp; (try with_reducible rfl); done))
    (try simp only [Act.put, Zs, Zz, Zc])
    refine wpAnyD_takeSL (i := 1) rfl (by kernel_rfl) (fun _ _ _ _ h => h) hS ?_
    apply Exists.intro
    refine ⟨Or.inl ⟨by rfl, ?_⟩, ?_⟩
    (focus (intro wz hz; have zc := (GrownX.blk hz x4 (by first | decide | (simp; done) | (simp; omega) | omega)).cell 3; go_simp; (try with_reducible rfl); done))
    (try simp only [Act.put, Zs, Zz, Zc])
    refine wpAnyD_takeSL (i := 2) rfl (by kernel_rfl) (fun _ _ _ _ h => h) hS ?_
    apply Exists.intro
    refine ⟨Or.inl ⟨by rfl, ?_⟩, ?_⟩
    (focus (intro wz hz; go_simp; (try with_reducible rfl); done))
    (try simp only [Act.put, Zs, Zz, Zc])
    refine wpAnyD_takeSL (i := 3) rfl (by kernel_rfl) (fun _ _ _ _ h => h) hS ?_
    apply Exists.intro
    refine ⟨Or.inl ⟨by rfl, ?_⟩, ?_⟩
    (focus (intro wz hz; have zc := (GrownX.blk hz x2 (by first | decide | (simp; done) | (simp; omega) | omega)).cell 1; go_simp; (try with_reducible rfl); done))
    (try simp only [Act.put, Zs, Zz, Zc])
    refine wpAnyD_takeSL (i := 4) rfl (by kernel_rfl) (fun _ _ _ _ h => h) hS ?_
    apply Exists.intro
    refine ⟨Or.inl ⟨by rfl, ?_⟩, ?_⟩
    (focus (intro wz hz; (first | exact exec_ld 25 _ rfl rfl ((GrownX.blk hz x1 (by first | decide | (simp; done) | (simp; omega) | omega)).range) Try.underlying25 rfl (by exact Try.infoR))))
    (try simp only [Act.put, Zs, Zz, Zc])
    refine wpAnyD_oneL (i := 5) rfl (by kernel_rfl) (fun K hK => ?_)
    rw [if_pos (by rfl)]
    go_simp
    (go_at_call 54; refine (rend_any x _ hv0.out).mono ?_; intro e W705 hpp; obtain ⟨rfl, hx⟩ := hpp)
    replace hS := hS.ext hx; (try dsimp only); refine hK.out _ _ (fun _ => hS) ?_; clear hK K; (try simp only [Act.put, Zs, Zz, Zc])
    replace b0 := b0.ext hx
    replace b1 := b1.ext hx
    replace b2 := b2.ext hx
    replace b3 := b3.ext hx
    replace b4 := b4.ext hx
    replace hE := hE.trans hx
    clear hx
    replace qz : r4 < W705.heap.size := b4.lt
    refine wpAnyD_takeSL (i := 6) rfl (by kernel_rfl) (fun _ _ _ _ h => h) hS ?_
    apply Exists.intro
    refine ⟨Or.inl ⟨by rfl, ?_⟩, ?_⟩
    (focus (intro wz hz; go_simp; (try simp (disch := omega) only [Yq, Yr]); (try with_reducible rfl); done))
    (try simp only [Act.put, Zs, Zz, Zc])
    refine wpAnyD_takeSL (i := 7) rfl (by kernel_rfl) (fun _ _ _ _ h => h) hS ?_
    apply Exists.intro
    refine ⟨Or.inl ⟨by rfl, ?_⟩, ?_⟩
    (focus (intro wz hz; go_simp; (try with_reducible rfl); done))
    (try simp only [Act.put, Zs, Zz, Zc])
    refine wpAnyD_takeSL (i := 8) rfl (by kernel_rfl) (fun _ _ _ _ h => h) hS ?_
    apply Exists.intro
    refine ⟨Or.inl ⟨by rfl, ?_⟩, ?_⟩
    (focus (intro wz hz; go_simp; (try with_reducible rfl); done))
    (try simp only [Act.put, Zs, Zz, Zc])
    refine wpAnyD_oneL (i := 9) rfl (by kernel_rfl) (fun K hK => ?_)
    rw [if_pos (by rfl)]
    have zc := b4.cell 3; have zf := b4.frozen 3; have zl := b4.lt; go_simp; clear zc zf zl
    (try dsimp only)
    refine name_k (fun W706 hW => ?_)
    have hg : W705.grownBy W706 (some r4) := by rw [hW]; exact grown_set _ _ _ _
    have bn := Blk.setW b4 hW
    replace b0 := b0.kept hg (Zn (by omega))
    replace b1 := b1.kept hg (Zn (by omega))
    replace b2 := b2.kept hg (Zn (by omega))
    replace b3 := b3.kept hg (Zn (by omega))
    replace hE := ext_grow hE hg (fun q hq => by cases hq; omega)
    clear b4 hg hW
    have b4 := bn
    clear bn
    replace qz : r4 < W706.heap.size := b4.lt
    (try dsimp only); refine hK.out _ _ (fun h => absurd h (by decide)) ?_; clear hK K; (try simp only [Act.put, Zs, Zz, Zc])
    refine wpAnyD_done (by kernel_rfl) ?_ _
    clear hS x0 x1 x2 x3 x4
    obtain ⟨G3, hG3⟩ : ∃ z : Int, z = (if G2 < IntKind.i64.wrap (r.f - x.e) then IntKind.i64.wrap (r.f - x.e) else G2) := ⟨_, rfl⟩
    rw [← hG3] at b4
    try rw [← hG3]
    replace hG3 : Hid _ := hG3
    go_upto_region 8 with fail
    refine wp_region_lit ?_
    refine wpList_plain rfl (fun K hK => ?_); (first | (refine wp_ld 28 _ (b0.range) (by rfl) (by rfl) Try.underlying28 rfl (by exact Try.infoT) ?_)); (try dsimp only); refine hK _ _ ?_; clear hK K; (try simp only [Act.put, Zs, Zz, Zc])
    refine wpList_plain rfl (fun K hK => ?_); (first | (refine wp_ld 28 _ (b2.range) (by rfl) (by rfl) Try.underlying28 rfl (by exact Try.infoT) ?_)); (try dsimp only); refine hK _ _ ?_; clear hK K; (try simp only [Act.put, Zs, Zz, Zc])
    refine wpList_plain rfl (fun K hK => ?_); refine wp_bs _ _ (by rfl) (by rfl) (by rfl) ?_; (try dsimp only); refine hK _ _ ?_; clear hK K; (try simp only [Act.put, Zs, Zz, Zc])
    refine name_wl (fun W707 hW => ?_)
    have hx : Ext W706 W707 := by rw [hW]; exact ext_alloc _ _
    have b5 : Blk W707 W706.heap.size 28 (l.cs ++ r.cs) := by rw [hW]; exact Blk.newAt rfl
    clear hW
    replace b0 := b0.ext hx
    replace b1 := b1.ext hx
    replace b2 := b2.ext hx
    replace b3 := b3.ext hx
    replace b4 := b4.ext hx
    replace hE := hE.trans hx
    clear hx
    obtain ⟨r5, hr⟩ : ∃ r, r = W706.heap.size := ⟨_, rfl⟩
    rw [← hr] at b5
    try rw [← hr]
    have q5 : r4 < r5 := by omega
    clear hr
    replace qz : r5 < W707.heap.size := b5.lt
    refine wpList_plain rfl (fun K hK => ?_); go_simp; (try dsimp only); refine hK _ _ ?_; clear hK K; (try simp only [Act.put, Zs, Zz, Zc])
    refine wpList_plain rfl (fun K hK => ?_)
    have zc := b4.cell 10; have zf := b4.frozen 10; have zl := b4.lt; go_simp; clear zc zf zl
    (try dsimp only)
    refine name_k (fun W708 hW => ?_)
    have hg : W707.grownBy W708 (some r4) := by rw [hW]; exact grown_set _ _ _ _
    have bn := Blk.setW b4 hW
    replace b0 := b0.kept hg (Zn (by omega))
    replace b1 := b1.kept hg (Zn (by omega))
    replace b2 := b2.kept hg (Zn (by omega))
    replace b3 := b3.kept hg (Zn (by omega))
    replace b5 := b5.kept hg (Zn (by omega))
    replace hE := ext_grow hE hg (fun q hq => by cases hq; omega)
    clear b4 hg hW
    have b4 := bn
    clear bn
    replace qz : r5 < W708.heap.size := b5.lt
    (try dsimp only); refine hK _ _ ?_; clear hK K; (try simp only [Act.put, Zs, Zz, Zc])
    refine wpList_nil ?_
    go_upto_region 9 with fail
    refine wp_region_lit ?_
    refine wpList_plain rfl (fun K hK => ?_); (first | (refine wp_ld 28 _ (b4.range) (by rfl) (by rfl) Try.underlying28 rfl (by exact Try.infoT) ?_)); (try dsimp only); refine hK _ _ ?_; clear hK K; (try simp only [Act.put, Zs, Zz, Zc])
    refine wpList_plain rfl (fun K hK => ?_)
    refine wp_store_box 28 _ _ (by rfl) b3 (by rfl) (by rfl) (by exact Try.infoT) (by first | exact RV.one _ | exact TV.one _ rfl | exact RV.one _ | exact TV.one TV.z rfl | exact TV.one ⟨_, _, _, _, x, _⟩ rfl) (by rfl) (fun W709 hg bn => ?_)
    replace b0 := b0.kept hg (Zn (by omega))
    replace b1 := b1.kept hg (Zn (by omega))
    replace b2 := b2.kept hg (Zn (by omega))
    replace b4 := b4.kept hg (Zn (by omega))
    replace b5 := b5.kept hg (Zn (by omega))
    replace hE := ext_grow hE hg (fun q hq => by cases hq; omega)
    clear b3 hg
    have b3 := bn
    clear bn
    (try dsimp only); refine hK _ _ ?_; clear hK K; (try simp only [Act.put, Zs, Zz, Zc])
    replace qz : r5 < W709.heap.size := b5.lt
    refine wpList_nil ?_
    go_wp2_with fail
    have hq : nodeV l x r (.slice (some ⟨r5, 0, none⟩) 2 2) = ⟨H, l.f, r.l, G3, x, .slice (some ⟨r5, 0, none⟩) 2 2⟩ := by
      have h1 := HL.out
      have h2 := HR.out
      have h3 := hl.out
      have h4 := hr.out
      unfold nodeV gapV mx
      simp only [if_pos (show 0 < l.h by omega), if_pos (show 0 < r.h by omega)]
      rw [hH.out, hM.out, hG3.out, hG2.out, hG.out]
      rfl
    have b3_ : Blk W709 r3 28 (nodeV l x r (.slice (some ⟨r5, 0, none⟩) 2 2)).cs := by rw [hq]; exact b3
    exact bodyPost_ret (res_c rfl (GivesC.of b3_ rfl Try.underlying28 rfl Try.infoT)) rfl ⟨r5, rfl, b5, by omega, hE⟩
theorem rnode_P {A : Nat → Prop} (l : PT) (x : RV) (r : PT) (vl vr : TV) (w : World) (hA : Up A w) (hl : isT A w l.bt vl) (hr : isT A w r.bt vr) (hx : vld x) (bl : bd l) (br : bd r) :
    Calls Try.prog 55 #[.agg vl.cs.toArray, .agg x.cs.toArray, .agg vr.cs.toArray] w fun e w' => ∃ v, e = .returned (.agg v.cs.toArray) ∧ isT A w' (PT.N l x r).bt v ∧ Ext w w' :=
  (rnode_any vl x vr w hx (by rw [(isP_num hl).1]; exact PT.ht_nn l) (by rw [(isP_num hr).1]; exact PT.ht_nn r)).mono fun e w' ⟨gk, he, hb, hg, hE⟩ => ⟨_, he, isT_node hl hr hx bl br (hA gk hg) hE hb, hE⟩

end Go.Proofs.Ytnbohogkfdeddaa
