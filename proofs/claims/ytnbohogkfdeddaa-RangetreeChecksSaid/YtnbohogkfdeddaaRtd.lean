/- Rangetree: node. -/
import Derived.Test.YtnbohogkfdeddaaRtc
import Derived.Test.YtnbohogkfdeddaaWk2
import Derived.Deep.DeepCutAuto
set_option linter.unusedSimpArgs false
set_option linter.unusedVariables false
namespace Go.Proofs.Ytnbohogkfdeddaa
open Go.RowKit

def W64 (a : Int) : Int := IntKind.i64.wrap a
def mx (a b : Int) : Int := if a < b then b else a
def gapV (l : TV) (x : RV) (r : TV) : Int :=
  if 0 < r.h then mx (if 0 < l.h then mx (mx l.g r.g) (W64 (x.s - l.l)) else mx l.g r.g) (W64 (r.f - x.e)) else (if 0 < l.h then mx (mx l.g r.g) (W64 (x.s - l.l)) else mx l.g r.g)
/-- What node returns. -/
def nodeV (l : TV) (x : RV) (r : TV) (k : Value) : TV := ⟨W64 (1 + mx l.h r.h), if 0 < l.h then l.f else x.s, if 0 < r.h then r.l else x.e, gapV l x r, x, k⟩
theorem run_bs (va vb : TV) (w : World) : (Instr.buildSlice 26 2 #[(0, .agg va.cs.toArray), (1, .agg vb.cs.toArray)]).run Try.prog w = .ok (.slice (some ⟨w.heap.size, 0, none⟩) 2 2) (w.alloc (.cells (va.cs ++ vb.cs).toArray 28)) := by
  simp only [TV.cs]
  go_simp
theorem wp_bs {op : Oper} {a : Act} {W : World} {K : Act → World → Prop} {Q : Exit → Act → World → Prop} (x y : Operand) (ho : op.op = .buildSlice 26 2 #[(0, x), (1, y)])
    {va vb : TV} (hx : a.eval x = .agg va.cs.toArray) (hy : a.eval y = .agg vb.cs.toArray) (h : K (a.put op.dst (.slice (some ⟨W.heap.size, 0, none⟩) 2 2)) (W.alloc (.cells (va.cs ++ vb.cs).toArray 28))) : op.wp Try.prog a W K Q := by
  unfold Oper.wp execOp
  simp only [ho, List.map_toArray, List.map_cons, List.map_nil, hx, hy, Sem.run_bind, run_bs, Sem.run_pure, Result.andThen_ok]
  exact h
theorem run_bldT6 (v0 v1 v2 v3 : Int) (x : RV) (g o n c : Nat) (w : World) : (Instr.build 28 #[(0, .int .i64 v0), (1, .int .i64 v1), (2, .int .i64 v2), (3, .int .i64 v3), (4, .agg x.cs.toArray), (5, .slice (some ⟨g, o, none⟩) n c)]).run Try.prog w = .ok (.agg (TV.cs ⟨v0, v1, v2, v3, x, .slice (some ⟨g, o, none⟩) n c⟩).toArray) w := by
  simp only [RV.cs, TV.cs]
  go_simp
theorem exec_bldT6 {op : Oper} {a : Act} {w : World} (o0 o1 o2 o3 o4 o5 : Operand) (ho : op.op = .build 28 #[(0, o0), (1, o1), (2, o2), (3, o3), (4, o4), (5, o5)]) {v0 v1 v2 v3 : Int} {x : RV} {g o n c : Nat} (h0 : a.eval o0 = .int .i64 v0) (h1 : a.eval o1 = .int .i64 v1) (h2 : a.eval o2 = .int .i64 v2) (h3 : a.eval o3 = .int .i64 v3) (h4 : a.eval o4 = .agg x.cs.toArray) (h5 : a.eval o5 = .slice (some ⟨g, o, none⟩) n c) :
    (execOp a.eval op).run Try.prog w = .ok (.value (.agg (TV.cs ⟨v0, v1, v2, v3, x, .slice (some ⟨g, o, none⟩) n c⟩).toArray)) w := by
  unfold execOp
  simp only [ho, List.map_toArray, List.map_cons, List.map_nil, h0, h1, h2, h3, h4, h5, Sem.run_bind, run_bldT6, Sem.run_pure, Result.andThen_ok]
set_option maxRecDepth 100000 in
set_option maxHeartbeats 4000000 in
theorem node_any (l : TV) (x : RV) (r : TV) (w : World) (hv : vld x) :
    Calls Try.prog 51 #[.agg l.cs.toArray, .agg x.cs.toArray, .agg r.cs.toArray] w fun e w' => ∃ gk, e = .returned (.agg (nodeV l x r (.slice (some ⟨gk, 0, none⟩) 2 2)).cs.toArray) ∧ Blk w' gk 28 (l.cs ++ r.cs) ∧ w.heap.size ≤ gk ∧ Ext w w' := by
  have hv0 : Hid (vld x) := hv
  clear hv
  go_enter Try.func51, Try.ntmps51
  go_upto_region 1 with fail
  refine name_wX (fun W1 hW => ?_)
  have hE : Ext w W1 := by rw [hW]; repeat' (first | exact Ext.refl _ | apply Ext.al)
  have b0 : Blk W1 (w.heap.size) 28 l.cs := by rw [hW]; exact (((Blk.newAt rfl).alloc _).alloc _).alloc _
  have b1 : Blk W1 (w.heap.size + 1) 25 x.cs := by rw [hW]; exact ((Blk.newAt (by simp)).alloc _).alloc _
  have b2 : Blk W1 (w.heap.size + 1 + 1) 28 r.cs := by rw [hW]; exact (Blk.newAt (by simp)).alloc _
  have b3 : Blk W1 (w.heap.size + 1 + 1 + 1) 28 TV.z.cs := by rw [hW]; exact Blk.newAt (by simp)
  clear hW
  obtain ⟨r3, hr3⟩ : ∃ r, r = w.heap.size + 1 + 1 + 1 := ⟨_, rfl⟩
  rw [← hr3] at b3
  try rw [← hr3]
  obtain ⟨r2, hr2⟩ : ∃ r, r = w.heap.size + 1 + 1 := ⟨_, rfl⟩
  rw [← hr2] at b2
  try rw [← hr2]
  obtain ⟨r1, hr1⟩ : ∃ r, r = w.heap.size + 1 := ⟨_, rfl⟩
  rw [← hr1] at b1
  try rw [← hr1]
  obtain ⟨r0, hr0⟩ : ∃ r, r = w.heap.size := ⟨_, rfl⟩
  rw [← hr0] at b0
  try rw [← hr0]
  have q0 : w.heap.size ≤ r0 := by omega
  have q1 : r0 < r1 := by omega
  have q2 : r1 < r2 := by omega
  have q3 : r2 < r3 := by omega
  clear hr0 hr1 hr2 hr3
  have qz : r3 < W1.heap.size := b3.lt
  go_upto_region 1 with fail
  obtain ⟨M, hM⟩ : ∃ z : Int, z = (if l.h < r.h then r.h else l.h) := ⟨_, rfl⟩
  replace hM : Hid _ := hM
  obtain ⟨H, hH⟩ : ∃ z : Int, z = IntKind.i64.wrap (1 + M) := ⟨_, rfl⟩
  replace hH : Hid _ := hH
  obtain ⟨G, hG⟩ : ∃ z : Int, z = (if l.g < r.g then r.g else l.g) := ⟨_, rfl⟩
  replace hG : Hid _ := hG
  go_cut [7] (fun va wc => ∃ ra rb : Nat, va = .pointer (some ⟨ra, 0, none⟩) ∧ r3 < ra ∧ r3 < rb ∧ ra ≠ rb ∧ Blk wc ra 28 (TV.cs ⟨H, x.s, x.e, G, x, .slice (some ⟨rb, 0, none⟩) 2 2⟩) ∧ Blk wc rb 28 (l.cs ++ r.cs) ∧ Ext W1 wc)
  case first =>
    have hEz : Ext W1 W1 := Ext.refl _
    have x0 := b0
    have x1 := b1
    have x2 := b2
    have x3 := b3
    obtain ⟨mX, hmX⟩ : ∃ m, m = W1.heap.size := ⟨_, rfl⟩
    have hS : GrownX W1 [] W1 := GrownX.refl _ _
    refine wp_region_S (GrownX W1 []) (by kernel_rfl) ?_
    refine name_wd (fun W2 hW => ?_)
    have hx : Ext W1 W2 := by rw [hW]; exact ext_drew _
    clear hW
    replace hS := hS.ext hx
    replace b0 := b0.ext hx
    replace b1 := b1.ext hx
    replace b2 := b2.ext hx
    replace b3 := b3.ext hx
    replace hEz := hEz.trans hx
    replace hE := hE.trans hx
    clear hx
    replace qz : r3 < W2.heap.size := b3.lt
    refine wpAnyD_takeSL (i := 0) rfl (by kernel_rfl) (fun _ _ _ _ h => h) hS ?_
    apply Exists.intro
    refine ⟨Or.inl ⟨by rfl, ?_⟩, ?_⟩
    (focus (intro wz hz; go_simp; (try with_reducible rfl); done))
    (try simp only [Act.put, Zs, Zz, Zc])
    refine wpAnyD_takeSL (i := 1) rfl (by kernel_rfl) (fun _ _ _ _ h => h) hS ?_
    apply Exists.intro
    refine ⟨Or.inl ⟨by rfl, ?_⟩, ?_⟩
    (focus (intro wz hz; have zc := (GrownX.blk hz x0 (by first | decide | (simp; done) | (simp; omega) | omega)).cell 0; go_simp; (try with_reducible rfl); done))
    (try simp only [Act.put, Zs, Zz, Zc])
    refine wpAnyD_takeSL (i := 2) rfl (by kernel_rfl) (fun _ _ _ _ h => h) hS ?_
    apply Exists.intro
    refine ⟨Or.inl ⟨by rfl, ?_⟩, ?_⟩
    (focus (intro wz hz; go_simp; (try with_reducible rfl); done))
    (try simp only [Act.put, Zs, Zz, Zc])
    refine wpAnyD_takeSL (i := 3) rfl (by kernel_rfl) (fun _ _ _ _ h => h) hS ?_
    apply Exists.intro
    refine ⟨Or.inl ⟨by rfl, ?_⟩, ?_⟩
    (focus (intro wz hz; have zc := (GrownX.blk hz x2 (by first | decide | (simp; done) | (simp; omega) | omega)).cell 0; go_simp; (try with_reducible rfl); done))
    (try simp only [Act.put, Zs, Zz, Zc])
    refine wpAnyD_takeSL (i := 4) rfl (by kernel_rfl) (fun _ _ _ _ h => h) hS ?_
    apply Exists.intro
    refine ⟨Or.inl ⟨by rfl, ?_⟩, ?_⟩
    (focus (intro wz hz; go_simp; (try with_reducible rfl); done))
    (try simp only [Act.put, Zs, Zz, Zc])
    refine wpAnyD_takeSL (i := 5) rfl (by kernel_rfl) (fun _ _ _ _ h => h) hS ?_
    apply Exists.intro
    refine ⟨Or.inl ⟨by rfl, ?_⟩, ?_⟩
    (focus (intro wz hz; go_simp; (try simp (disch := omega) only [Yq, Yr]); (try with_reducible rfl); done))
    (try simp only [Act.put, Zs, Zz, Zc])
    refine wpAnyD_takeSL (i := 6) rfl (by kernel_rfl) (fun _ _ _ _ h => h) hS ?_
    apply Exists.intro
    refine ⟨Or.inl ⟨by rfl, ?_⟩, ?_⟩
    (focus (intro wz hz; go_simp; (try with_reducible rfl); done))
    (try simp only [Act.put, Zs, Zz, Zc])
    refine wpAnyD_takeSL (i := 7) rfl (by kernel_rfl) (fun _ _ _ _ h => h) hS ?_
    apply Exists.intro
    refine ⟨Or.inl ⟨by rfl, ?_⟩, ?_⟩
    (focus (intro wz hz; have zc := (GrownX.blk hz x1 (by first | decide | (simp; done) | (simp; omega) | omega)).cell 0; go_simp; (try with_reducible rfl); done))
    (try simp only [Act.put, Zs, Zz, Zc])
    refine wpAnyD_takeSL (i := 8) rfl (by kernel_rfl) (fun _ _ _ _ h => h) hS ?_
    apply Exists.intro
    refine ⟨Or.inl ⟨by rfl, ?_⟩, ?_⟩
    (focus (intro wz hz; (first | exact exec_ld 25 _ rfl rfl ((GrownX.blk hz x1 (by first | decide | (simp; done) | (simp; omega) | omega)).range) Try.underlying25 rfl (by exact Try.infoR))))
    (try simp only [Act.put, Zs, Zz, Zc])
    refine wpAnyD_takeSL (i := 10) rfl (by kernel_rfl) (fun _ _ _ _ h => h) hS ?_
    apply Exists.intro
    refine ⟨Or.inl ⟨by rfl, ?_⟩, ?_⟩
    (focus (intro wz hz; go_simp; (try with_reducible rfl); done))
    (try simp only [Act.put, Zs, Zz, Zc])
    refine wpAnyD_takeSL (i := 11) rfl (by kernel_rfl) (fun _ _ _ _ h => h) hS ?_
    apply Exists.intro
    refine ⟨Or.inl ⟨by rfl, ?_⟩, ?_⟩
    (focus (intro wz hz; have zc := (GrownX.blk hz x0 (by first | decide | (simp; done) | (simp; omega) | omega)).cell 3; go_simp; (try with_reducible rfl); done))
    (try simp only [Act.put, Zs, Zz, Zc])
    refine wpAnyD_takeSL (i := 12) rfl (by kernel_rfl) (fun _ _ _ _ h => h) hS ?_
    apply Exists.intro
    refine ⟨Or.inl ⟨by rfl, ?_⟩, ?_⟩
    (focus (intro wz hz; go_simp; (try with_reducible rfl); done))
    (try simp only [Act.put, Zs, Zz, Zc])
    refine wpAnyD_takeSL (i := 13) rfl (by kernel_rfl) (fun _ _ _ _ h => h) hS ?_
    apply Exists.intro
    refine ⟨Or.inl ⟨by rfl, ?_⟩, ?_⟩
    (focus (intro wz hz; have zc := (GrownX.blk hz x2 (by first | decide | (simp; done) | (simp; omega) | omega)).cell 3; go_simp; (try with_reducible rfl); done))
    (try simp only [Act.put, Zs, Zz, Zc])
    refine wpAnyD_takeSL (i := 14) rfl (by kernel_rfl) (fun _ _ _ _ h => h) hS ?_
    apply Exists.intro
    refine ⟨Or.inl ⟨by rfl, ?_⟩, ?_⟩
    (focus (intro wz hz; go_simp; (try with_reducible rfl); done))
    (try simp only [Act.put, Zs, Zz, Zc])
    refine wpAnyD_takeSL (i := 15) rfl (by kernel_rfl) (fun _ _ _ _ h => h) hS ?_
    apply Exists.intro
    refine ⟨Or.inl ⟨by rfl, ?_⟩, ?_⟩
    (focus (intro wz hz; (first | exact exec_ld 25 _ rfl rfl ((GrownX.blk hz x1 (by first | decide | (simp; done) | (simp; omega) | omega)).range) Try.underlying25 rfl (by exact Try.infoR))))
    (try simp only [Act.put, Zs, Zz, Zc])
    refine wpAnyD_takeSL (i := 16) rfl (by kernel_rfl) (fun _ _ _ _ h => h) hS ?_
    apply Exists.intro
    refine ⟨Or.inl ⟨by rfl, ?_⟩, ?_⟩
    (focus (intro wz hz; (first | exact exec_ld 28 _ rfl rfl ((GrownX.blk hz x0 (by first | decide | (simp; done) | (simp; omega) | omega)).range) Try.underlying28 rfl (by exact Try.infoT))))
    (try simp only [Act.put, Zs, Zz, Zc])
    refine wpAnyD_takeSL (i := 17) rfl (by kernel_rfl) (fun _ _ _ _ h => h) hS ?_
    apply Exists.intro
    refine ⟨Or.inl ⟨by rfl, ?_⟩, ?_⟩
    (focus (intro wz hz; (first | exact exec_ld 28 _ rfl rfl ((GrownX.blk hz x2 (by first | decide | (simp; done) | (simp; omega) | omega)).range) Try.underlying28 rfl (by exact Try.infoT))))
    (try simp only [Act.put, Zs, Zz, Zc])
    refine wpAnyD_many [9, 18, 20] (by kernel_rfl) (by simp) (AllD_consL rfl (fun K hK => ?_) (AllD_consL rfl (fun K hK => ?_) (AllD_consL rfl (fun K hK => ?_) AllD_nil)))
    · rw [if_pos (by rfl)]
      go_simp
      (go_at_call 30; refine (end_any x _ hv0.out).mono ?_; intro e W33 hpp; obtain ⟨rfl, hx⟩ := hpp)
      replace hS := hS.ext hx; (try dsimp only); refine hK.out _ _ (fun _ => hS) ?_; clear hK K; (try simp only [Act.put, Zs, Zz, Zc])
      replace b0 := b0.ext hx
      replace b1 := b1.ext hx
      replace b2 := b2.ext hx
      replace b3 := b3.ext hx
      replace hEz := hEz.trans hx
      replace hE := hE.trans hx
      clear hx
      replace qz : r3 < W33.heap.size := b3.lt
      refine wpAnyD_many [18, 20] (by kernel_rfl) (by simp) (AllD_consL rfl (fun K hK => ?_) (AllD_consL rfl (fun K hK => ?_) AllD_nil))
      · rw [if_pos (by rfl)]
        have qb : mX ≤ W33.heap.size := (by rw [hmX]; exact hS.size)
        refine wp_bs _ _ (by rfl) (by rfl) (by rfl) ?_
        (try dsimp only); refine hK.out _ _ (fun _ => hS.ext (ext_alloc _ _)) ?_; clear hK K; (try simp only [Act.put, Zs, Zz, Zc])
        refine name_wd (fun W63 hW => ?_)
        have hx : Ext W33 W63 := by rw [hW]; exact ext_alloc _ _
        have b4 : Blk W63 W33.heap.size 28 (l.cs ++ r.cs) := by rw [hW]; exact Blk.newAt rfl
        clear hW
        replace hS := hS.ext hx
        replace b0 := b0.ext hx
        replace b1 := b1.ext hx
        replace b2 := b2.ext hx
        replace b3 := b3.ext hx
        replace hEz := hEz.trans hx
        replace hE := hE.trans hx
        clear hx
        obtain ⟨r4, hr⟩ : ∃ r, r = W33.heap.size := ⟨_, rfl⟩
        rw [← hr] at b4
        try rw [← hr]
        have q4 : r3 < r4 := by omega
        have qb4 : mX ≤ r4 := by omega
        clear hr
        replace qz : r4 < W63.heap.size := b4.lt
        refine wpAnyD_takeSL (i := 19) rfl (by kernel_rfl) (fun _ _ _ _ h => h) hS ?_
        apply Exists.intro
        refine ⟨Or.inl ⟨by rfl, ?_⟩, ?_⟩
        (focus (intro wz hz; exact exec_bldT6 _ _ _ _ _ _ (by rfl) (by rfl) (by rfl) (by rfl) (by rfl) (by rfl) (by rfl)))
        (try simp only [Act.put, Zs, Zz, Zc])
        refine wpAnyD_oneL (i := 20) rfl (by kernel_rfl) (fun K hK => ?_)
        rw [if_pos (by rfl)]
        have qb : mX ≤ W63.heap.size := (by rw [hmX]; exact hS.size)
        go_simp
        (try dsimp only); refine hK.out _ _ (fun _ => hS.ext (ext_alloc _ _)) ?_; clear hK K; (try simp only [Act.put, Zs, Zz, Zc])
        refine name_wd (fun W64 hW => ?_)
        have hx : Ext W63 W64 := by rw [hW]; exact ext_alloc _ _
        have b5 : Blk W64 W63.heap.size 28 TV.z.cs := by rw [hW]; exact Blk.newAt rfl
        clear hW
        replace hS := hS.ext hx
        replace b0 := b0.ext hx
        replace b1 := b1.ext hx
        replace b2 := b2.ext hx
        replace b3 := b3.ext hx
        replace b4 := b4.ext hx
        replace hEz := hEz.trans hx
        replace hE := hE.trans hx
        clear hx
        obtain ⟨r5, hr⟩ : ∃ r, r = W63.heap.size := ⟨_, rfl⟩
        rw [← hr] at b5
        try rw [← hr]
        have q5 : r4 < r5 := by omega
        have qb5 : mX ≤ r5 := by omega
        clear hr
        replace qz : r5 < W64.heap.size := b5.lt
        refine wpAnyD_oneL (i := 21) rfl (by kernel_rfl) (fun K hK => ?_)
        rw [if_pos (by rfl)]
        refine wp_store_box 28 _ _ (by rfl) b5 (by rfl) (by rfl) (by exact Try.infoT) (by first | exact RV.one _ | exact TV.one _ rfl | exact RV.one _ | exact TV.one TV.z rfl | exact TV.one ⟨_, _, _, _, x, _⟩ rfl) (by rfl) (fun W65 hg bn => ?_)
        replace b0 := b0.kept hg (Zn (by omega))
        replace b1 := b1.kept hg (Zn (by omega))
        replace b2 := b2.kept hg (Zn (by omega))
        replace b3 := b3.kept hg (Zn (by omega))
        replace b4 := b4.kept hg (Zn (by omega))
        replace hEz := ext_grow hEz hg (fun q hq => by cases hq; omega)
        replace hE := ext_grow hE hg (fun q hq => by cases hq; omega)
        replace hS := hS.stepNew hg (by omega)
        clear b5 hg
        have b5 := bn
        clear bn
        (try dsimp only); refine hK.out _ _ (fun _ => hS) ?_; clear hK K; (try simp only [Act.put, Zs, Zz, Zc])
        replace qz : r5 < W65.heap.size := b5.lt
        refine wpAnyD_done (by kernel_rfl) ?_ _
        clear hS hmX x0 x1 x2 x3
        rw [← hM.out] at b5
        rw [← hH.out] at b5
        rw [← hG.out] at b5
        simp only [Exit.then]; go_step; go_meet
        exact ⟨r5, r4, rfl, by omega, by omega, by omega, b5, b4, hEz⟩
      · rw [if_pos (by rfl)]
        have qb : mX ≤ W33.heap.size := (by rw [hmX]; exact hS.size)
        go_simp
        (try dsimp only); refine hK.out _ _ (fun _ => hS.ext (ext_alloc _ _)) ?_; clear hK K; (try simp only [Act.put, Zs, Zz, Zc])
        refine name_wd (fun W93 hW => ?_)
        have hx : Ext W33 W93 := by rw [hW]; exact ext_alloc _ _
        have b4 : Blk W93 W33.heap.size 28 TV.z.cs := by rw [hW]; exact Blk.newAt rfl
        clear hW
        replace hS := hS.ext hx
        replace b0 := b0.ext hx
        replace b1 := b1.ext hx
        replace b2 := b2.ext hx
        replace b3 := b3.ext hx
        replace hEz := hEz.trans hx
        replace hE := hE.trans hx
        clear hx
        obtain ⟨r4, hr⟩ : ∃ r, r = W33.heap.size := ⟨_, rfl⟩
        rw [← hr] at b4
        try rw [← hr]
        have q4 : r3 < r4 := by omega
        have qb4 : mX ≤ r4 := by omega
        clear hr
        replace qz : r4 < W93.heap.size := b4.lt
        refine wpAnyD_oneL (i := 18) rfl (by kernel_rfl) (fun K hK => ?_)
        rw [if_pos (by rfl)]
        have qb : mX ≤ W93.heap.size := (by rw [hmX]; exact hS.size)
        refine wp_bs _ _ (by rfl) (by rfl) (by rfl) ?_
        (try dsimp only); refine hK.out _ _ (fun _ => hS.ext (ext_alloc _ _)) ?_; clear hK K; (try simp only [Act.put, Zs, Zz, Zc])
        refine name_wd (fun W94 hW => ?_)
        have hx : Ext W93 W94 := by rw [hW]; exact ext_alloc _ _
        have b5 : Blk W94 W93.heap.size 28 (l.cs ++ r.cs) := by rw [hW]; exact Blk.newAt rfl
        clear hW
        replace hS := hS.ext hx
        replace b0 := b0.ext hx
        replace b1 := b1.ext hx
        replace b2 := b2.ext hx
        replace b3 := b3.ext hx
        replace b4 := b4.ext hx
        replace hEz := hEz.trans hx
        replace hE := hE.trans hx
        clear hx
        obtain ⟨r5, hr⟩ : ∃ r, r = W93.heap.size := ⟨_, rfl⟩
        rw [← hr] at b5
        try rw [← hr]
        have q5 : r4 < r5 := by omega
        have qb5 : mX ≤ r5 := by omega
        clear hr
        replace qz : r5 < W94.heap.size := b5.lt
        refine wpAnyD_takeSL (i := 19) rfl (by kernel_rfl) (fun _ _ _ _ h => h) hS ?_
        apply Exists.intro
        refine ⟨Or.inl ⟨by rfl, ?_⟩, ?_⟩
        (focus (intro wz hz; exact exec_bldT6 _ _ _ _ _ _ (by rfl) (by rfl) (by rfl) (by rfl) (by rfl) (by rfl) (by rfl)))
        (try simp only [Act.put, Zs, Zz, Zc])
        refine wpAnyD_oneL (i := 21) rfl (by kernel_rfl) (fun K hK => ?_)
        rw [if_pos (by rfl)]
        refine wp_store_box 28 _ _ (by rfl) b4 (by rfl) (by rfl) (by exact Try.infoT) (by first | exact RV.one _ | exact TV.one _ rfl | exact RV.one _ | exact TV.one TV.z rfl | exact TV.one ⟨_, _, _, _, x, _⟩ rfl) (by rfl) (fun W95 hg bn => ?_)
        replace b0 := b0.kept hg (Zn (by omega))
        replace b1 := b1.kept hg (Zn (by omega))
        replace b2 := b2.kept hg (Zn (by omega))
        replace b3 := b3.kept hg (Zn (by omega))
        replace b5 := b5.kept hg (Zn (by omega))
        replace hEz := ext_grow hEz hg (fun q hq => by cases hq; omega)
        replace hE := ext_grow hE hg (fun q hq => by cases hq; omega)
        replace hS := hS.stepNew hg (by omega)
        clear b4 hg
        have b4 := bn
        clear bn
        (try dsimp only); refine hK.out _ _ (fun _ => hS) ?_; clear hK K; (try simp only [Act.put, Zs, Zz, Zc])
        replace qz : r5 < W95.heap.size := b5.lt
        refine wpAnyD_done (by kernel_rfl) ?_ _
        clear hS hmX x0 x1 x2 x3
        rw [← hM.out] at b4
        rw [← hH.out] at b4
        rw [← hG.out] at b4
        simp only [Exit.then]; go_step; go_meet
        exact ⟨r4, r5, rfl, by omega, by omega, by omega, b4, b5, hEz⟩
    · rw [if_pos (by rfl)]
      have qb : mX ≤ W2.heap.size := (by rw [hmX]; exact hS.size)
      refine wp_bs _ _ (by rfl) (by rfl) (by rfl) ?_
      (try dsimp only); refine hK.out _ _ (fun _ => hS.ext (ext_alloc _ _)) ?_; clear hK K; (try simp only [Act.put, Zs, Zz, Zc])
      refine name_wd (fun W123 hW => ?_)
      have hx : Ext W2 W123 := by rw [hW]; exact ext_alloc _ _
      have b4 : Blk W123 W2.heap.size 28 (l.cs ++ r.cs) := by rw [hW]; exact Blk.newAt rfl
      clear hW
      replace hS := hS.ext hx
      replace b0 := b0.ext hx
      replace b1 := b1.ext hx
      replace b2 := b2.ext hx
      replace b3 := b3.ext hx
      replace hEz := hEz.trans hx
      replace hE := hE.trans hx
      clear hx
      obtain ⟨r4, hr⟩ : ∃ r, r = W2.heap.size := ⟨_, rfl⟩
      rw [← hr] at b4
      try rw [← hr]
      have q4 : r3 < r4 := by omega
      have qb4 : mX ≤ r4 := by omega
      clear hr
      replace qz : r4 < W123.heap.size := b4.lt
      refine wpAnyD_many [9, 20] (by kernel_rfl) (by simp) (AllD_consL rfl (fun K hK => ?_) (AllD_consL rfl (fun K hK => ?_) AllD_nil))
      · rw [if_pos (by rfl)]
        go_simp
        (go_at_call 30; refine (end_any x _ hv0.out).mono ?_; intro e W153 hpp; obtain ⟨rfl, hx⟩ := hpp)
        replace hS := hS.ext hx; (try dsimp only); refine hK.out _ _ (fun _ => hS) ?_; clear hK K; (try simp only [Act.put, Zs, Zz, Zc])
        replace b0 := b0.ext hx
        replace b1 := b1.ext hx
        replace b2 := b2.ext hx
        replace b3 := b3.ext hx
        replace b4 := b4.ext hx
        replace hEz := hEz.trans hx
        replace hE := hE.trans hx
        clear hx
        replace qz : r4 < W153.heap.size := b4.lt
        refine wpAnyD_takeSL (i := 19) rfl (by kernel_rfl) (fun _ _ _ _ h => h) hS ?_
        apply Exists.intro
        refine ⟨Or.inl ⟨by rfl, ?_⟩, ?_⟩
        (focus (intro wz hz; exact exec_bldT6 _ _ _ _ _ _ (by rfl) (by rfl) (by rfl) (by rfl) (by rfl) (by rfl) (by rfl)))
        (try simp only [Act.put, Zs, Zz, Zc])
        refine wpAnyD_oneL (i := 20) rfl (by kernel_rfl) (fun K hK => ?_)
        rw [if_pos (by rfl)]
        have qb : mX ≤ W153.heap.size := (by rw [hmX]; exact hS.size)
        go_simp
        (try dsimp only); refine hK.out _ _ (fun _ => hS.ext (ext_alloc _ _)) ?_; clear hK K; (try simp only [Act.put, Zs, Zz, Zc])
        refine name_wd (fun W154 hW => ?_)
        have hx : Ext W153 W154 := by rw [hW]; exact ext_alloc _ _
        have b5 : Blk W154 W153.heap.size 28 TV.z.cs := by rw [hW]; exact Blk.newAt rfl
        clear hW
        replace hS := hS.ext hx
        replace b0 := b0.ext hx
        replace b1 := b1.ext hx
        replace b2 := b2.ext hx
        replace b3 := b3.ext hx
        replace b4 := b4.ext hx
        replace hEz := hEz.trans hx
        replace hE := hE.trans hx
        clear hx
        obtain ⟨r5, hr⟩ : ∃ r, r = W153.heap.size := ⟨_, rfl⟩
        rw [← hr] at b5
        try rw [← hr]
        have q5 : r4 < r5 := by omega
        have qb5 : mX ≤ r5 := by omega
        clear hr
        replace qz : r5 < W154.heap.size := b5.lt
        refine wpAnyD_oneL (i := 21) rfl (by kernel_rfl) (fun K hK => ?_)
        rw [if_pos (by rfl)]
        refine wp_store_box 28 _ _ (by rfl) b5 (by rfl) (by rfl) (by exact Try.infoT) (by first | exact RV.one _ | exact TV.one _ rfl | exact RV.one _ | exact TV.one TV.z rfl | exact TV.one ⟨_, _, _, _, x, _⟩ rfl) (by rfl) (fun W155 hg bn => ?_)
        replace b0 := b0.kept hg (Zn (by omega))
        replace b1 := b1.kept hg (Zn (by omega))
        replace b2 := b2.kept hg (Zn (by omega))
        replace b3 := b3.kept hg (Zn (by omega))
        replace b4 := b4.kept hg (Zn (by omega))
        replace hEz := ext_grow hEz hg (fun q hq => by cases hq; omega)
        replace hE := ext_grow hE hg (fun q hq => by cases hq; omega)
        replace hS := hS.stepNew hg (by omega)
        clear b5 hg
        have b5 := bn
        clear bn
        (try dsimp only); refine hK.out _ _ (fun _ => hS) ?_; clear hK K; (try simp only [Act.put, Zs, Zz, Zc])
        replace qz : r5 < W155.heap.size := b5.lt
        refine wpAnyD_done (by kernel_rfl) ?_ _
        clear hS hmX x0 x1 x2 x3
        rw [← hM.out] at b5
        rw [← hH.out] at b5
        rw [← hG.out] at b5
        simp only [Exit.then]; go_step; go_meet
        exact ⟨r5, r4, rfl, by omega, by omega, by omega, b5, b4, hEz⟩
      · rw [if_pos (by rfl)]
        have qb : mX ≤ W123.heap.size := (by rw [hmX]; exact hS.size)
        go_simp
        (try dsimp only); refine hK.out _ _ (fun _ => hS.ext (ext_alloc _ _)) ?_; clear hK K; (try simp only [Act.put, Zs, Zz, Zc])
        refine name_wd (fun W183 hW => ?_)
        have hx : Ext W123 W183 := by rw [hW]; exact ext_alloc _ _
        have b5 : Blk W183 W123.heap.size 28 TV.z.cs := by rw [hW]; exact Blk.newAt rfl
        clear hW
        replace hS := hS.ext hx
        replace b0 := b0.ext hx
        replace b1 := b1.ext hx
        replace b2 := b2.ext hx
        replace b3 := b3.ext hx
        replace b4 := b4.ext hx
        replace hEz := hEz.trans hx
        replace hE := hE.trans hx
        clear hx
        obtain ⟨r5, hr⟩ : ∃ r, r = W123.heap.size := ⟨_, rfl⟩
        rw [← hr] at b5
        try rw [← hr]
        have q5 : r4 < r5 := by omega
        have qb5 : mX ≤ r5 := by omega
        clear hr
        replace qz : r5 < W183.heap.size := b5.lt
        refine wpAnyD_oneL (i := 9) rfl (by kernel_rfl) (fun K hK => ?_)
        rw [if_pos (by rfl)]
        go_simp
        (go_at_call 30; refine (end_any x _ hv0.out).mono ?_; intro e W184 hpp; obtain ⟨rfl, hx⟩ := hpp)
        replace hS := hS.ext hx; (try dsimp only); refine hK.out _ _ (fun _ => hS) ?_; clear hK K; (try simp only [Act.put, Zs, Zz, Zc])
        replace b0 := b0.ext hx
        replace b1 := b1.ext hx
        replace b2 := b2.ext hx
        replace b3 := b3.ext hx
        replace b4 := b4.ext hx
        replace b5 := b5.ext hx
        replace hEz := hEz.trans hx
        replace hE := hE.trans hx
        clear hx
        replace qz : r5 < W184.heap.size := b5.lt
        refine wpAnyD_takeSL (i := 19) rfl (by kernel_rfl) (fun _ _ _ _ h => h) hS ?_
        apply Exists.intro
        refine ⟨Or.inl ⟨by rfl, ?_⟩, ?_⟩
        (focus (intro wz hz; exact exec_bldT6 _ _ _ _ _ _ (by rfl) (by rfl) (by rfl) (by rfl) (by rfl) (by rfl) (by rfl)))
        (try simp only [Act.put, Zs, Zz, Zc])
        refine wpAnyD_oneL (i := 21) rfl (by kernel_rfl) (fun K hK => ?_)
        rw [if_pos (by rfl)]
        refine wp_store_box 28 _ _ (by rfl) b5 (by rfl) (by rfl) (by exact Try.infoT) (by first | exact RV.one _ | exact TV.one _ rfl | exact RV.one _ | exact TV.one TV.z rfl | exact TV.one ⟨_, _, _, _, x, _⟩ rfl) (by rfl) (fun W185 hg bn => ?_)
        replace b0 := b0.kept hg (Zn (by omega))
        replace b1 := b1.kept hg (Zn (by omega))
        replace b2 := b2.kept hg (Zn (by omega))
        replace b3 := b3.kept hg (Zn (by omega))
        replace b4 := b4.kept hg (Zn (by omega))
        replace hEz := ext_grow hEz hg (fun q hq => by cases hq; omega)
        replace hE := ext_grow hE hg (fun q hq => by cases hq; omega)
        replace hS := hS.stepNew hg (by omega)
        clear b5 hg
        have b5 := bn
        clear bn
        (try dsimp only); refine hK.out _ _ (fun _ => hS) ?_; clear hK K; (try simp only [Act.put, Zs, Zz, Zc])
        replace qz : r5 < W185.heap.size := b5.lt
        refine wpAnyD_done (by kernel_rfl) ?_ _
        clear hS hmX x0 x1 x2 x3
        rw [← hM.out] at b5
        rw [← hH.out] at b5
        rw [← hG.out] at b5
        simp only [Exit.then]; go_step; go_meet
        exact ⟨r5, r4, rfl, by omega, by omega, by omega, b5, b4, hEz⟩
    · rw [if_pos (by rfl)]
      have qb : mX ≤ W2.heap.size := (by rw [hmX]; exact hS.size)
      go_simp
      (try dsimp only); refine hK.out _ _ (fun _ => hS.ext (ext_alloc _ _)) ?_; clear hK K; (try simp only [Act.put, Zs, Zz, Zc])
      refine name_wd (fun W213 hW => ?_)
      have hx : Ext W2 W213 := by rw [hW]; exact ext_alloc _ _
      have b4 : Blk W213 W2.heap.size 28 TV.z.cs := by rw [hW]; exact Blk.newAt rfl
      clear hW
      replace hS := hS.ext hx
      replace b0 := b0.ext hx
      replace b1 := b1.ext hx
      replace b2 := b2.ext hx
      replace b3 := b3.ext hx
      replace hEz := hEz.trans hx
      replace hE := hE.trans hx
      clear hx
      obtain ⟨r4, hr⟩ : ∃ r, r = W2.heap.size := ⟨_, rfl⟩
      rw [← hr] at b4
      try rw [← hr]
      have q4 : r3 < r4 := by omega
      have qb4 : mX ≤ r4 := by omega
      clear hr
      replace qz : r4 < W213.heap.size := b4.lt
      refine wpAnyD_many [9, 18] (by kernel_rfl) (by simp) (AllD_consL rfl (fun K hK => ?_) (AllD_consL rfl (fun K hK => ?_) AllD_nil))
      · rw [if_pos (by rfl)]
        go_simp
        (go_at_call 30; refine (end_any x _ hv0.out).mono ?_; intro e W243 hpp; obtain ⟨rfl, hx⟩ := hpp)
        replace hS := hS.ext hx; (try dsimp only); refine hK.out _ _ (fun _ => hS) ?_; clear hK K; (try simp only [Act.put, Zs, Zz, Zc])
        replace b0 := b0.ext hx
        replace b1 := b1.ext hx
        replace b2 := b2.ext hx
        replace b3 := b3.ext hx
        replace b4 := b4.ext hx
        replace hEz := hEz.trans hx
        replace hE := hE.trans hx
        clear hx
        replace qz : r4 < W243.heap.size := b4.lt
        refine wpAnyD_oneL (i := 18) rfl (by kernel_rfl) (fun K hK => ?_)
        rw [if_pos (by rfl)]
        have qb : mX ≤ W243.heap.size := (by rw [hmX]; exact hS.size)
        refine wp_bs _ _ (by rfl) (by rfl) (by rfl) ?_
        (try dsimp only); refine hK.out _ _ (fun _ => hS.ext (ext_alloc _ _)) ?_; clear hK K; (try simp only [Act.put, Zs, Zz, Zc])
        refine name_wd (fun W244 hW => ?_)
        have hx : Ext W243 W244 := by rw [hW]; exact ext_alloc _ _
        have b5 : Blk W244 W243.heap.size 28 (l.cs ++ r.cs) := by rw [hW]; exact Blk.newAt rfl
        clear hW
        replace hS := hS.ext hx
        replace b0 := b0.ext hx
        replace b1 := b1.ext hx
        replace b2 := b2.ext hx
        replace b3 := b3.ext hx
        replace b4 := b4.ext hx
        replace hEz := hEz.trans hx
        replace hE := hE.trans hx
        clear hx
        obtain ⟨r5, hr⟩ : ∃ r, r = W243.heap.size := ⟨_, rfl⟩
        rw [← hr] at b5
        try rw [← hr]
        have q5 : r4 < r5 := by omega
        have qb5 : mX ≤ r5 := by omega
        clear hr
        replace qz : r5 < W244.heap.size := b5.lt
        refine wpAnyD_takeSL (i := 19) rfl (by kernel_rfl) (fun _ _ _ _ h => h) hS ?_
        apply Exists.intro
        refine ⟨Or.inl ⟨by rfl, ?_⟩, ?_⟩
        (focus (intro wz hz; exact exec_bldT6 _ _ _ _ _ _ (by rfl) (by rfl) (by rfl) (by rfl) (by rfl) (by rfl) (by rfl)))
        (try simp only [Act.put, Zs, Zz, Zc])
        refine wpAnyD_oneL (i := 21) rfl (by kernel_rfl) (fun K hK => ?_)
        rw [if_pos (by rfl)]
        refine wp_store_box 28 _ _ (by rfl) b4 (by rfl) (by rfl) (by exact Try.infoT) (by first | exact RV.one _ | exact TV.one _ rfl | exact RV.one _ | exact TV.one TV.z rfl | exact TV.one ⟨_, _, _, _, x, _⟩ rfl) (by rfl) (fun W245 hg bn => ?_)
        replace b0 := b0.kept hg (Zn (by omega))
        replace b1 := b1.kept hg (Zn (by omega))
        replace b2 := b2.kept hg (Zn (by omega))
        replace b3 := b3.kept hg (Zn (by omega))
        replace b5 := b5.kept hg (Zn (by omega))
        replace hEz := ext_grow hEz hg (fun q hq => by cases hq; omega)
        replace hE := ext_grow hE hg (fun q hq => by cases hq; omega)
        replace hS := hS.stepNew hg (by omega)
        clear b4 hg
        have b4 := bn
        clear bn
        (try dsimp only); refine hK.out _ _ (fun _ => hS) ?_; clear hK K; (try simp only [Act.put, Zs, Zz, Zc])
        replace qz : r5 < W245.heap.size := b5.lt
        refine wpAnyD_done (by kernel_rfl) ?_ _
        clear hS hmX x0 x1 x2 x3
        rw [← hM.out] at b4
        rw [← hH.out] at b4
        rw [← hG.out] at b4
        simp only [Exit.then]; go_step; go_meet
        exact ⟨r4, r5, rfl, by omega, by omega, by omega, b4, b5, hEz⟩
      · rw [if_pos (by rfl)]
        have qb : mX ≤ W213.heap.size := (by rw [hmX]; exact hS.size)
        refine wp_bs _ _ (by rfl) (by rfl) (by rfl) ?_
        (try dsimp only); refine hK.out _ _ (fun _ => hS.ext (ext_alloc _ _)) ?_; clear hK K; (try simp only [Act.put, Zs, Zz, Zc])
        refine name_wd (fun W273 hW => ?_)
        have hx : Ext W213 W273 := by rw [hW]; exact ext_alloc _ _
        have b5 : Blk W273 W213.heap.size 28 (l.cs ++ r.cs) := by rw [hW]; exact Blk.newAt rfl
        clear hW
        replace hS := hS.ext hx
        replace b0 := b0.ext hx
        replace b1 := b1.ext hx
        replace b2 := b2.ext hx
        replace b3 := b3.ext hx
        replace b4 := b4.ext hx
        replace hEz := hEz.trans hx
        replace hE := hE.trans hx
        clear hx
        obtain ⟨r5, hr⟩ : ∃ r, r = W213.heap.size := ⟨_, rfl⟩
        rw [← hr] at b5
        try rw [← hr]
        have q5 : r4 < r5 := by omega
        have qb5 : mX ≤ r5 := by omega
        clear hr
        replace qz : r5 < W273.heap.size := b5.lt
        refine wpAnyD_oneL (i := 9) rfl (by kernel_rfl) (fun K hK => ?_)
        rw [if_pos (by rfl)]
        go_simp
        (go_at_call 30; refine (end_any x _ hv0.out).mono ?_; intro e W274 hpp; obtain ⟨rfl, hx⟩ := hpp)
        replace hS := hS.ext hx; (try dsimp only); refine hK.out _ _ (fun _ => hS) ?_; clear hK K; (try simp only [Act.put, Zs, Zz, Zc])
        replace b0 := b0.ext hx
        replace b1 := b1.ext hx
        replace b2 := b2.ext hx
        replace b3 := b3.ext hx
        replace b4 := b4.ext hx
        replace b5 := b5.ext hx
        replace hEz := hEz.trans hx
        replace hE := hE.trans hx
        clear hx
        replace qz : r5 < W274.heap.size := b5.lt
        refine wpAnyD_takeSL (i := 19) rfl (by kernel_rfl) (fun _ _ _ _ h => h) hS ?_
        apply Exists.intro
        refine ⟨Or.inl ⟨by rfl, ?_⟩, ?_⟩
        (focus (intro wz hz; exact exec_bldT6 _ _ _ _ _ _ (by rfl) (by rfl) (by rfl) (by rfl) (by rfl) (by rfl) (by rfl)))
        (try simp only [Act.put, Zs, Zz, Zc])
        refine wpAnyD_oneL (i := 21) rfl (by kernel_rfl) (fun K hK => ?_)
        rw [if_pos (by rfl)]
        refine wp_store_box 28 _ _ (by rfl) b4 (by rfl) (by rfl) (by exact Try.infoT) (by first | exact RV.one _ | exact TV.one _ rfl | exact RV.one _ | exact TV.one TV.z rfl | exact TV.one ⟨_, _, _, _, x, _⟩ rfl) (by rfl) (fun W275 hg bn => ?_)
        replace b0 := b0.kept hg (Zn (by omega))
        replace b1 := b1.kept hg (Zn (by omega))
        replace b2 := b2.kept hg (Zn (by omega))
        replace b3 := b3.kept hg (Zn (by omega))
        replace b5 := b5.kept hg (Zn (by omega))
        replace hEz := ext_grow hEz hg (fun q hq => by cases hq; omega)
        replace hE := ext_grow hE hg (fun q hq => by cases hq; omega)
        replace hS := hS.stepNew hg (by omega)
        clear b4 hg
        have b4 := bn
        clear bn
        (try dsimp only); refine hK.out _ _ (fun _ => hS) ?_; clear hK K; (try simp only [Act.put, Zs, Zz, Zc])
        replace qz : r5 < W275.heap.size := b5.lt
        refine wpAnyD_done (by kernel_rfl) ?_ _
        clear hS hmX x0 x1 x2 x3
        rw [← hM.out] at b4
        rw [← hH.out] at b4
        rw [← hG.out] at b4
        simp only [Exit.then]; go_step; go_meet
        exact ⟨r4, r5, rfl, by omega, by omega, by omega, b4, b5, hEz⟩
  obtain ⟨r4, r5, rfl, q4x, q5x, qne4, b4, b5, hx⟩ := hcut
  obtain ⟨W2, rfl⟩ : ∃ W, W = wc := ⟨_, rfl⟩
  replace b0 := b0.ext hx
  replace b1 := b1.ext hx
  replace b2 := b2.ext hx
  replace b3 := b3.ext hx
  replace hE := hE.trans hx
  clear hx
  replace qz : r3 < W2.heap.size := b3.lt
  replace qz : r5 < W2.heap.size := b5.lt
  have qz4 : r4 < W2.heap.size := b4.lt
  by_cases c1 : l.h ≤ 0 <;> by_cases c2 : r.h ≤ 0
  · have hlb : decide (0 < l.h) = false := by simp; omega
    have hrb : decide (0 < r.h) = false := by simp; omega
    have HL : Hid (l.h ≤ 0) := c1
    have HR : Hid (r.h ≤ 0) := c2
    clear c1 c2
    go_upto_region 2 with fail
    refine wp_region_lit ?_
    refine wpList_plain rfl (fun K hK => ?_); go_simp; (try dsimp only); refine hK _ _ ?_; clear hK K; (try simp only [Act.put, Zs, Zz, Zc])
    refine wpList_plain rfl (fun K hK => ?_); have zc := b0.cell 0; go_simp; clear zc; (try simp only [hlb]); (try dsimp only); refine hK _ _ ?_; clear hK K; (try simp only [Act.put, Zs, Zz, Zc])
    refine wpList_plain rfl (fun K hK => ?_); go_simp; (try simp (disch := omega) only [Yq, Yr]); (try simp only [hlb]); (try dsimp only); refine hK _ _ ?_; clear hK K; (try simp only [Act.put, Zs, Zz, Zc])
    refine wpList_nil ?_
    go_upto_region 5 with fail
    refine wp_region_lit ?_
    refine wpList_plain rfl (fun K hK => ?_); go_simp; (try dsimp only); refine hK _ _ ?_; clear hK K; (try simp only [Act.put, Zs, Zz, Zc])
    refine wpList_plain rfl (fun K hK => ?_); have zc := b2.cell 0; go_simp; clear zc; (try simp only [hrb]); (try dsimp only); refine hK _ _ ?_; clear hK K; (try simp only [Act.put, Zs, Zz, Zc])
    refine wpList_plain rfl (fun K hK => ?_); go_simp; (try simp (disch := omega) only [Yq, Yr]); (try simp only [hrb]); (try dsimp only); refine hK _ _ ?_; clear hK K; (try simp only [Act.put, Zs, Zz, Zc])
    refine wpList_nil ?_
    go_upto_region 8 with fail
    refine wp_region_lit ?_
    refine wpList_plain rfl (fun K hK => ?_); (first | (refine wp_ld 28 _ (b4.range) (by rfl) (by rfl) Try.underlying28 rfl (by exact Try.infoT) ?_)); (try dsimp only); refine hK _ _ ?_; clear hK K; (try simp only [Act.put, Zs, Zz, Zc])
    refine wpList_plain rfl (fun K hK => ?_)
    refine wp_store_box 28 _ _ (by rfl) b3 (by rfl) (by rfl) (by exact Try.infoT) (by first | exact RV.one _ | exact TV.one _ rfl | exact RV.one _ | exact TV.one TV.z rfl | exact TV.one ⟨_, _, _, _, x, _⟩ rfl) (by rfl) (fun W401 hg bn => ?_)
    replace b0 := b0.kept hg (Zn (by omega))
    replace b1 := b1.kept hg (Zn (by omega))
    replace b2 := b2.kept hg (Zn (by omega))
    replace b4 := b4.kept hg (Zn (by omega))
    replace b5 := b5.kept hg (Zn (by omega))
    replace hE := ext_grow hE hg (fun q hq => by cases hq; omega)
    clear b3 hg
    have b3 := bn
    clear bn
    (try dsimp only); refine hK _ _ ?_; clear hK K; (try simp only [Act.put, Zs, Zz, Zc])
    replace qz : r5 < W401.heap.size := b5.lt
    replace qz4 : r4 < W401.heap.size := b4.lt
    refine wpList_nil ?_
    go_wp2_with fail
    have hq : nodeV l x r (.slice (some ⟨r5, 0, none⟩) 2 2) = ⟨H, x.s, x.e, G, x, .slice (some ⟨r5, 0, none⟩) 2 2⟩ := by
      have h1 := HL.out
      have h2 := HR.out
      unfold nodeV gapV mx
      simp only [if_neg (show ¬ 0 < l.h by omega), if_neg (show ¬ 0 < r.h by omega)]
      rw [hH.out, hM.out, hG.out]
      rfl
    have b3_ : Blk W401 r3 28 (nodeV l x r (.slice (some ⟨r5, 0, none⟩) 2 2)).cs := by rw [hq]; exact b3
    exact bodyPost_ret (res_c rfl (GivesC.of b3_ rfl Try.underlying28 rfl Try.infoT)) rfl ⟨r5, rfl, b5, by omega, hE⟩
  · have hlb : decide (0 < l.h) = false := by simp; omega
    have hrb : decide (0 < r.h) = true := by simp; omega
    have HL : Hid (l.h ≤ 0) := c1
    have HR : Hid (¬ r.h ≤ 0) := c2
    clear c1 c2
    go_upto_region 2 with fail
    refine wp_region_lit ?_
    refine wpList_plain rfl (fun K hK => ?_); go_simp; (try dsimp only); refine hK _ _ ?_; clear hK K; (try simp only [Act.put, Zs, Zz, Zc])
    refine wpList_plain rfl (fun K hK => ?_); have zc := b0.cell 0; go_simp; clear zc; (try simp only [hlb]); (try dsimp only); refine hK _ _ ?_; clear hK K; (try simp only [Act.put, Zs, Zz, Zc])
    refine wpList_plain rfl (fun K hK => ?_); go_simp; (try simp (disch := omega) only [Yq, Yr]); (try simp only [hlb]); (try dsimp only); refine hK _ _ ?_; clear hK K; (try simp only [Act.put, Zs, Zz, Zc])
    refine wpList_nil ?_
    go_upto_region 5 with fail
    refine wp_region_lit ?_
    refine wpList_plain rfl (fun K hK => ?_); go_simp; (try dsimp only); refine hK _ _ ?_; clear hK K; (try simp only [Act.put, Zs, Zz, Zc])
    refine wpList_plain rfl (fun K hK => ?_); have zc := b2.cell 0; go_simp; clear zc; (try simp only [hrb]); (try dsimp only); refine hK _ _ ?_; clear hK K; (try simp only [Act.put, Zs, Zz, Zc])
    refine wpList_plain rfl (fun K hK => ?_); go_simp; (try simp (disch := omega) only [Yq, Yr]); (try simp only [hrb]); (try dsimp only); refine hK _ _ ?_; clear hK K; (try simp only [Act.put, Zs, Zz, Zc])
    refine wpList_nil ?_
    go_upto_region 6 with fail
    refine wp_region_lit ?_
    refine wpList_plain rfl (fun K hK => ?_); go_simp; (try dsimp only); refine hK _ _ ?_; clear hK K; (try simp only [Act.put, Zs, Zz, Zc])
    refine wpList_plain rfl (fun K hK => ?_); have zc := b2.cell 2; go_simp; clear zc; (try dsimp only); refine hK _ _ ?_; clear hK K; (try simp only [Act.put, Zs, Zz, Zc])
    refine wpList_plain rfl (fun K hK => ?_); go_simp; (try dsimp only); refine hK _ _ ?_; clear hK K; (try simp only [Act.put, Zs, Zz, Zc])
    refine wpList_plain rfl (fun K hK => ?_)
    have zc := b4.cell 2; have zf := b4.frozen 2; have zl := b4.lt; go_simp; clear zc zf zl
    (try dsimp only)
    refine name_k (fun W501 hW => ?_)
    have hg : W2.grownBy W501 (some r4) := by rw [hW]; exact grown_set _ _ _ _
    have bn := Blk.setW b4 hW
    replace b0 := b0.kept hg (Zn (by omega))
    replace b1 := b1.kept hg (Zn (by omega))
    replace b2 := b2.kept hg (Zn (by omega))
    replace b3 := b3.kept hg (Zn (by omega))
    replace b5 := b5.kept hg (Zn (by omega))
    replace hE := ext_grow hE hg (fun q hq => by cases hq; omega)
    clear b4 hg hW
    have b4 := bn
    clear bn
    replace qz : r5 < W501.heap.size := b5.lt
    replace qz4 : r4 < W501.heap.size := b4.lt
    (try dsimp only); refine hK _ _ ?_; clear hK K; (try simp only [Act.put, Zs, Zz, Zc])
    refine wpList_nil ?_
    have b4_ : Blk W501 r4 28 (TV.cs ⟨H, x.s, r.l, G, x, .slice (some ⟨r5, 0, none⟩) 2 2⟩) := b4
    clear b4
    have b4 := b4_
    clear b4_
    go_upto_region 7 with fail
    have x0 := b0
    have x1 := b1
    have x2 := b2
    have x3 := b3
    have x4 := b4
    have x5 := b5
    have hS : GrownX W501 [] W501 := GrownX.refl _ _
    refine wp_region_SE (GrownX W501 []) [0, 1, 2, 3, 4, 5, 6, 7, 8] (by kernel_rfl) ?_
    refine name_wd (fun W502 hW => ?_)
    have hx : Ext W501 W502 := by rw [hW]; exact ext_drew _
    clear hW
    replace hS := hS.ext hx
    replace b0 := b0.ext hx
    replace b1 := b1.ext hx
    replace b2 := b2.ext hx
    replace b3 := b3.ext hx
    replace b4 := b4.ext hx
    replace b5 := b5.ext hx
    replace hE := hE.trans hx
    clear hx
    replace qz : r5 < W502.heap.size := b5.lt
    replace qz4 : r4 < W502.heap.size := b4.lt
    refine wpAnyD_takeSL (i := 0) rfl (by kernel_rfl) (fun _ _ _ _ h => h) hS ?_
    apply Exists.intro
    refine ⟨Or.inl ⟨by rfl, ?_⟩, ?_⟩
    (focus (intro wz hz; go_simp; (try with_reducible rfl); done))
    (try simp only [Act.put, Zs, Zz, Zc])
    refine wpAnyD_takeSL (i := 1) rfl (by kernel_rfl) (fun _ _ _ _ h => h) hS ?_
    apply Exists.intro
    refine ⟨Or.inl ⟨by rfl, ?_⟩, ?_⟩
    (focus (intro wz hz; have zc := (GrownX.blk hz x4 (by first | decide | (simp; done) | (simp; omega) | omega)).cell 3; go_simp; (try with_reducible rfl); done))
    (try simp only [Act.put, Zs, Zz, Zc])
    refine wpAnyD_takeSL (i := 2) rfl (by kernel_rfl) (fun _ _ _ _ h => h) hS ?_
    apply Exists.intro
    refine ⟨Or.inl ⟨by rfl, ?_⟩, ?_⟩
    (focus (intro wz hz; go_simp; (try with_reducible rfl); done))
    (try simp only [Act.put, Zs, Zz, Zc])
    refine wpAnyD_takeSL (i := 3) rfl (by kernel_rfl) (fun _ _ _ _ h => h) hS ?_
    apply Exists.intro
    refine ⟨Or.inl ⟨by rfl, ?_⟩, ?_⟩
    (focus (intro wz hz; have zc := (GrownX.blk hz x2 (by first | decide | (simp; done) | (simp; omega) | omega)).cell 1; go_simp; (try with_reducible rfl); done))
    (try simp only [Act.put, Zs, Zz, Zc])
    refine wpAnyD_takeSL (i := 4) rfl (by kernel_rfl) (fun _ _ _ _ h => h) hS ?_
    apply Exists.intro
    refine ⟨Or.inl ⟨by rfl, ?_⟩, ?_⟩
    (focus (intro wz hz; (first | exact exec_ld 25 _ rfl rfl ((GrownX.blk hz x1 (by first | decide | (simp; done) | (simp; omega) | omega)).range) Try.underlying25 rfl (by exact Try.infoR))))
    (try simp only [Act.put, Zs, Zz, Zc])
    refine wpAnyD_oneL (i := 5) rfl (by kernel_rfl) (fun K hK => ?_)
    rw [if_pos (by rfl)]
    go_simp
    (go_at_call 30; refine (end_any x _ hv0.out).mono ?_; intro e W503 hpp; obtain ⟨rfl, hx⟩ := hpp)
    replace hS := hS.ext hx; (try dsimp only); refine hK.out _ _ (fun _ => hS) ?_; clear hK K; (try simp only [Act.put, Zs, Zz, Zc])
    replace b0 := b0.ext hx
    replace b1 := b1.ext hx
    replace b2 := b2.ext hx
    replace b3 := b3.ext hx
    replace b4 := b4.ext hx
    replace b5 := b5.ext hx
    replace hE := hE.trans hx
    clear hx
    replace qz : r5 < W503.heap.size := b5.lt
    replace qz4 : r4 < W503.heap.size := b4.lt
    refine wpAnyD_takeSL (i := 6) rfl (by kernel_rfl) (fun _ _ _ _ h => h) hS ?_
    apply Exists.intro
    refine ⟨Or.inl ⟨by rfl, ?_⟩, ?_⟩
    (focus (intro wz hz; go_simp; (try simp (disch := omega) only [Yq, Yr]); (try with_reducible rfl); done))
    (try simp only [Act.put, Zs, Zz, Zc])
    refine wpAnyD_takeSL (i := 7) rfl (by kernel_rfl) (fun _ _ _ _ h => h) hS ?_
    apply Exists.intro
    refine ⟨Or.inl ⟨by rfl, ?_⟩, ?_⟩
    (focus (intro wz hz; go_simp; (try with_reducible rfl); done))
    (try simp only [Act.put, Zs, Zz, Zc])
    refine wpAnyD_takeSL (i := 8) rfl (by kernel_rfl) (fun _ _ _ _ h => h) hS ?_
    apply Exists.intro
    refine ⟨Or.inl ⟨by rfl, ?_⟩, ?_⟩
    (focus (intro wz hz; go_simp; (try with_reducible rfl); done))
    (try simp only [Act.put, Zs, Zz, Zc])
    refine wpAnyD_oneL (i := 9) rfl (by kernel_rfl) (fun K hK => ?_)
    rw [if_pos (by rfl)]
    have zc := b4.cell 3; have zf := b4.frozen 3; have zl := b4.lt; go_simp; clear zc zf zl
    (try dsimp only)
    refine name_k (fun W504 hW => ?_)
    have hg : W503.grownBy W504 (some r4) := by rw [hW]; exact grown_set _ _ _ _
    have bn := Blk.setW b4 hW
    replace b0 := b0.kept hg (Zn (by omega))
    replace b1 := b1.kept hg (Zn (by omega))
    replace b2 := b2.kept hg (Zn (by omega))
    replace b3 := b3.kept hg (Zn (by omega))
    replace b5 := b5.kept hg (Zn (by omega))
    replace hE := ext_grow hE hg (fun q hq => by cases hq; omega)
    clear b4 hg hW
    have b4 := bn
    clear bn
    replace qz : r5 < W504.heap.size := b5.lt
    replace qz4 : r4 < W504.heap.size := b4.lt
    (try dsimp only); refine hK.out _ _ (fun h => absurd h (by decide)) ?_; clear hK K; (try simp only [Act.put, Zs, Zz, Zc])
    refine wpAnyD_done (by kernel_rfl) ?_ _
    clear hS x0 x1 x2 x3 x4 x5
    obtain ⟨G3, hG3⟩ : ∃ z : Int, z = (if G < IntKind.i64.wrap (r.f - x.e) then IntKind.i64.wrap (r.f - x.e) else G) := ⟨_, rfl⟩
    rw [← hG3] at b4
    try rw [← hG3]
    replace hG3 : Hid _ := hG3
    go_upto_region 8 with fail
    refine wp_region_lit ?_
    refine wpList_plain rfl (fun K hK => ?_); (first | (refine wp_ld 28 _ (b4.range) (by rfl) (by rfl) Try.underlying28 rfl (by exact Try.infoT) ?_)); (try dsimp only); refine hK _ _ ?_; clear hK K; (try simp only [Act.put, Zs, Zz, Zc])
    refine wpList_plain rfl (fun K hK => ?_)
    refine wp_store_box 28 _ _ (by rfl) b3 (by rfl) (by rfl) (by exact Try.infoT) (by first | exact RV.one _ | exact TV.one _ rfl | exact RV.one _ | exact TV.one TV.z rfl | exact TV.one ⟨_, _, _, _, x, _⟩ rfl) (by rfl) (fun W505 hg bn => ?_)
    replace b0 := b0.kept hg (Zn (by omega))
    replace b1 := b1.kept hg (Zn (by omega))
    replace b2 := b2.kept hg (Zn (by omega))
    replace b4 := b4.kept hg (Zn (by omega))
    replace b5 := b5.kept hg (Zn (by omega))
    replace hE := ext_grow hE hg (fun q hq => by cases hq; omega)
    clear b3 hg
    have b3 := bn
    clear bn
    (try dsimp only); refine hK _ _ ?_; clear hK K; (try simp only [Act.put, Zs, Zz, Zc])
    replace qz : r5 < W505.heap.size := b5.lt
    replace qz4 : r4 < W505.heap.size := b4.lt
    refine wpList_nil ?_
    go_wp2_with fail
    have hq : nodeV l x r (.slice (some ⟨r5, 0, none⟩) 2 2) = ⟨H, x.s, r.l, G3, x, .slice (some ⟨r5, 0, none⟩) 2 2⟩ := by
      have h1 := HL.out
      have h2 := HR.out
      unfold nodeV gapV mx
      simp only [if_neg (show ¬ 0 < l.h by omega), if_pos (show 0 < r.h by omega)]
      rw [hH.out, hM.out, hG3.out, hG.out]
      rfl
    have b3_ : Blk W505 r3 28 (nodeV l x r (.slice (some ⟨r5, 0, none⟩) 2 2)).cs := by rw [hq]; exact b3
    exact bodyPost_ret (res_c rfl (GivesC.of b3_ rfl Try.underlying28 rfl Try.infoT)) rfl ⟨r5, rfl, b5, by omega, hE⟩
  · have hlb : decide (0 < l.h) = true := by simp; omega
    have hrb : decide (0 < r.h) = false := by simp; omega
    have HL : Hid (¬ l.h ≤ 0) := c1
    have HR : Hid (r.h ≤ 0) := c2
    clear c1 c2
    go_upto_region 2 with fail
    refine wp_region_lit ?_
    refine wpList_plain rfl (fun K hK => ?_); go_simp; (try dsimp only); refine hK _ _ ?_; clear hK K; (try simp only [Act.put, Zs, Zz, Zc])
    refine wpList_plain rfl (fun K hK => ?_); have zc := b0.cell 0; go_simp; clear zc; (try simp only [hlb]); (try dsimp only); refine hK _ _ ?_; clear hK K; (try simp only [Act.put, Zs, Zz, Zc])
    refine wpList_plain rfl (fun K hK => ?_); go_simp; (try simp (disch := omega) only [Yq, Yr]); (try simp only [hlb]); (try dsimp only); refine hK _ _ ?_; clear hK K; (try simp only [Act.put, Zs, Zz, Zc])
    refine wpList_nil ?_
    go_upto_region 3 with fail
    refine wp_region_lit ?_
    refine wpList_plain rfl (fun K hK => ?_); go_simp; (try dsimp only); refine hK _ _ ?_; clear hK K; (try simp only [Act.put, Zs, Zz, Zc])
    refine wpList_plain rfl (fun K hK => ?_); have zc := b0.cell 1; go_simp; clear zc; (try dsimp only); refine hK _ _ ?_; clear hK K; (try simp only [Act.put, Zs, Zz, Zc])
    refine wpList_plain rfl (fun K hK => ?_); go_simp; (try dsimp only); refine hK _ _ ?_; clear hK K; (try simp only [Act.put, Zs, Zz, Zc])
    refine wpList_plain rfl (fun K hK => ?_)
    have zc := b4.cell 1; have zf := b4.frozen 1; have zl := b4.lt; go_simp; clear zc zf zl
    (try dsimp only)
    refine name_k (fun W601 hW => ?_)
    have hg : W2.grownBy W601 (some r4) := by rw [hW]; exact grown_set _ _ _ _
    have bn := Blk.setW b4 hW
    replace b0 := b0.kept hg (Zn (by omega))
    replace b1 := b1.kept hg (Zn (by omega))
    replace b2 := b2.kept hg (Zn (by omega))
    replace b3 := b3.kept hg (Zn (by omega))
    replace b5 := b5.kept hg (Zn (by omega))
    replace hE := ext_grow hE hg (fun q hq => by cases hq; omega)
    clear b4 hg hW
    have b4 := bn
    clear bn
    replace qz : r5 < W601.heap.size := b5.lt
    replace qz4 : r4 < W601.heap.size := b4.lt
    (try dsimp only); refine hK _ _ ?_; clear hK K; (try simp only [Act.put, Zs, Zz, Zc])
    refine wpList_nil ?_
    go_upto_region 4 with fail
    refine wp_region_lit ?_
    refine wpList_plain rfl (fun K hK => ?_); go_simp; (try dsimp only); refine hK _ _ ?_; clear hK K; (try simp only [Act.put, Zs, Zz, Zc])
    refine wpList_plain rfl (fun K hK => ?_); have zc := b4.cell 3; go_simp; clear zc; (try dsimp only); refine hK _ _ ?_; clear hK K; (try simp only [Act.put, Zs, Zz, Zc])
    refine wpList_plain rfl (fun K hK => ?_); go_simp; (try dsimp only); refine hK _ _ ?_; clear hK K; (try simp only [Act.put, Zs, Zz, Zc])
    refine wpList_plain rfl (fun K hK => ?_); have zc := b1.cell 0; go_simp; clear zc; (try dsimp only); refine hK _ _ ?_; clear hK K; (try simp only [Act.put, Zs, Zz, Zc])
    refine wpList_plain rfl (fun K hK => ?_); go_simp; (try dsimp only); refine hK _ _ ?_; clear hK K; (try simp only [Act.put, Zs, Zz, Zc])
    refine wpList_plain rfl (fun K hK => ?_); have zc := b0.cell 2; go_simp; clear zc; (try dsimp only); refine hK _ _ ?_; clear hK K; (try simp only [Act.put, Zs, Zz, Zc])
    refine wpList_plain rfl (fun K hK => ?_); go_simp; (try simp (disch := omega) only [Yq, Yr]); (try dsimp only); refine hK _ _ ?_; clear hK K; (try simp only [Act.put, Zs, Zz, Zc])
    iterate 2 (refine wpList_plain rfl (fun K hK => ?_); go_simp; (try dsimp only); refine hK _ _ ?_; clear hK K; (try simp only [Act.put, Zs, Zz, Zc]))
    refine wpList_plain rfl (fun K hK => ?_)
    have zc := b4.cell 3; have zf := b4.frozen 3; have zl := b4.lt; go_simp; clear zc zf zl
    (try dsimp only)
    refine name_k (fun W602 hW => ?_)
    have hg : W601.grownBy W602 (some r4) := by rw [hW]; exact grown_set _ _ _ _
    have bn := Blk.setW b4 hW
    replace b0 := b0.kept hg (Zn (by omega))
    replace b1 := b1.kept hg (Zn (by omega))
    replace b2 := b2.kept hg (Zn (by omega))
    replace b3 := b3.kept hg (Zn (by omega))
    replace b5 := b5.kept hg (Zn (by omega))
    replace hE := ext_grow hE hg (fun q hq => by cases hq; omega)
    clear b4 hg hW
    have b4 := bn
    clear bn
    replace qz : r5 < W602.heap.size := b5.lt
    replace qz4 : r4 < W602.heap.size := b4.lt
    (try dsimp only); refine hK _ _ ?_; clear hK K; (try simp only [Act.put, Zs, Zz, Zc])
    refine wpList_nil ?_
    obtain ⟨G2, hG2⟩ : ∃ z : Int, z = (if G < IntKind.i64.wrap (x.s - l.l) then IntKind.i64.wrap (x.s - l.l) else G) := ⟨_, rfl⟩
    rw [← hG2] at b4
    try rw [← hG2]
    replace hG2 : Hid _ := hG2
    have b4_ : Blk W602 r4 28 (TV.cs ⟨H, l.f, x.e, G2, x, .slice (some ⟨r5, 0, none⟩) 2 2⟩) := b4
    clear b4
    have b4 := b4_
    clear b4_
    go_upto_region 5 with fail
    refine wp_region_lit ?_
    refine wpList_plain rfl (fun K hK => ?_); go_simp; (try dsimp only); refine hK _ _ ?_; clear hK K; (try simp only [Act.put, Zs, Zz, Zc])
    refine wpList_plain rfl (fun K hK => ?_); have zc := b2.cell 0; go_simp; clear zc; (try simp only [hrb]); (try dsimp only); refine hK _ _ ?_; clear hK K; (try simp only [Act.put, Zs, Zz, Zc])
    refine wpList_plain rfl (fun K hK => ?_); go_simp; (try simp (disch := omega) only [Yq, Yr]); (try simp only [hrb]); (try dsimp only); refine hK _ _ ?_; clear hK K; (try simp only [Act.put, Zs, Zz, Zc])
    refine wpList_nil ?_
    go_upto_region 8 with fail
    refine wp_region_lit ?_
    refine wpList_plain rfl (fun K hK => ?_); (first | (refine wp_ld 28 _ (b4.range) (by rfl) (by rfl) Try.underlying28 rfl (by exact Try.infoT) ?_)); (try dsimp only); refine hK _ _ ?_; clear hK K; (try simp only [Act.put, Zs, Zz, Zc])
    refine wpList_plain rfl (fun K hK => ?_)
    refine wp_store_box 28 _ _ (by rfl) b3 (by rfl) (by rfl) (by exact Try.infoT) (by first | exact RV.one _ | exact TV.one _ rfl | exact RV.one _ | exact TV.one TV.z rfl | exact TV.one ⟨_, _, _, _, x, _⟩ rfl) (by rfl) (fun W603 hg bn => ?_)
    replace b0 := b0.kept hg (Zn (by omega))
    replace b1 := b1.kept hg (Zn (by omega))
    replace b2 := b2.kept hg (Zn (by omega))
    replace b4 := b4.kept hg (Zn (by omega))
    replace b5 := b5.kept hg (Zn (by omega))
    replace hE := ext_grow hE hg (fun q hq => by cases hq; omega)
    clear b3 hg
    have b3 := bn
    clear bn
    (try dsimp only); refine hK _ _ ?_; clear hK K; (try simp only [Act.put, Zs, Zz, Zc])
    replace qz : r5 < W603.heap.size := b5.lt
    replace qz4 : r4 < W603.heap.size := b4.lt
    refine wpList_nil ?_
    go_wp2_with fail
    have hq : nodeV l x r (.slice (some ⟨r5, 0, none⟩) 2 2) = ⟨H, l.f, x.e, G2, x, .slice (some ⟨r5, 0, none⟩) 2 2⟩ := by
      have h1 := HL.out
      have h2 := HR.out
      unfold nodeV gapV mx
      simp only [if_pos (show 0 < l.h by omega), if_neg (show ¬ 0 < r.h by omega)]
      rw [hH.out, hM.out, hG2.out, hG.out]
      rfl
    have b3_ : Blk W603 r3 28 (nodeV l x r (.slice (some ⟨r5, 0, none⟩) 2 2)).cs := by rw [hq]; exact b3
    exact bodyPost_ret (res_c rfl (GivesC.of b3_ rfl Try.underlying28 rfl Try.infoT)) rfl ⟨r5, rfl, b5, by omega, hE⟩
  · have hlb : decide (0 < l.h) = true := by simp; omega
    have hrb : decide (0 < r.h) = true := by simp; omega
    have HL : Hid (¬ l.h ≤ 0) := c1
    have HR : Hid (¬ r.h ≤ 0) := c2
    clear c1 c2
    go_upto_region 2 with fail
    refine wp_region_lit ?_
    refine wpList_plain rfl (fun K hK => ?_); go_simp; (try dsimp only); refine hK _ _ ?_; clear hK K; (try simp only [Act.put, Zs, Zz, Zc])
    refine wpList_plain rfl (fun K hK => ?_); have zc := b0.cell 0; go_simp; clear zc; (try simp only [hlb]); (try dsimp only); refine hK _ _ ?_; clear hK K; (try simp only [Act.put, Zs, Zz, Zc])
    refine wpList_plain rfl (fun K hK => ?_); go_simp; (try simp (disch := omega) only [Yq, Yr]); (try simp only [hlb]); (try dsimp only); refine hK _ _ ?_; clear hK K; (try simp only [Act.put, Zs, Zz, Zc])
    refine wpList_nil ?_
    go_upto_region 3 with fail
    refine wp_region_lit ?_
    refine wpList_plain rfl (fun K hK => ?_); go_simp; (try dsimp only); refine hK _ _ ?_; clear hK K; (try simp only [Act.put, Zs, Zz, Zc])
    refine wpList_plain rfl (fun K hK => ?_); have zc := b0.cell 1; go_simp; clear zc; (try dsimp only); refine hK _ _ ?_; clear hK K; (try simp only [Act.put, Zs, Zz, Zc])
    refine wpList_plain rfl (fun K hK => ?_); go_simp; (try dsimp only); refine hK _ _ ?_; clear hK K; (try simp only [Act.put, Zs, Zz, Zc])
    refine wpList_plain rfl (fun K hK => ?_)
    have zc := b4.cell 1; have zf := b4.frozen 1; have zl := b4.lt; go_simp; clear zc zf zl
    (try dsimp only)
    refine name_k (fun W701 hW => ?_)
    have hg : W2.grownBy W701 (some r4) := by rw [hW]; exact grown_set _ _ _ _
    have bn := Blk.setW b4 hW
    replace b0 := b0.kept hg (Zn (by omega))
    replace b1 := b1.kept hg (Zn (by omega))
    replace b2 := b2.kept hg (Zn (by omega))
    replace b3 := b3.kept hg (Zn (by omega))
    replace b5 := b5.kept hg (Zn (by omega))
    replace hE := ext_grow hE hg (fun q hq => by cases hq; omega)
    clear b4 hg hW
    have b4 := bn
    clear bn
    replace qz : r5 < W701.heap.size := b5.lt
    replace qz4 : r4 < W701.heap.size := b4.lt
    (try dsimp only); refine hK _ _ ?_; clear hK K; (try simp only [Act.put, Zs, Zz, Zc])
    refine wpList_nil ?_
    go_upto_region 4 with fail
    refine wp_region_lit ?_
    refine wpList_plain rfl (fun K hK => ?_); go_simp; (try dsimp only); refine hK _ _ ?_; clear hK K; (try simp only [Act.put, Zs, Zz, Zc])
    refine wpList_plain rfl (fun K hK => ?_); have zc := b4.cell 3; go_simp; clear zc; (try dsimp only); refine hK _ _ ?_; clear hK K; (try simp only [Act.put, Zs, Zz, Zc])
    refine wpList_plain rfl (fun K hK => ?_); go_simp; (try dsimp only); refine hK _ _ ?_; clear hK K; (try simp only [Act.put, Zs, Zz, Zc])
    refine wpList_plain rfl (fun K hK => ?_); have zc := b1.cell 0; go_simp; clear zc; (try dsimp only); refine hK _ _ ?_; clear hK K; (try simp only [Act.put, Zs, Zz, Zc])
    refine wpList_plain rfl (fun K hK => ?_); go_simp; (try dsimp only); refine hK _ _ ?_; clear hK K; (try simp only [Act.put, Zs, Zz, Zc])
    refine wpList_plain rfl (fun K hK => ?_); have zc := b0.cell 2; go_simp; clear zc; (try dsimp only); refine hK _ _ ?_; clear hK K; (try simp only [Act.put, Zs, Zz, Zc])
    refine wpList_plain rfl (fun K hK => ?_); go_simp; (try simp (disch := omega) only [Yq, Yr]); (try dsimp only); refine hK _ _ ?_; clear hK K; (try simp only [Act.put, Zs, Zz, Zc])
    iterate 2 (refine wpList_plain rfl (fun K hK => ?_); go_simp; (try dsimp only); refine hK _ _ ?_; clear hK K; (try simp only [Act.put, Zs, Zz, Zc]))
    refine wpList_plain rfl (fun K hK => ?_)
    have zc := b4.cell 3; have zf := b4.frozen 3; have zl := b4.lt; go_simp; clear zc zf zl
    (try dsimp only)
    refine name_k (fun W702 hW => ?_)
    have hg : W701.grownBy W702 (some r4) := by rw [hW]; exact grown_set _ _ _ _
    have bn := Blk.setW b4 hW
    replace b0 := b0.kept hg (Zn (by omega))
    replace b1 := b1.kept hg (Zn (by omega))
    replace b2 := b2.kept hg (Zn (by omega))
    replace b3 := b3.kept hg (Zn (by omega))
    replace b5 := b5.kept hg (Zn (by omega))
    replace hE := ext_grow hE hg (fun q hq => by cases hq; omega)
    clear b4 hg hW
    have b4 := bn
    clear bn
    replace qz : r5 < W702.heap.size := b5.lt
    replace qz4 : r4 < W702.heap.size := b4.lt
    (try dsimp only); refine hK _ _ ?_; clear hK K; (try simp only [Act.put, Zs, Zz, Zc])
    refine wpList_nil ?_
    obtain ⟨G2, hG2⟩ : ∃ z : Int, z = (if G < IntKind.i64.wrap (x.s - l.l) then IntKind.i64.wrap (x.s - l.l) else G) := ⟨_, rfl⟩
    rw [← hG2] at b4
    try rw [← hG2]
    replace hG2 : Hid _ := hG2
    have b4_ : Blk W702 r4 28 (TV.cs ⟨H, l.f, x.e, G2, x, .slice (some ⟨r5, 0, none⟩) 2 2⟩) := b4
    clear b4
    have b4 := b4_
    clear b4_
    go_upto_region 5 with fail
    refine wp_region_lit ?_
    refine wpList_plain rfl (fun K hK => ?_); go_simp; (try dsimp only); refine hK _ _ ?_; clear hK K; (try simp only [Act.put, Zs, Zz, Zc])
    refine wpList_plain rfl (fun K hK => ?_); have zc := b2.cell 0; go_simp; clear zc; (try simp only [hrb]); (try dsimp only); refine hK _ _ ?_; clear hK K; (try simp only [Act.put, Zs, Zz, Zc])
    refine wpList_plain rfl (fun K hK => ?_); go_simp; (try simp (disch := omega) only [Yq, Yr]); (try simp only [hrb]); (try dsimp only); refine hK _ _ ?_; clear hK K; (try simp only [Act.put, Zs, Zz, Zc])
    refine wpList_nil ?_
    go_upto_region 6 with fail
    refine wp_region_lit ?_
    refine wpList_plain rfl (fun K hK => ?_); go_simp; (try dsimp only); refine hK _ _ ?_; clear hK K; (try simp only [Act.put, Zs, Zz, Zc])
    refine wpList_plain rfl (fun K hK => ?_); have zc := b2.cell 2; go_simp; clear zc; (try dsimp only); refine hK _ _ ?_; clear hK K; (try simp only [Act.put, Zs, Zz, Zc])
    refine wpList_plain rfl (fun K hK => ?_); go_simp; (try dsimp only); refine hK _ _ ?_; clear hK K; (try simp only [Act.put, Zs, Zz, Zc])
    refine wpList_plain rfl (fun K hK => ?_)
    have zc := b4.cell 2; have zf := b4.frozen 2; have zl := b4.lt; go_simp; clear zc zf zl
    (try dsimp only)
    refine name_k (fun W703 hW => ?_)
    have hg : W702.grownBy W703 (some r4) := by rw [hW]; exact grown_set _ _ _ _
    have bn := Blk.setW b4 hW
    replace b0 := b0.kept hg (Zn (by omega))
    replace b1 := b1.kept hg (Zn (by omega))
    replace b2 := b2.kept hg (Zn (by omega))
    replace b3 := b3.kept hg (Zn (by omega))
    replace b5 := b5.kept hg (Zn (by omega))
    replace hE := ext_grow hE hg (fun q hq => by cases hq; omega)
    clear b4 hg hW
    have b4 := bn
    clear bn
    replace qz : r5 < W703.heap.size := b5.lt
    replace qz4 : r4 < W703.heap.size := b4.lt
    (try dsimp only); refine hK _ _ ?_; clear hK K; (try simp only [Act.put, Zs, Zz, Zc])
    refine wpList_nil ?_
    have b4_ : Blk W703 r4 28 (TV.cs ⟨H, l.f, r.l, G2, x, .slice (some ⟨r5, 0, none⟩) 2 2⟩) := b4
    clear b4
    have b4 := b4_
    clear b4_
    go_upto_region 7 with fail
    have x0 := b0
    have x1 := b1
    have x2 := b2
    have x3 := b3
    have x4 := b4
    have x5 := b5
    have hS : GrownX W703 [] W703 := GrownX.refl _ _
    refine wp_region_SE (GrownX W703 []) [0, 1, 2, 3, 4, 5, 6, 7, 8] (by kernel_rfl) ?_
    refine name_wd (fun W704 hW => ?_)
    have hx : Ext W703 W704 := by rw [hW]; exact ext_drew _
    clear hW
    replace hS := hS.ext hx
    replace b0 := b0.ext hx
    replace b1 := b1.ext hx
    replace b2 := b2.ext hx
    replace b3 := b3.ext hx
    replace b4 := b4.ext hx
    replace b5 := b5.ext hx
    replace hE := hE.trans hx
    clear hx
    replace qz : r5 < W704.heap.size := b5.lt
    replace qz4 : r4 < W704.heap.size := b4.lt
    refine wpAnyD_takeSL (i := 0) rfl (by kernel_rfl) (fun _ _ _ _ h => h) hS ?_
    apply Exists.intro
    refine ⟨Or.inl ⟨by rfl, ?_⟩, ?_⟩
    (focus (intro wz hz; go_simp; (try with_reducible rfl); done))
    (try simp only [Act.put, Zs, Zz, Zc])
    refine wpAnyD_takeSL (i := 1) rfl (by kernel_rfl) (fun _ _ _ _ h => h) hS ?_
    apply Exists.intro
    refine ⟨Or.inl ⟨by rfl, ?_⟩, ?_⟩
    (focus (intro wz hz; have zc := (GrownX.blk hz x4 (by first | decide | (simp; done) | (simp; omega) | omega)).cell 3; go_simp; (try with_reducible rfl); done))
    (try simp only [Act.put, Zs, Zz, Zc])
    refine wpAnyD_takeSL (i := 2) rfl (by kernel_rfl) (fun _ _ _ _ h => h) hS ?_
    apply Exists.intro
    refine ⟨Or.inl ⟨by rfl, ?_⟩, ?_⟩
    (focus (intro wz hz; go_simp; (try with_reducible rfl); done))
    (try simp only [Act.put, Zs, Zz, Zc])
    refine wpAnyD_takeSL (i := 3) rfl (by kernel_rfl) (fun _ _ _ _ h => h) hS ?_
    apply Exists.intro
    refine ⟨Or.inl ⟨by rfl, ?_⟩, ?_⟩
    (focus (intro wz hz; have zc := (GrownX.blk hz x2 (by first | decide | (simp; done) | (simp; omega) | omega)).cell 1; go_simp; (try with_reducible rfl); done))
    (try simp only [Act.put, Zs, Zz, Zc])
    refine wpAnyD_takeSL (i := 4) rfl (by kernel_rfl) (fun _ _ _ _ h => h) hS ?_
    apply Exists.intro
    refine ⟨Or.inl ⟨by rfl, ?_⟩, ?_⟩
    (focus (intro wz hz; (first | exact exec_ld 25 _ rfl rfl ((GrownX.blk hz x1 (by first | decide | (simp; done) | (simp; omega) | omega)).range) Try.underlying25 rfl (by exact Try.infoR))))
    (try simp only [Act.put, Zs, Zz, Zc])
    refine wpAnyD_oneL (i := 5) rfl (by kernel_rfl) (fun K hK => ?_)
    rw [if_pos (by rfl)]
    go_simp
    (go_at_call 30; refine (end_any x _ hv0.out).mono ?_; intro e W705 hpp; obtain ⟨rfl, hx⟩ := hpp)
    replace hS := hS.ext hx; (try dsimp only); refine hK.out _ _ (fun _ => hS) ?_; clear hK K; (try simp only [Act.put, Zs, Zz, Zc])
    replace b0 := b0.ext hx
    replace b1 := b1.ext hx
    replace b2 := b2.ext hx
    replace b3 := b3.ext hx
    replace b4 := b4.ext hx
    replace b5 := b5.ext hx
    replace hE := hE.trans hx
    clear hx
    replace qz : r5 < W705.heap.size := b5.lt
    replace qz4 : r4 < W705.heap.size := b4.lt
    refine wpAnyD_takeSL (i := 6) rfl (by kernel_rfl) (fun _ _ _ _ h => h) hS ?_
    apply Exists.intro
    refine ⟨Or.inl ⟨by rfl, ?_⟩, ?_⟩
    (focus (intro wz hz; go_simp; (try simp (disch := omega) only [Yq, Yr]); (try with_reducible rfl); done))
    (try simp only [Act.put, Zs, Zz, Zc])
    refine wpAnyD_takeSL (i := 7) rfl (by kernel_rfl) (fun _ _ _ _ h => h) hS ?_
    apply Exists.intro
    refine ⟨Or.inl ⟨by rfl, ?_⟩, ?_⟩
    (focus (intro wz hz; go_simp; (try with_reducible rfl); done))
    (try simp only [Act.put, Zs, Zz, Zc])
    refine wpAnyD_takeSL (i := 8) rfl (by kernel_rfl) (fun _ _ _ _ h => h) hS ?_
    apply Exists.intro
    refine ⟨Or.inl ⟨by rfl, ?_⟩, ?_⟩
    (focus (intro wz hz; go_simp; (try with_reducible rfl); done))
    (try simp only [Act.put, Zs, Zz, Zc])
    refine wpAnyD_oneL (i := 9) rfl (by kernel_rfl) (fun K hK => ?_)
    rw [if_pos (by rfl)]
    have zc := b4.cell 3; have zf := b4.frozen 3; have zl := b4.lt; go_simp; clear zc zf zl
    (try dsimp only)
    refine name_k (fun W706 hW => ?_)
    have hg : W705.grownBy W706 (some r4) := by rw [hW]; exact grown_set _ _ _ _
    have bn := Blk.setW b4 hW
    replace b0 := b0.kept hg (Zn (by omega))
    replace b1 := b1.kept hg (Zn (by omega))
    replace b2 := b2.kept hg (Zn (by omega))
    replace b3 := b3.kept hg (Zn (by omega))
    replace b5 := b5.kept hg (Zn (by omega))
    replace hE := ext_grow hE hg (fun q hq => by cases hq; omega)
    clear b4 hg hW
    have b4 := bn
    clear bn
    replace qz : r5 < W706.heap.size := b5.lt
    replace qz4 : r4 < W706.heap.size := b4.lt
    (try dsimp only); refine hK.out _ _ (fun h => absurd h (by decide)) ?_; clear hK K; (try simp only [Act.put, Zs, Zz, Zc])
    refine wpAnyD_done (by kernel_rfl) ?_ _
    clear hS x0 x1 x2 x3 x4 x5
    obtain ⟨G3, hG3⟩ : ∃ z : Int, z = (if G2 < IntKind.i64.wrap (r.f - x.e) then IntKind.i64.wrap (r.f - x.e) else G2) := ⟨_, rfl⟩
    rw [← hG3] at b4
    try rw [← hG3]
    replace hG3 : Hid _ := hG3
    go_upto_region 8 with fail
    refine wp_region_lit ?_
    refine wpList_plain rfl (fun K hK => ?_); (first | (refine wp_ld 28 _ (b4.range) (by rfl) (by rfl) Try.underlying28 rfl (by exact Try.infoT) ?_)); (try dsimp only); refine hK _ _ ?_; clear hK K; (try simp only [Act.put, Zs, Zz, Zc])
    refine wpList_plain rfl (fun K hK => ?_)
    refine wp_store_box 28 _ _ (by rfl) b3 (by rfl) (by rfl) (by exact Try.infoT) (by first | exact RV.one _ | exact TV.one _ rfl | exact RV.one _ | exact TV.one TV.z rfl | exact TV.one ⟨_, _, _, _, x, _⟩ rfl) (by rfl) (fun W707 hg bn => ?_)
    replace b0 := b0.kept hg (Zn (by omega))
    replace b1 := b1.kept hg (Zn (by omega))
    replace b2 := b2.kept hg (Zn (by omega))
    replace b4 := b4.kept hg (Zn (by omega))
    replace b5 := b5.kept hg (Zn (by omega))
    replace hE := ext_grow hE hg (fun q hq => by cases hq; omega)
    clear b3 hg
    have b3 := bn
    clear bn
    (try dsimp only); refine hK _ _ ?_; clear hK K; (try simp only [Act.put, Zs, Zz, Zc])
    replace qz : r5 < W707.heap.size := b5.lt
    replace qz4 : r4 < W707.heap.size := b4.lt
    refine wpList_nil ?_
    go_wp2_with fail
    have hq : nodeV l x r (.slice (some ⟨r5, 0, none⟩) 2 2) = ⟨H, l.f, r.l, G3, x, .slice (some ⟨r5, 0, none⟩) 2 2⟩ := by
      have h1 := HL.out
      have h2 := HR.out
      unfold nodeV gapV mx
      simp only [if_pos (show 0 < l.h by omega), if_pos (show 0 < r.h by omega)]
      rw [hH.out, hM.out, hG3.out, hG2.out, hG.out]
      rfl
    have b3_ : Blk W707 r3 28 (nodeV l x r (.slice (some ⟨r5, 0, none⟩) 2 2)).cs := by rw [hq]; exact b3
    exact bodyPost_ret (res_c rfl (GivesC.of b3_ rfl Try.underlying28 rfl Try.infoT)) rfl ⟨r5, rfl, b5, by omega, hE⟩

end Go.Proofs.Ytnbohogkfdeddaa
