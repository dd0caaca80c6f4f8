/- Rangetree: the closures of Check. -/
import Derived.Test.YtnbohogkfdeddaaRtq
set_option linter.unusedSimpArgs false
set_option linter.unusedVariables false
namespace Go.Proofs.Ytnbohogkfdeddaa
open Go.RowKit

def BT.rg : BT → RV
  | .E => RV.z
  | .N _ _ _ _ _ x _ => x
/-- A captured variable. -/
def SB (c : Nat) (ok : Bool) (w : World) : Prop := Blk w c 4 [.bool ok]
theorem SB.ext {c : Nat} {ok : Bool} {w w' : World} (h : SB c ok w) (hE : Ext w w') : SB c ok w' := Blk.ext h hE
set_option maxRecDepth 100000 in
set_option maxHeartbeats 4000000 in
theorem chk1_true (r1 : Nat) (A : Nat → Prop) (b : BT) (v : TV) (w : World) (hs : SB r1 true w) (ht : isT A w b v) (hb : b ≠ .E) :
    Calls Try.prog 43 #[.agg v.cs.toArray, .pointer (some ⟨r1, 0, none⟩)] w fun e w' => e = .returned (.tuple #[]) ∧ SB r1 (vldB v.x) w' ∧ GrownX w [r1] w' := by
  have hx : v.x = b.rg := by
    cases b with
    | E => exact absurd rfl hb
    | N h f l g a x b => exact ht.2.2.2.2.1
  have HX : Hid (v.x = b.rg) := hx
  have hcw : r1 < w.heap.size := Blk.lt hs
  have HS : Hid (SB r1 true w) := hs
  clear hx ht hb hs
  go_enter Try.func43, Try.ntmps43
  go_upto_region 1 with fail
  refine name_wX (fun W1 hW => ?_)
  have hE : Ext w W1 := by rw [hW]; repeat' (first | exact Ext.refl _ | apply Ext.al)
  have b0 : Blk W1 (w.heap.size) 28 v.cs := by rw [hW]; exact Blk.newAt rfl
  clear hW
  obtain ⟨r0, hr0⟩ : ∃ r, r = w.heap.size := ⟨_, rfl⟩
  rw [← hr0] at b0
  try rw [← hr0]
  have q0 : w.heap.size ≤ r0 := by omega
  clear hr0
  have qz : r0 < W1.heap.size := b0.lt
  have b1 : Blk W1 r1 4 [.bool true] := SB.ext HS.out hE
  have qz : r1 < W1.heap.size := b1.lt
  have hE0 : GrownX w [r1] W1 := GrownX.of_ext hE
  clear hE HS
  have hE := hE0
  clear hE0
  refine wp_region_lit ?_
  refine wpList_plain rfl (fun K hK => ?_); have zc := b1.cell 0; go_simp; clear zc; (try dsimp only); refine hK _ _ ?_; clear hK K; (try simp only [Act.put, Zs, Zz, Zc])
  refine wpList_plain rfl (fun K hK => ?_); go_simp; (try dsimp only); refine hK _ _ ?_; clear hK K; (try simp only [Act.put, Zs, Zz, Zc])
  refine wpList_step (fun K hK => ?_); rw [if_pos (by rfl)]; go_simp; (try dsimp only); refine hK _ _ ?_; clear hK K; (try simp only [Act.put, Zs, Zz, Zc])
  refine wpList_step (fun K hK => ?_); rw [if_pos (by rfl)]; (first | (refine wp_ld 25 _ (Blk.rgn b0) (by rfl) (by rfl) Try.underlying25 rfl (by exact Try.infoR) ?_)); (try dsimp only); refine hK _ _ ?_; clear hK K; (try simp only [Act.put, Zs, Zz, Zc])
  refine wpList_step (fun K hK => ?_); rw [if_pos (by rfl)]; go_simp; (go_at_call 29; refine (valid_any v.x _).mono ?_; intro e W2 hpp; obtain ⟨rfl, hx⟩ := hpp); (try dsimp only); refine hK _ _ ?_; clear hK K; (try simp only [Act.put, Zs, Zz, Zc])
  replace b0 := b0.ext hx
  replace b1 := b1.ext hx
  replace hE := hE.ext hx
  clear hx
  replace qz : r1 < W2.heap.size := b1.lt
  refine wpList_plain rfl (fun K hK => ?_); go_simp; (try dsimp only); refine hK _ _ ?_; clear hK K; (try simp only [Act.put, Zs, Zz, Zc])
  refine wpList_plain rfl (fun K hK => ?_)
  have zc := b1.cell 0; have zf := b1.frozen 0; have zl := b1.lt; go_simp; clear zc zf zl
  (try dsimp only)
  refine name_k (fun W3 hW => ?_)
  have hg : W2.grownBy W3 (some r1) := by rw [hW]; exact grown_set _ _ _ _
  have bn := Blk.setW b1 hW
  replace b0 := b0.kept hg (Zn (by omega))
  replace hE := GrownX.step hE hg (by first | decide | (simp; done) | (simp; omega) | omega)
  clear b1 hg hW
  have b1 := bn
  clear bn
  replace qz : r1 < W3.heap.size := b1.lt
  (try dsimp only); refine hK _ _ ?_; clear hK K; (try simp only [Act.put, Zs, Zz, Zc])
  refine wpList_nil ?_
  go_wp2_with fail
  go_end0
  exact ⟨rfl, b1, hE⟩

set_option maxRecDepth 100000 in
set_option maxHeartbeats 4000000 in
theorem chk1_false (r1 : Nat) (A : Nat → Prop) (b : BT) (v : TV) (w : World) (hs : SB r1 false w) (ht : isT A w b v) (hb : b ≠ .E) :
    Calls Try.prog 43 #[.agg v.cs.toArray, .pointer (some ⟨r1, 0, none⟩)] w fun e w' => e = .returned (.tuple #[]) ∧ SB r1 (false) w' ∧ GrownX w [r1] w' := by
  have hx : v.x = b.rg := by
    cases b with
    | E => exact absurd rfl hb
    | N h f l g a x b => exact ht.2.2.2.2.1
  have HX : Hid (v.x = b.rg) := hx
  have hcw : r1 < w.heap.size := Blk.lt hs
  have HS : Hid (SB r1 false w) := hs
  clear hx ht hb hs
  go_enter Try.func43, Try.ntmps43
  go_upto_region 1 with fail
  refine name_wX (fun W1 hW => ?_)
  have hE : Ext w W1 := by rw [hW]; repeat' (first | exact Ext.refl _ | apply Ext.al)
  have b0 : Blk W1 (w.heap.size) 28 v.cs := by rw [hW]; exact Blk.newAt rfl
  clear hW
  obtain ⟨r0, hr0⟩ : ∃ r, r = w.heap.size := ⟨_, rfl⟩
  rw [← hr0] at b0
  try rw [← hr0]
  have q0 : w.heap.size ≤ r0 := by omega
  clear hr0
  have qz : r0 < W1.heap.size := b0.lt
  have b1 : Blk W1 r1 4 [.bool false] := SB.ext HS.out hE
  have qz : r1 < W1.heap.size := b1.lt
  have hE0 : GrownX w [r1] W1 := GrownX.of_ext hE
  clear hE HS
  have hE := hE0
  clear hE0
  refine wp_region_lit ?_
  refine wpList_plain rfl (fun K hK => ?_); have zc := b1.cell 0; go_simp; clear zc; (try dsimp only); refine hK _ _ ?_; clear hK K; (try simp only [Act.put, Zs, Zz, Zc])
  refine wpList_plain rfl (fun K hK => ?_); go_simp; (try dsimp only); refine hK _ _ ?_; clear hK K; (try simp only [Act.put, Zs, Zz, Zc])
  iterate 3 (refine wpList_step (fun K hK => ?_); rw [if_neg (by exact Bool.false_ne_true)]; (try dsimp only); refine hK _ _ ?_; clear hK K; (try simp only [Act.put, Zs, Zz, Zc]))
  refine wpList_plain rfl (fun K hK => ?_); go_simp; (try dsimp only); refine hK _ _ ?_; clear hK K; (try simp only [Act.put, Zs, Zz, Zc])
  refine wpList_plain rfl (fun K hK => ?_)
  have zc := b1.cell 0; have zf := b1.frozen 0; have zl := b1.lt; go_simp; clear zc zf zl
  (try dsimp only)
  refine name_k (fun W2 hW => ?_)
  have hg : W1.grownBy W2 (some r1) := by rw [hW]; exact grown_set _ _ _ _
  have bn := Blk.setW b1 hW
  replace b0 := b0.kept hg (Zn (by omega))
  replace hE := GrownX.step hE hg (by first | decide | (simp; done) | (simp; omega) | omega)
  clear b1 hg hW
  have b1 := bn
  clear bn
  replace qz : r1 < W2.heap.size := b1.lt
  (try dsimp only); refine hK _ _ ?_; clear hK K; (try simp only [Act.put, Zs, Zz, Zc])
  refine wpList_nil ?_
  go_wp2_with fail
  go_end0
  exact ⟨rfl, b1, hE⟩

/-- The order's two captured variables. -/
def SO (c d : Nat) (s : Bool × Int) (w : World) : Prop := Blk w c 4 [.bool s.1] ∧ Blk w d 3 [.int .i64 s.2]
theorem SO.ext {c d : Nat} {s : Bool × Int} {w w' : World} (h : SO c d s w) (hE : Ext w w') : SO c d s w' := ⟨h.1.ext hE, h.2.ext hE⟩
set_option maxRecDepth 100000 in
set_option maxHeartbeats 4000000 in
theorem chk2_true (r1 r2 : Nat) (la : Int) (A : Nat → Prop) (b : BT) (v : TV) (w : World) (hs : SO r1 r2 (true, la) w) (hne : r1 ≠ r2) (ht : isT A w b v) (hb : b ≠ .E) (hv : vld b.rg) :
    Calls Try.prog 44 #[.agg v.cs.toArray, .pointer (some ⟨r1, 0, none⟩), .pointer (some ⟨r2, 0, none⟩)] w fun e w' => e = .returned (.tuple #[]) ∧ SO r1 r2 (decide (la ≤ v.x.s), v.x.e) w' ∧ GrownX w [r1, r2] w' := by
  have hx : v.x = b.rg := by
    cases b with
    | E => exact absurd rfl hb
    | N h f l g a x b => exact ht.2.2.2.2.1
  have hvx : vld v.x := by rw [hx]; exact hv
  have hcw : r1 < w.heap.size := hs.1.lt
  have hdw : r2 < w.heap.size := hs.2.lt
  have HS : Hid (SO r1 r2 (true, la) w) := hs
  clear hx ht hb hs hv
  go_enter Try.func44, Try.ntmps44
  go_upto_region 1 with fail
  refine name_wX (fun W1 hW => ?_)
  have hE : Ext w W1 := by rw [hW]; repeat' (first | exact Ext.refl _ | apply Ext.al)
  have b0 : Blk W1 (w.heap.size) 28 v.cs := by rw [hW]; exact Blk.newAt rfl
  clear hW
  obtain ⟨r0, hr0⟩ : ∃ r, r = w.heap.size := ⟨_, rfl⟩
  rw [← hr0] at b0
  try rw [← hr0]
  have q0 : w.heap.size ≤ r0 := by omega
  clear hr0
  have qz : r0 < W1.heap.size := b0.lt
  have b1 : Blk W1 r1 4 [.bool true] := (SO.ext HS.out hE).1
  have b2 : Blk W1 r2 3 [.int .i64 la] := (SO.ext HS.out hE).2
  have qz : r2 < W1.heap.size := b2.lt
  have hE0 : GrownX w [r1, r2] W1 := GrownX.of_ext hE
  clear hE HS
  have hE := hE0
  clear hE0
  refine wp_region_lit ?_
  refine wpList_plain rfl (fun K hK => ?_); have zc := b1.cell 0; go_simp; clear zc; (try dsimp only); refine hK _ _ ?_; clear hK K; (try simp only [Act.put, Zs, Zz, Zc])
  refine wpList_plain rfl (fun K hK => ?_); go_simp; (try dsimp only); refine hK _ _ ?_; clear hK K; (try simp only [Act.put, Zs, Zz, Zc])
  iterate 2 (refine wpList_step (fun K hK => ?_); rw [if_pos (by rfl)]; go_simp; (try dsimp only); refine hK _ _ ?_; clear hK K; (try simp only [Act.put, Zs, Zz, Zc]))
  refine wpList_step (fun K hK => ?_); rw [if_pos (by rfl)]; have zc := b0.cell 4; go_simp; clear zc; (try dsimp only); refine hK _ _ ?_; clear hK K; (try simp only [Act.put, Zs, Zz, Zc])
  refine wpList_step (fun K hK => ?_); rw [if_pos (by rfl)]; have zc := b2.cell 0; go_simp; clear zc; (try dsimp only); refine hK _ _ ?_; clear hK K; (try simp only [Act.put, Zs, Zz, Zc])
  refine wpList_step (fun K hK => ?_); rw [if_pos (by rfl)]; go_simp; (try simp (disch := omega) only [Yq, Yr]); (try dsimp only); refine hK _ _ ?_; clear hK K; (try simp only [Act.put, Zs, Zz, Zc])
  refine wpList_plain rfl (fun K hK => ?_); go_simp; (try dsimp only); refine hK _ _ ?_; clear hK K; (try simp only [Act.put, Zs, Zz, Zc])
  refine wpList_plain rfl (fun K hK => ?_)
  have zc := b1.cell 0; have zf := b1.frozen 0; have zl := b1.lt; go_simp; clear zc zf zl
  (try dsimp only)
  refine name_k (fun W2 hW => ?_)
  have hg : W1.grownBy W2 (some r1) := by rw [hW]; exact grown_set _ _ _ _
  have bn := Blk.setW b1 hW
  replace b0 := b0.kept hg (Zn (by omega))
  replace b2 := b2.kept hg (Zn (by omega))
  replace hE := GrownX.step hE hg (by first | decide | (simp; done) | (simp; omega) | omega)
  clear b1 hg hW
  have b1 := bn
  clear bn
  replace qz : r2 < W2.heap.size := b2.lt
  (try dsimp only); refine hK _ _ ?_; clear hK K; (try simp only [Act.put, Zs, Zz, Zc])
  refine wpList_nil ?_
  go_upto_region 2 with fail
  refine wp_region_lit ?_
  refine wpList_plain rfl (fun K hK => ?_); go_simp; (try dsimp only); refine hK _ _ ?_; clear hK K; (try simp only [Act.put, Zs, Zz, Zc])
  refine wpList_plain rfl (fun K hK => ?_); (first | (refine wp_ld 25 _ (Blk.rgn b0) (by rfl) (by rfl) Try.underlying25 rfl (by exact Try.infoR) ?_)); (try dsimp only); refine hK _ _ ?_; clear hK K; (try simp only [Act.put, Zs, Zz, Zc])
  refine wpList_plain rfl (fun K hK => ?_); go_simp; (go_at_call 30; refine (end_any v.x _ hvx).mono ?_; intro e W3 hpp; obtain ⟨rfl, hx⟩ := hpp); (try dsimp only); refine hK _ _ ?_; clear hK K; (try simp only [Act.put, Zs, Zz, Zc])
  replace b0 := b0.ext hx
  replace b1 := b1.ext hx
  replace b2 := b2.ext hx
  replace hE := hE.ext hx
  clear hx
  replace qz : r2 < W3.heap.size := b2.lt
  refine wpList_plain rfl (fun K hK => ?_)
  have zc := b2.cell 0; have zf := b2.frozen 0; have zl := b2.lt; go_simp; clear zc zf zl
  (try dsimp only)
  refine name_k (fun W4 hW => ?_)
  have hg : W3.grownBy W4 (some r2) := by rw [hW]; exact grown_set _ _ _ _
  have bn := Blk.setW b2 hW
  replace b0 := b0.kept hg (Zn (by omega))
  replace b1 := b1.kept hg (Zn (by omega))
  replace hE := GrownX.step hE hg (by first | decide | (simp; done) | (simp; omega) | omega)
  clear b2 hg hW
  have b2 := bn
  clear bn
  replace qz : r2 < W4.heap.size := b2.lt
  (try dsimp only); refine hK _ _ ?_; clear hK K; (try simp only [Act.put, Zs, Zz, Zc])
  refine wpList_nil ?_
  go_wp2_with fail
  go_end0
  exact ⟨rfl, ⟨b1, b2⟩, hE⟩

set_option maxRecDepth 100000 in
set_option maxHeartbeats 4000000 in
theorem chk2_false (r1 r2 : Nat) (la : Int) (A : Nat → Prop) (b : BT) (v : TV) (w : World) (hs : SO r1 r2 (false, la) w) (hne : r1 ≠ r2) (ht : isT A w b v) (hb : b ≠ .E) (hv : vld b.rg) :
    Calls Try.prog 44 #[.agg v.cs.toArray, .pointer (some ⟨r1, 0, none⟩), .pointer (some ⟨r2, 0, none⟩)] w fun e w' => e = .returned (.tuple #[]) ∧ SO r1 r2 (false, v.x.e) w' ∧ GrownX w [r1, r2] w' := by
  have hx : v.x = b.rg := by
    cases b with
    | E => exact absurd rfl hb
    | N h f l g a x b => exact ht.2.2.2.2.1
  have hvx : vld v.x := by rw [hx]; exact hv
  have hcw : r1 < w.heap.size := hs.1.lt
  have hdw : r2 < w.heap.size := hs.2.lt
  have HS : Hid (SO r1 r2 (false, la) w) := hs
  clear hx ht hb hs hv
  go_enter Try.func44, Try.ntmps44
  go_upto_region 1 with fail
  refine name_wX (fun W1 hW => ?_)
  have hE : Ext w W1 := by rw [hW]; repeat' (first | exact Ext.refl _ | apply Ext.al)
  have b0 : Blk W1 (w.heap.size) 28 v.cs := by rw [hW]; exact Blk.newAt rfl
  clear hW
  obtain ⟨r0, hr0⟩ : ∃ r, r = w.heap.size := ⟨_, rfl⟩
  rw [← hr0] at b0
  try rw [← hr0]
  have q0 : w.heap.size ≤ r0 := by omega
  clear hr0
  have qz : r0 < W1.heap.size := b0.lt
  have b1 : Blk W1 r1 4 [.bool false] := (SO.ext HS.out hE).1
  have b2 : Blk W1 r2 3 [.int .i64 la] := (SO.ext HS.out hE).2
  have qz : r2 < W1.heap.size := b2.lt
  have hE0 : GrownX w [r1, r2] W1 := GrownX.of_ext hE
  clear hE HS
  have hE := hE0
  clear hE0
  refine wp_region_lit ?_
  refine wpList_plain rfl (fun K hK => ?_); have zc := b1.cell 0; go_simp; clear zc; (try dsimp only); refine hK _ _ ?_; clear hK K; (try simp only [Act.put, Zs, Zz, Zc])
  refine wpList_plain rfl (fun K hK => ?_); go_simp; (try dsimp only); refine hK _ _ ?_; clear hK K; (try simp only [Act.put, Zs, Zz, Zc])
  iterate 5 (refine wpList_step (fun K hK => ?_); rw [if_neg (by exact Bool.false_ne_true)]; (try dsimp only); refine hK _ _ ?_; clear hK K; (try simp only [Act.put, Zs, Zz, Zc]))
  refine wpList_plain rfl (fun K hK => ?_); go_simp; (try dsimp only); refine hK _ _ ?_; clear hK K; (try simp only [Act.put, Zs, Zz, Zc])
  refine wpList_plain rfl (fun K hK => ?_)
  have zc := b1.cell 0; have zf := b1.frozen 0; have zl := b1.lt; go_simp; clear zc zf zl
  (try dsimp only)
  refine name_k (fun W2 hW => ?_)
  have hg : W1.grownBy W2 (some r1) := by rw [hW]; exact grown_set _ _ _ _
  have bn := Blk.setW b1 hW
  replace b0 := b0.kept hg (Zn (by omega))
  replace b2 := b2.kept hg (Zn (by omega))
  replace hE := GrownX.step hE hg (by first | decide | (simp; done) | (simp; omega) | omega)
  clear b1 hg hW
  have b1 := bn
  clear bn
  replace qz : r2 < W2.heap.size := b2.lt
  (try dsimp only); refine hK _ _ ?_; clear hK K; (try simp only [Act.put, Zs, Zz, Zc])
  refine wpList_nil ?_
  go_upto_region 2 with fail
  refine wp_region_lit ?_
  refine wpList_plain rfl (fun K hK => ?_); go_simp; (try dsimp only); refine hK _ _ ?_; clear hK K; (try simp only [Act.put, Zs, Zz, Zc])
  refine wpList_plain rfl (fun K hK => ?_); (first | (refine wp_ld 25 _ (Blk.rgn b0) (by rfl) (by rfl) Try.underlying25 rfl (by exact Try.infoR) ?_)); (try dsimp only); refine hK _ _ ?_; clear hK K; (try simp only [Act.put, Zs, Zz, Zc])
  refine wpList_plain rfl (fun K hK => ?_); go_simp; (go_at_call 30; refine (end_any v.x _ hvx).mono ?_; intro e W3 hpp; obtain ⟨rfl, hx⟩ := hpp); (try dsimp only); refine hK _ _ ?_; clear hK K; (try simp only [Act.put, Zs, Zz, Zc])
  replace b0 := b0.ext hx
  replace b1 := b1.ext hx
  replace b2 := b2.ext hx
  replace hE := hE.ext hx
  clear hx
  replace qz : r2 < W3.heap.size := b2.lt
  refine wpList_plain rfl (fun K hK => ?_)
  have zc := b2.cell 0; have zf := b2.frozen 0; have zl := b2.lt; go_simp; clear zc zf zl
  (try dsimp only)
  refine name_k (fun W4 hW => ?_)
  have hg : W3.grownBy W4 (some r2) := by rw [hW]; exact grown_set _ _ _ _
  have bn := Blk.setW b2 hW
  replace b0 := b0.kept hg (Zn (by omega))
  replace b1 := b1.kept hg (Zn (by omega))
  replace hE := GrownX.step hE hg (by first | decide | (simp; done) | (simp; omega) | omega)
  clear b2 hg hW
  have b2 := bn
  clear bn
  replace qz : r2 < W4.heap.size := b2.lt
  (try dsimp only); refine hK _ _ ?_; clear hK K; (try simp only [Act.put, Zs, Zz, Zc])
  refine wpList_nil ?_
  go_wp2_with fail
  go_end0
  exact ⟨rfl, ⟨b1, b2⟩, hE⟩


end Go.Proofs.Ytnbohogkfdeddaa
