/- Device: Complete of nothing, Crash. -/
import Derived.Test.YtohkigillmlinaaDvd
set_option linter.unusedSimpArgs false
set_option linter.unusedVariables false
namespace Go.Proofs.Ytohkigillmlinaa
open Go.RowKit

def pkR (l : List Bool) : List (List D) := l.map fun b => [.s (.bool b)]
theorem pkR_len (l : List Bool) : (pkR l).length = l.length := by simp [pkR]
/-- A block that a crash may keep. -/
def kpV (picks : List Bool) (s : List (List Int) × Nat) (b : Int) (p : List Int) : List (List Int) × Nat := (if picks.getD s.2 false then s.1.set b.toNat p else s.1, s.2 + 1)
def cr1 (d : DV) (picks : List Bool) (i : Nat) : List (List Int) × Nat := (d.ch.take i).foldl (fun s c => kpV picks s c.b c.p) (d.bs, 0)
def cr2 (d : DV) (picks : List Bool) (i : Nat) : List (List Int) × Nat := (d.q.take i).foldl (fun s x => if x.k = 2 then kpV picks s x.b x.p else s) (cr1 d picks d.ch.length)
def crV (d : DV) (picks : List Bool) : DV := { d with bs := (cr2 d picks d.q.length).1, ch := [], q := [] }
theorem kpV_len (picks : List Bool) (s : List (List Int) × Nat) (b : Int) (p : List Int) : (kpV picks s b p).1.length = s.1.length := by
  unfold kpV
  dsimp only
  split
  · rw [List.length_set]
  · rfl
attribute [local irreducible] Wp WL WO fin finB rnd Exit.then Exit.inBlock G GD LT Rd Fn FnB FvB Iter
attribute [local go_sem] DV.row QV.row CV.row
theorem cmpE_F (d : DV) (h : d.ok) (ok : Bool) (hq : d.q = []) : Fn Try.prog 9 [.st d.row, .s (.int .i64 (-1)), .s (.bool ok)] (· = .tup [.st zDev, .st zRq, .s (.int .i64 2)]) := by
  have hc := dcheck_F _ h
  refine Fn.of Try.func9 Try.ntmps9 rfl (by kernel_rfl) (fun w o => ?_)
  (repeat (first | refine GD.ctW (hc) ?_ | refine G.cW (hc) ?_ | refine G.cgW (hc) ?_ | refine GD.cW (hc) ?_ | refine GD.cgW (hc) ?_ | ((repeat (revert hK; revert K)); refine wkG ?_; repeat intro K hK) | refine wkg ?_))
  refine G.fin3 (by first | exact rvOk.tmp | exact rvOk.cellS | exact rvOk.cell1 | fail) (by first | exact rvOk.tmp | exact rvOk.cellS | exact rvOk.cell1 | fail) (by first | exact rvOk.tmp | exact rvOk.cellS | exact rvOk.cell1 | fail) rfl ?_
  rfl
def kpB (dep nxt : Int) (picks : List Bool) (s : List (List Int) × Nat) : Bs := [(100, some (3, [.d (.s (.int .i64 (s.2 : Int)))])), (102, some (23, [.d (.l (pkR picks))])), (104, some (33, [.d (.s (.int .i64 dep)), .d (.s (.int .i64 nxt)), .o 106 (bsR s.1).length, .any, .any])), (106, some (25, (bsR s.1).flatten.map .d))]
theorem keep_F (dep nxt : Int) (picks : List Bool) (s : List (List Int) × Nat) (b : Int) (p : List Int) (hb : 0 ≤ b ∧ b < s.1.length) (hp : p.length ≤ 1000) (hn : s.2 ≤ 1000) : FnB Try.prog CT 24 [.d (.s (.int .i64 b)), .d (byD p), .p 100 0, .p 102 0, .p 104 0] (kpB dep nxt picks s) .any (kpB dep nxt picks (kpV picks s b p)) := by
  obtain ⟨bs, n⟩ := s
  dsimp only at hb hn
  have hl : ((pkR picks).length : Int) = picks.length := by rw [pkR_len]
  have hbc := bclone_F p hp
  have hjb : b.toNat < (bsR bs).length := by rw [bsR_len]; omega
  have hjb2 : b = (b.toNat : Int) := by omega
  have hbr := bsR_row bs
  have hbg := bsR_get bs b.toNat (by omega)
  by_cases h : picks.getD n false = true
  · have hlt : n < picks.length := by
      rcases Nat.lt_or_ge n picks.length with h1 | h1
      · exact h1
      · rw [List.getD_eq_getElem?_getD, List.getElem?_eq_none h1] at h; cases h
    have hd : decide ((n : Int) < ((pkR picks).length : Int)) = true := by rw [hl]; simp; omega
    have hr : (pkR picks)[n]? = some [.s (.bool true)] := by
      rw [List.getD_eq_getElem?_getD, List.getElem?_eq_getElem hlt] at h
      simp only [Option.getD_some] at h
      simp [pkR, hlt, h]
    have e : kpV picks (bs, n) b p = (bs.set b.toNat p, n + 1) := by unfold kpV; dsimp only; rw [if_pos h]
    rw [e]
    unfold kpB
    dsimp only
    rw [bsR_set, List.length_set]
    refine FnB.of (ks := [100, 102, 104, 106]) CT.c Try.func24 Try.ntmps24 rfl (by kernel_rfl) (fun w o m E0 hCX => ?_) (hks := kns_eq (l := [100, 102, 104, 106]) rfl (by decide)); (try dsimp only [Is])
    (repeat (first | refine GD.ctW (hbc) ?_ | refine G.cW (hbc) ?_ | refine G.cgW (hbc) ?_ | refine GD.cW (hbc) ?_ | refine GD.cgW (hbc) ?_ | (show G _ _ _ _ (WL _ _ _ _ (⟨some _, .indexAddr _ _ _, _, _, _, none⟩ :: _)); refine G.w1 ?_ (by first | exact LT.rd (Rd.ixv n (hr)) rfl | fail)) | (show G _ _ _ _ (WL _ _ _ _ (⟨some _, .indexAddr _ _ _, _, _, _, some _⟩ :: _)); refine G.gC ?_ (by first | (refine gi ?_; intros; exact LT.rd (Rd.ixv n (hr)) rfl) | fail) rfl rfl) | (show GD _ _ _ _ _ _ _ _ _ _ (⟨some _, .indexAddr _ _ _, _, _, _, none⟩ :: _); refine GD.w1 ?_ (by first | exact LT.rd (Rd.ixv n (hr)) rfl | fail)) | (show GD _ _ _ _ _ _ _ _ _ _ (⟨some _, .indexAddr _ _ _, _, _, _, some _⟩ :: _); refine GD.gC ?_ (by first | (refine gi ?_; intros; exact LT.rd (Rd.ixv n (hr)) rfl) | fail) rfl rfl) | (show G _ _ _ _ (WL _ _ _ _ (⟨some _, .indexAddr _ _ _, _, _, _, none⟩ :: _)); refine G.w1 ?_ (by first | exact LT.rd (Rd.ixov b.toNat (hjb)) rfl | fail)) | (show G _ _ _ _ (WL _ _ _ _ (⟨some _, .indexAddr _ _ _, _, _, _, some _⟩ :: _)); refine G.gC ?_ (by first | (refine gi ?_; intros; exact LT.rd (Rd.ixov b.toNat (hjb)) rfl) | fail) rfl rfl) | (show GD _ _ _ _ _ _ _ _ _ _ (⟨some _, .indexAddr _ _ _, _, _, _, none⟩ :: _); refine GD.w1 ?_ (by first | exact LT.rd (Rd.ixov b.toNat (hjb)) rfl | fail)) | (show GD _ _ _ _ _ _ _ _ _ _ (⟨some _, .indexAddr _ _ _, _, _, _, some _⟩ :: _); refine GD.gC ?_ (by first | (refine gi ?_; intros; exact LT.rd (Rd.ixov b.toNat (hjb)) rfl) | fail) rfl rfl) | (show G _ _ _ _ (WL _ _ _ _ (⟨none, .store _ _ _, _, _, _, none⟩ :: _)); refine G.w0 ?_ (by first | exact LT.stF b.toNat 0 (hbg) (hbr) | fail)) | (show GD _ _ _ _ _ _ _ _ _ _ (⟨none, .store _ _ _, _, _, _, none⟩ :: _); refine GD.w0 ?_ (by first | exact LT.stF b.toNat 0 (hbg) (hbr) | fail)) | ((repeat (revert hK; revert K)); refine wkG ?_; repeat intro K hK) | refine wkg ?_))
    (try refine G.finBn ?_); refine G.finB0 rfl (by first | ((repeat (first | exact trivial | refine ⟨.inl rfl, ?_⟩ | refine ⟨.inr rfl, ?_⟩)); done) | fail) (by first | exact Is.cl (hcl _) | exact Is.cl6 (hcl _) | ((repeat (first | exact trivial | refine ⟨ClE.some rfl, ?_⟩ | (with_reducible refine ClB.d ?_) | (with_reducible refine ⟨ClE.some (numsL_d _ _), ?_⟩) | refine ⟨ClE.none, ?_⟩)); done) | fail) (by rfl)
  · have e : kpV picks (bs, n) b p = (bs, n + 1) := by unfold kpV; dsimp only; rw [if_neg h]
    rw [e]
    by_cases hlt : n < picks.length
    · have hd : decide ((n : Int) < ((pkR picks).length : Int)) = true := by rw [hl]; simp; omega
      have hr : (pkR picks)[n]? = some [.s (.bool false)] := by
        rw [List.getD_eq_getElem?_getD, List.getElem?_eq_getElem hlt] at h
        simp only [Option.getD_some, Bool.not_eq_true] at h
        simp [pkR, hlt, h]
      unfold kpB
      refine FnB.of (ks := [100, 102, 104, 106]) CT.c Try.func24 Try.ntmps24 rfl (by kernel_rfl) (fun w o m E0 hCX => ?_) (hks := kns_eq (l := [100, 102, 104, 106]) rfl (by decide)); (try dsimp only [Is])
      (repeat (first | refine GD.ctW (hbc) ?_ | refine G.cW (hbc) ?_ | refine G.cgW (hbc) ?_ | refine GD.cW (hbc) ?_ | refine GD.cgW (hbc) ?_ | (show G _ _ _ _ (WL _ _ _ _ (⟨some _, .indexAddr _ _ _, _, _, _, none⟩ :: _)); refine G.w1 ?_ (by first | exact LT.rd (Rd.ixv n (hr)) rfl | fail)) | (show G _ _ _ _ (WL _ _ _ _ (⟨some _, .indexAddr _ _ _, _, _, _, some _⟩ :: _)); refine G.gC ?_ (by first | (refine gi ?_; intros; exact LT.rd (Rd.ixv n (hr)) rfl) | fail) rfl rfl) | (show GD _ _ _ _ _ _ _ _ _ _ (⟨some _, .indexAddr _ _ _, _, _, _, none⟩ :: _); refine GD.w1 ?_ (by first | exact LT.rd (Rd.ixv n (hr)) rfl | fail)) | (show GD _ _ _ _ _ _ _ _ _ _ (⟨some _, .indexAddr _ _ _, _, _, _, some _⟩ :: _); refine GD.gC ?_ (by first | (refine gi ?_; intros; exact LT.rd (Rd.ixv n (hr)) rfl) | fail) rfl rfl) | (show G _ _ _ _ (WL _ _ _ _ (⟨some _, .indexAddr _ _ _, _, _, _, none⟩ :: _)); refine G.w1 ?_ (by first | exact LT.rd (Rd.ixov b.toNat (hjb)) rfl | fail)) | (show G _ _ _ _ (WL _ _ _ _ (⟨some _, .indexAddr _ _ _, _, _, _, some _⟩ :: _)); refine G.gC ?_ (by first | (refine gi ?_; intros; exact LT.rd (Rd.ixov b.toNat (hjb)) rfl) | fail) rfl rfl) | (show GD _ _ _ _ _ _ _ _ _ _ (⟨some _, .indexAddr _ _ _, _, _, _, none⟩ :: _); refine GD.w1 ?_ (by first | exact LT.rd (Rd.ixov b.toNat (hjb)) rfl | fail)) | (show GD _ _ _ _ _ _ _ _ _ _ (⟨some _, .indexAddr _ _ _, _, _, _, some _⟩ :: _); refine GD.gC ?_ (by first | (refine gi ?_; intros; exact LT.rd (Rd.ixov b.toNat (hjb)) rfl) | fail) rfl rfl) | ((repeat (revert hK; revert K)); refine wkG ?_; repeat intro K hK) | refine wkg ?_))
      (try refine G.finBn ?_); refine G.finB0 rfl (by first | ((repeat (first | exact trivial | refine ⟨.inl rfl, ?_⟩ | refine ⟨.inr rfl, ?_⟩)); done) | fail) (by first | exact Is.cl (hcl _) | exact Is.cl6 (hcl _) | ((repeat (first | exact trivial | refine ⟨ClE.some rfl, ?_⟩ | (with_reducible refine ClB.d ?_) | (with_reducible refine ⟨ClE.some (numsL_d _ _), ?_⟩) | refine ⟨ClE.none, ?_⟩)); done) | fail) (by rfl)
    · have hd : decide ((n : Int) < ((pkR picks).length : Int)) = false := by rw [hl]; simp; omega
      unfold kpB
      refine FnB.of (ks := [100, 102, 104, 106]) CT.c Try.func24 Try.ntmps24 rfl (by kernel_rfl) (fun w o m E0 hCX => ?_) (hks := kns_eq (l := [100, 102, 104, 106]) rfl (by decide)); (try dsimp only [Is])
      (repeat (first | refine GD.ctW (hbc) ?_ | refine G.cW (hbc) ?_ | refine G.cgW (hbc) ?_ | refine GD.cW (hbc) ?_ | refine GD.cgW (hbc) ?_ | (show G _ _ _ _ (WL _ _ _ _ (⟨some _, .indexAddr _ _ _, _, _, _, none⟩ :: _)); refine G.w1 ?_ (by first | exact LT.rd (Rd.ixov b.toNat (hjb)) rfl | fail)) | (show G _ _ _ _ (WL _ _ _ _ (⟨some _, .indexAddr _ _ _, _, _, _, some _⟩ :: _)); refine G.gC ?_ (by first | (refine gi ?_; intros; exact LT.rd (Rd.ixov b.toNat (hjb)) rfl) | fail) rfl rfl) | (show GD _ _ _ _ _ _ _ _ _ _ (⟨some _, .indexAddr _ _ _, _, _, _, none⟩ :: _); refine GD.w1 ?_ (by first | exact LT.rd (Rd.ixov b.toNat (hjb)) rfl | fail)) | (show GD _ _ _ _ _ _ _ _ _ _ (⟨some _, .indexAddr _ _ _, _, _, _, some _⟩ :: _); refine GD.gC ?_ (by first | (refine gi ?_; intros; exact LT.rd (Rd.ixov b.toNat (hjb)) rfl) | fail) rfl rfl) | ((repeat (revert hK; revert K)); refine wkG ?_; repeat intro K hK) | refine wkg ?_))
      (try refine G.finBn ?_); refine G.finB0 rfl (by first | ((repeat (first | exact trivial | refine ⟨.inl rfl, ?_⟩ | refine ⟨.inr rfl, ?_⟩)); done) | fail) (by first | exact Is.cl (hcl _) | exact Is.cl6 (hcl _) | ((repeat (first | exact trivial | refine ⟨ClE.some rfl, ?_⟩ | (with_reducible refine ClB.d ?_) | (with_reducible refine ⟨ClE.some (numsL_d _ _), ?_⟩) | refine ⟨ClE.none, ?_⟩)); done) | fail) (by rfl)
theorem cr1_s (d : DV) (picks : List Bool) (i : Nat) (h : i < d.ch.length) : cr1 d picks (i + 1) = kpV picks (cr1 d picks i) d.ch[i].b d.ch[i].p := by
  unfold cr1
  rw [List.take_succ_eq_append_getElem h, List.foldl_append]
  rfl
theorem cr2_s (d : DV) (picks : List Bool) (i : Nat) (h : i < d.q.length) : cr2 d picks (i + 1) = if d.q[i].k = 2 then kpV picks (cr2 d picks i) d.q[i].b d.q[i].p else cr2 d picks i := by
  unfold cr2
  rw [List.take_succ_eq_append_getElem h, List.foldl_append]
  rfl
theorem cr1_b (d : DV) (picks : List Bool) : ∀ i, i ≤ d.ch.length → (cr1 d picks i).1.length = d.bs.length ∧ (cr1 d picks i).2 ≤ i
  | 0, _ => ⟨rfl, Nat.le_refl _⟩
  | i + 1, h => by
    have ih := cr1_b d picks i (by omega)
    rw [cr1_s d picks i (by omega), kpV_len]
    refine ⟨ih.1, ?_⟩
    show (cr1 d picks i).2 + 1 ≤ _
    omega
theorem cr2_b (d : DV) (picks : List Bool) : ∀ i, i ≤ d.q.length → (cr2 d picks i).1.length = d.bs.length ∧ (cr2 d picks i).2 ≤ d.ch.length + i
  | 0, _ => cr1_b d picks d.ch.length (Nat.le_refl _)
  | i + 1, h => by
    have ih := cr2_b d picks i (by omega)
    rw [cr2_s d picks i (by omega)]
    split
    · rw [kpV_len]
      refine ⟨ih.1, ?_⟩
      show (cr2 d picks i).2 + 1 ≤ _
      omega
    · exact ⟨ih.1, by omega⟩
def crB (d : DV) (picks : List Bool) (s : List (List Int) × Nat) : Bs := kpB d.dep d.nxt picks s ++ [(0, some (33, d.row.map .d)), (2, some (33, zDev.map .d))]
def ci1 (d : DV) (picks : List Bool) (i : Nat) : List (Nat × AV) × Bs := ([(26, .d (.s (.int .i64 (i : Int)))), (25, .d (.s (.int .i64 (chR d.ch).length))), (24, .d (.l (chR d.ch))), (9, .fn 24 [.p 100 0, .p 102 0, .p 104 0]), (7, .p 104 0), (4, .p 2 0), (2, .p 0 0)], crB d picks (cr1 d picks i))
def ci2 (d : DV) (picks : List Bool) (i : Nat) : List (Nat × AV) × Bs := ([(40, .d (.s (.int .i64 (i : Int)))), (39, .d (.s (.int .i64 (qR d.q).length))), (38, .d (.l (qR d.q))), (9, .fn 24 [.p 100 0, .p 102 0, .p 104 0]), (7, .p 104 0), (4, .p 2 0), (2, .p 0 0)], crB d picks (cr2 d picks i))
set_option maxHeartbeats 2000000 in
theorem crash_F (d : DV) (h : d.ok) (picks : List Bool) : Fn Try.prog 10 [.st d.row, .l (pkR picks)] (· = .tup [.st (crV d picks).row, .s (.int .i64 0)]) := by
  have hc := dcheck_F _ h
  have hcl := FnB.v0 (clone_O _ h.sm)
  have hl2 : ((chR d.ch).length : Int) = d.ch.length := by rw [chR_len]
  have hl3 : ((qR d.q).length : Int) = d.q.length := by rw [qR_len]
  refine Fn.of Try.func10 Try.ntmps10 rfl (by kernel_rfl) (fun w o => ?_)
  (repeat (first | refine GD.ctW (hc) ?_ | refine G.cW (hc) ?_ | refine G.cgW (hc) ?_ | refine GD.cW (hc) ?_ | refine GD.cgW (hc) ?_ | (show G _ _ _ _ (WL _ _ _ _ (⟨some _, .call _, _, _, _, none⟩ :: _)); refine G.cvW (hcl) ?_) | ((repeat (revert hK; revert K)); refine wkG ?_; repeat intro K hK) | refine wkg ?_))
  refine G.anyAt 6 3 ?_
  refine G.anyAt 6 4 ?_
  refine G.loop (ci1 d picks) (fun i => i ≤ d.ch.length) (fun i => d.ch.length - i) ?_ ?_
  · exact G.at 0 [(100, 8), (102, 1), (104, 6), (106, 101), (0, 0), (2, 2)] (Nat.zero_le _) (by repeat (first | exact trivial | refine ⟨⟨rfl, rfl⟩, ?_⟩)) (by repeat (first | exact trivial | refine ⟨⟨rfl, rfl, rfl⟩, ?_⟩ | refine ⟨⟨rfl, by rw [renL_d]; rfl, kbL_d _ _⟩, ?_⟩ | refine ⟨rfl, ?_⟩)) (by decide)
  · intro i hi
    dsimp only [ci1]
    by_cases hil : i < d.ch.length
    · have hr := chR_get d.ch i hil
      have hb := cr1_b d picks i hi
      have hp0 := h.ch_pos i hil
      have hcc := h.ch i hil
      have hnc := h.nc
      have hk := FnB.v (cs := [.p 100 0, .p 102 0, .p 104 0]) (xs := [_, _]) (keep_F d.dep d.nxt picks (cr1 d picks i) d.ch[i].b d.ch[i].p (by rw [hb.1]; omega) (by omega) (by omega))
      unfold crB
      unfold kpB at hk ⊢
      simp only [List.cons_append, List.nil_append]
      (repeat (first | (show G _ _ _ _ (WL _ _ _ _ (⟨some _, .indexAddr _ _ _, _, _, _, none⟩ :: _)); refine G.w1 ?_ (by first | exact LT.rd (Rd.ixv i (hr)) rfl | fail)) | (show G _ _ _ _ (WL _ _ _ _ (⟨some _, .indexAddr _ _ _, _, _, _, some _⟩ :: _)); refine G.gC ?_ (by first | (refine gi ?_; intros; exact LT.rd (Rd.ixv i (hr)) rfl) | fail) rfl rfl) | (show GD _ _ _ _ _ _ _ _ _ _ (⟨some _, .indexAddr _ _ _, _, _, _, none⟩ :: _); refine GD.w1 ?_ (by first | exact LT.rd (Rd.ixv i (hr)) rfl | fail)) | (show GD _ _ _ _ _ _ _ _ _ _ (⟨some _, .indexAddr _ _ _, _, _, _, some _⟩ :: _); refine GD.gC ?_ (by first | (refine gi ?_; intros; exact LT.rd (Rd.ixv i (hr)) rfl) | fail) rfl rfl) | (show G _ _ _ _ (WL _ _ _ _ (⟨some _, .call _, _, _, _, none⟩ :: _)); refine G.cvW (hk) ?_) | ((repeat (revert hK; revert K)); refine wkT ?_; repeat intro K hK) | refine wkg ?_))
      refine G.at (i + 1) [(100, 100), (102, 102), (104, 104), (106, 106), (0, 0), (2, 2)] ⟨by omega, by omega⟩ ?_ ?_ (by decide)
      · exact (by repeat (first | exact trivial | refine ⟨⟨rfl, rfl⟩, ?_⟩))
      · dsimp only [ci1]
        rw [cr1_s _ _ _ hil]
        exact (by repeat (first | exact trivial | refine ⟨⟨rfl, rfl, rfl⟩, ?_⟩ | refine ⟨⟨rfl, by rw [renL_d]; rfl, kbL_d _ _⟩, ?_⟩ | refine ⟨rfl, ?_⟩))
    · have e : i = d.ch.length := by omega
      subst e
      unfold crB kpB
      simp only [List.cons_append, List.nil_append]
      (repeat (first | ((repeat (revert hK; revert K)); refine wk ?_; repeat intro K hK) | refine wkg ?_))
      refine G.loop (ci2 d picks) (fun i => i ≤ d.q.length) (fun i => d.q.length - i) ?_ ?_
      · exact G.at 0 [(100, 100), (102, 102), (104, 104), (106, 106), (0, 0), (2, 2)] (Nat.zero_le _) (by repeat (first | exact trivial | refine ⟨⟨rfl, rfl⟩, ?_⟩)) (by repeat (first | exact trivial | refine ⟨⟨rfl, rfl, rfl⟩, ?_⟩ | refine ⟨⟨rfl, by rw [renL_d]; rfl, kbL_d _ _⟩, ?_⟩ | refine ⟨rfl, ?_⟩)) (by decide)
      · intro i hi
        dsimp only [ci2]
        by_cases hil : i < d.q.length
        · have hr := qR_get d.q i hil
          have hb := cr2_b d picks i hi
          have hxo := (h.q i hil).1
          have hnc := h.nc
          have hnq := h.nq
          have hdep := h.dep
          by_cases hk2 : d.q[i].k = 2
          · have hp := hxo.resolve_right (fun h => by omega)
            have hp2 := hp.2.2.2
            have hkb : (d.q[i].k == 2) = true := by rw [hk2]; rfl
            have hk := FnB.v (cs := [.p 100 0, .p 102 0, .p 104 0]) (xs := [_, _]) (keep_F d.dep d.nxt picks (cr2 d picks i) d.q[i].b d.q[i].p (by rw [hb.1]; omega) (by omega) (by omega))
            unfold crB
            unfold kpB at hk ⊢
            simp only [List.cons_append, List.nil_append]
            (repeat (first | (show G _ _ _ _ (WL _ _ _ _ (⟨some _, .indexAddr _ _ _, _, _, _, none⟩ :: _)); refine G.w1 ?_ (by first | exact LT.rd (Rd.ixv i (hr)) rfl | fail)) | (show G _ _ _ _ (WL _ _ _ _ (⟨some _, .indexAddr _ _ _, _, _, _, some _⟩ :: _)); refine G.gC ?_ (by first | (refine gi ?_; intros; exact LT.rd (Rd.ixv i (hr)) rfl) | fail) rfl rfl) | (show GD _ _ _ _ _ _ _ _ _ _ (⟨some _, .indexAddr _ _ _, _, _, _, none⟩ :: _); refine GD.w1 ?_ (by first | exact LT.rd (Rd.ixv i (hr)) rfl | fail)) | (show GD _ _ _ _ _ _ _ _ _ _ (⟨some _, .indexAddr _ _ _, _, _, _, some _⟩ :: _); refine GD.gC ?_ (by first | (refine gi ?_; intros; exact LT.rd (Rd.ixv i (hr)) rfl) | fail) rfl rfl) | (show G _ _ _ _ (WL _ _ _ _ (⟨some _, .call _, _, _, _, none⟩ :: _)); refine G.cvW (hk) ?_) | ((repeat (revert hK; revert K)); refine wkT ?_; repeat intro K hK) | refine wkg ?_))
            refine G.at (i + 1) [(100, 100), (102, 102), (104, 104), (106, 106), (0, 0), (2, 2)] ⟨by omega, by omega⟩ ?_ ?_ (by decide)
            · exact (by repeat (first | exact trivial | refine ⟨⟨rfl, rfl⟩, ?_⟩))
            · dsimp only [ci2]
              rw [cr2_s _ _ _ hil, if_pos hk2]
              exact (by repeat (first | exact trivial | refine ⟨⟨rfl, rfl, rfl⟩, ?_⟩ | refine ⟨⟨rfl, by rw [renL_d]; rfl, kbL_d _ _⟩, ?_⟩ | refine ⟨rfl, ?_⟩))
          · have hkb : (d.q[i].k == 2) = false := by simpa using hk2
            unfold crB kpB
            simp only [List.cons_append, List.nil_append]
            (repeat (first | (show G _ _ _ _ (WL _ _ _ _ (⟨some _, .indexAddr _ _ _, _, _, _, none⟩ :: _)); refine G.w1 ?_ (by first | exact LT.rd (Rd.ixv i (hr)) rfl | fail)) | (show G _ _ _ _ (WL _ _ _ _ (⟨some _, .indexAddr _ _ _, _, _, _, some _⟩ :: _)); refine G.gC ?_ (by first | (refine gi ?_; intros; exact LT.rd (Rd.ixv i (hr)) rfl) | fail) rfl rfl) | (show GD _ _ _ _ _ _ _ _ _ _ (⟨some _, .indexAddr _ _ _, _, _, _, none⟩ :: _); refine GD.w1 ?_ (by first | exact LT.rd (Rd.ixv i (hr)) rfl | fail)) | (show GD _ _ _ _ _ _ _ _ _ _ (⟨some _, .indexAddr _ _ _, _, _, _, some _⟩ :: _); refine GD.gC ?_ (by first | (refine gi ?_; intros; exact LT.rd (Rd.ixv i (hr)) rfl) | fail) rfl rfl) | ((repeat (revert hK; revert K)); refine wk ?_; repeat intro K hK) | refine wkg ?_))
            refine G.at (i + 1) [(100, 100), (102, 102), (104, 104), (106, 106), (0, 0), (2, 2)] ⟨by omega, by omega⟩ ?_ ?_ (by decide)
            · exact (by repeat (first | exact trivial | refine ⟨⟨rfl, rfl⟩, ?_⟩))
            · dsimp only [ci2]
              rw [cr2_s _ _ _ hil, if_neg hk2]
              exact (by repeat (first | exact trivial | refine ⟨⟨rfl, rfl, rfl⟩, ?_⟩ | refine ⟨⟨rfl, by rw [renL_d]; rfl, kbL_d _ _⟩, ?_⟩ | refine ⟨rfl, ?_⟩))
        · have e : i = d.q.length := by omega
          subst e
          unfold crB kpB
          simp only [List.cons_append, List.nil_append]
          (repeat (first | ((repeat (revert hK; revert K)); refine wk ?_; repeat intro K hK) | refine wkg ?_))
          refine G.leAt 2 3 (.l []) D.le.nil ?_
          refine G.leAt 2 4 (.l []) D.le.nil ?_
          refine G.frzAt (T := 25) 2 2 106 ?_ (by rfl) (bsR_row _) rfl
          refine G.fin2 (by first | exact rvOk.tmp | exact rvOk.cellS | exact rvOk.cell1 | fail) (by first | exact rvOk.tmp | exact rvOk.cellS | exact rvOk.cell1 | fail) rfl ?_
          rfl

end Go.Proofs.Ytohkigillmlinaa
