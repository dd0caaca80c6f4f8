/- Device: bytes.Clone, clone. -/
import Derived.Test.YtohkigillmlinaaDva
import Derived.Test.YtohkigillmlinaaAvq
set_option linter.unusedSimpArgs false
set_option linter.unusedVariables false
namespace Go.Proofs.Ytohkigillmlinaa
open Go.RowKit

instance {x : QV} {n : Nat} {u : AV} {l : List AV} [i : LSet [.d (.s (.int .i64 x.id)), .d (.s (.int .i64 x.k)), .d (.s (.int .i64 x.b)), .d (byD x.p)] n u l] : LSet (x.row.map AV.d) n u l := ⟨i.h⟩
instance {x : CV} {n : Nat} {u : AV} {l : List AV} [i : LSet [.d (.s (.int .i64 x.b)), .d (byD x.p)] n u l] : LSet (x.row.map AV.d) n u l := ⟨i.h⟩
def byR (b : List Int) : List (List D) := b.map fun v => [.s (.int .u8 v)]
theorem byD_R (b : List Int) : byD b = .l (byR b) := rfl
theorem byR_len (b : List Int) : (byR b).length = b.length := by simp [byR]
theorem byR_row (b : List Int) : ∀ r ∈ byR b, r.length = 1 := by
  intro r hr
  obtain ⟨v, _, rfl⟩ := List.mem_map.1 hr
  rfl
theorem byR_cell (b : List Int) : (byR b).flatten.all D.cell = true := by
  rw [List.all_eq_true]
  intro d hd
  obtain ⟨r, hr, hd⟩ := List.mem_flatten.1 hd
  obtain ⟨v, _, rfl⟩ := List.mem_map.1 hr
  simp only [List.mem_cons, List.not_mem_nil, or_false] at hd
  subst hd
  rfl
attribute [local irreducible] Wp WL WO fin finB rnd Exit.then Exit.inBlock G GD LT Rd Fn FnB FvB Iter
attribute [local go_sem] DV.row QV.row CV.row
theorem bclone_F (b : List Int) (hl : b.length ≤ 1000) : Fn Try.prog 18 [byD b] (· = byD b) := by
  rw [byD_R]
  have hl2 : (0 : Nat) + (byR b).length ≤ 100000 := by rw [byR_len]; omega
  by_cases h : b = []
  · subst h
    rw [show byR [] = [] from rfl]
    refine Fn.of Try.func18 Try.ntmps18 rfl (by kernel_rfl) (fun w o => ?_)
    (repeat (first | ((repeat (revert hK; revert K)); refine wk ?_; repeat intro K hK) | refine wkg ?_))
    refine G.eqE (fun t => ?_)
    cases t
    · (repeat (first | (show G _ _ _ _ (WL _ _ _ _ (⟨some _, .buildSlice _ 0 _, _, _, _, none⟩ :: _)); refine G.w2 ?_ (by first | exact LT.bs0 | fail)) | ((repeat (revert hK; revert K)); refine wk ?_; repeat intro K hK) | refine wkg ?_))
      (first | refine G.nilL 2 ?_ | refine G.frzB 2 ?_)
      refine G.fin1 (by first | exact rvOk.tmp | exact rvOk.cellS | exact rvOk.cell1 | fail) rfl ?_
      rfl
    · (repeat (first | ((repeat (revert hK; revert K)); refine wk ?_; repeat intro K hK) | refine wkg ?_))
      refine G.nilL 2 ?_
      refine G.fin1 (by first | exact rvOk.tmp | exact rvOk.cellS | exact rvOk.cell1 | fail) rfl ?_
      rfl
  · have hne : byR b ≠ [] := fun e => h (List.map_eq_nil_iff.1 e)
    refine Fn.of Try.func18 Try.ntmps18 rfl (by kernel_rfl) (fun w o => ?_)
    (repeat (first | (show G _ _ _ _ (WL _ _ _ _ (⟨some _, .buildSlice _ 0 _, _, _, _, none⟩ :: _)); refine G.w2 ?_ (by first | exact LT.bs0 | fail)) | (show G _ _ _ _ (WL _ _ _ _ (⟨some _, .binOp .eql _ _ _ _, _, _, _, none⟩ :: _)); refine G.w1 ?_ (by first | exact LT.eqN hne | fail)) | (show G _ _ _ _ (WL _ _ _ _ (⟨some _, .binOp .eql _ _ _ _, _, _, _, some _⟩ :: _)); refine G.gC ?_ (by first | (refine gi ?_; intros; exact LT.eqN hne) | fail) rfl rfl) | (show GD _ _ _ _ _ _ _ _ _ _ (⟨some _, .binOp .eql _ _ _ _, _, _, _, none⟩ :: _); refine GD.w1 ?_ (by first | exact LT.eqN hne | fail)) | (show GD _ _ _ _ _ _ _ _ _ _ (⟨some _, .binOp .eql _ _ _ _, _, _, _, some _⟩ :: _); refine GD.gC ?_ (by first | (refine gi ?_; intros; exact LT.eqN hne) | fail) rfl rfl) | (show G _ _ _ _ (WL _ _ _ _ (⟨some _, .call _, _, _, _, none⟩ :: _)); refine G.w3 ?_ (by first | exact LT.ap (byR_row b) (byR_cell b) hl2 | fail)) | (show GD _ _ _ _ _ _ _ _ _ _ (⟨some _, .call _, _, _, _, none⟩ :: _); refine GD.w3 ?_ (by first | exact LT.ap (byR_row b) (byR_cell b) hl2 | fail)) | ((repeat (revert hK; revert K)); refine wk ?_; repeat intro K hK) | refine wkg ?_))
    refine G.frz (T := 5) (rows := byR b) 2 ?_ (byR_row b) (by rw [Nat.zero_add]) rfl
    refine G.fin1 (by first | exact rvOk.tmp | exact rvOk.cellS | exact rvOk.cell1 | fail) rfl ?_
    rfl

def zDev : List D := [.s (.int .i64 0), .s (.int .i64 0), .s (.slice none 0 0), .s (.slice none 0 0), .s (.slice none 0 0)]
/-- What a copy under way holds. -/
def ckB (d : DV) (a : List (List Int)) (b : List CV) (c : List QV) : Bs := [(0, some (33, d.row.map .d)), (1, some (33, zDev.map .d)), (2, some (33, [.d (.s (.int .i64 d.dep)), .d (.s (.int .i64 d.nxt)), .o 3 (bsR a).length, .o 4 (chR b).length, .o 5 (qR c).length])), (3, some (25, (bsR a).flatten.map .d)), (4, some (64, (chR b).flatten.map .d)), (5, some (43, (qR c).flatten.map .d))]
def ck1 (d : DV) (i : Nat) : List (Nat × AV) × Bs := ([(18, .d (.s (.int .i64 (i : Int)))), (17, .d (.s (.int .i64 (bsR d.bs).length))), (16, .d (.l (bsR d.bs))), (3, .p 2 0), (2, .p 1 0), (1, .p 0 0)], ckB d (d.bs.take i) [] [])
def ck2 (d : DV) (i : Nat) : List (Nat × AV) × Bs := ([(33, .d (.s (.int .i64 (i : Int)))), (32, .d (.s (.int .i64 (chR d.ch).length))), (31, .d (.l (chR d.ch))), (3, .p 2 0), (2, .p 1 0), (1, .p 0 0)], ckB d d.bs (d.ch.take i) [])
def ck3 (d : DV) (i : Nat) : List (Nat × AV) × Bs := ([(52, .d (.s (.int .i64 (i : Int)))), (51, .d (.s (.int .i64 (qR d.q).length))), (50, .d (.l (qR d.q))), (3, .p 2 0), (2, .p 1 0), (1, .p 0 0)], ckB d d.bs d.ch (d.q.take i))
theorem bsR_s (l : List (List Int)) (i : Nat) (h : i < l.length) : bsR (l.take (i + 1)) = bsR (l.take i) ++ [[byD l[i]]] := by
  unfold bsR; rw [List.take_succ_eq_append_getElem h, List.map_append]; rfl
theorem chR_s (l : List CV) (i : Nat) (h : i < l.length) : chR (l.take (i + 1)) = chR (l.take i) ++ [l[i].row] := by
  unfold chR; rw [List.take_succ_eq_append_getElem h, List.map_append]; rfl
theorem qR_s (l : List QV) (i : Nat) (h : i < l.length) : qR (l.take (i + 1)) = qR (l.take i) ++ [l[i].row] := by
  unfold qR; rw [List.take_succ_eq_append_getElem h, List.map_append]; rfl
structure DV.sm (d : DV) : Prop where
  nb : d.bs.length ≤ 256
  nc : d.ch.length ≤ 256
  nq : d.q.length ≤ 256
  bs : ∀ (i : Nat) (h : i < d.bs.length), d.bs[i].length ≤ 1000
  ch : ∀ (i : Nat) (h : i < d.ch.length), d.ch[i].p.length ≤ 1000
  q : ∀ (i : Nat) (h : i < d.q.length), d.q[i].p.length ≤ 1000
set_option maxHeartbeats 4000000 in
theorem clone_O (d : DV) (h : d.sm) : FnB Try.prog CT 17 [.d (.st d.row)] [(101, none), (103, none), (105, none)] (.st [.d (.s (.int .i64 d.dep)), .d (.s (.int .i64 d.nxt)), .o 101 (bsR d.bs).length, .o 103 (chR d.ch).length, .o 105 (qR d.q).length]) [(101, some (25, (bsR d.bs).flatten.map .d)), (103, some (64, (chR d.ch).flatten.map .d)), (105, some (43, (qR d.q).flatten.map .d))] := by
  obtain ⟨hnb, hnc, hnq, hbs, hch, hq⟩ := h
  have hl1 : ((bsR d.bs).length : Int) = d.bs.length := by rw [bsR_len]
  have hl2 : ((chR d.ch).length : Int) = d.ch.length := by rw [chR_len]
  have hl3 : ((qR d.q).length : Int) = d.q.length := by rw [qR_len]
  refine FnB.of (ks := []) CT.c Try.func17 Try.ntmps17 rfl (by kernel_rfl) (fun w o m E0 hCX => ?_) (hks := kns_eq (l := [101, 103, 105]) rfl (by decide)); (try dsimp only [Is])
  (repeat (first | ((repeat (revert hK; revert K)); refine wk ?_; repeat intro K hK) | refine wkg ?_))
  refine G.nilAt 5 2 50 25 ?_
  refine G.nilAt 5 3 51 64 ?_
  refine G.nilAt 5 4 52 43 ?_
  refine G.loop (ck1 d) (fun i => i ≤ d.bs.length) (fun i => d.bs.length - i) ?_ ?_
  · exact G.at 0 [(0, 3), (1, 4), (2, 5), (3, 50), (4, 51), (5, 52)] (Nat.zero_le _) (by repeat (first | exact trivial | refine ⟨⟨rfl, rfl⟩, ?_⟩)) (by repeat (first | exact trivial | refine ⟨⟨rfl, rfl, rfl⟩, ?_⟩ | refine ⟨⟨rfl, by rw [renL_d]; rfl, kbL_d _ _⟩, ?_⟩ | refine ⟨rfl, ?_⟩)) (by decide)
  · intro i hi
    dsimp only [ck1]
    by_cases h : i < d.bs.length
    · have hr := bsR_get d.bs i h
      have hp := bclone_F d.bs[i] (hbs i h)
      have h63 : (bsR (d.bs.take i)).length ≤ 256 := by rw [bsR_len, List.length_take]; omega
      have hs2 : ckB d (d.bs.take (i + 1)) [] [] = [(0, some (33, d.row.map .d)), (1, some (33, zDev.map .d)), (2, some (33, [.d (.s (.int .i64 d.dep)), .d (.s (.int .i64 d.nxt)), .o 3 ((bsR (d.bs.take i)).length + [[byD d.bs[i]]].length), .o 4 0, .o 5 0])), (3, some (25, (bsR (d.bs.take i) ++ [[byD d.bs[i]]]).flatten.map .d)), (4, some (64, [])), (5, some (43, []))] := by
        unfold ckB; rw [bsR_s d.bs i h, List.length_append]; rfl
      unfold ckB
      (repeat (first | refine G.cW (hp) ?_ | refine G.cgW (hp) ?_ | refine GD.cW (hp) ?_ | refine GD.cgW (hp) ?_ | (show G _ _ _ _ (WL _ _ _ _ (⟨some _, .indexAddr _ _ _, _, _, _, none⟩ :: _)); refine G.w1 ?_ (by first | exact LT.rd (Rd.ixv i (hr)) rfl | fail)) | (show G _ _ _ _ (WL _ _ _ _ (⟨some _, .indexAddr _ _ _, _, _, _, some _⟩ :: _)); refine G.gC ?_ (by first | (refine gi ?_; intros; exact LT.rd (Rd.ixv i (hr)) rfl) | fail) rfl rfl) | (show GD _ _ _ _ _ _ _ _ _ _ (⟨some _, .indexAddr _ _ _, _, _, _, none⟩ :: _); refine GD.w1 ?_ (by first | exact LT.rd (Rd.ixv i (hr)) rfl | fail)) | (show GD _ _ _ _ _ _ _ _ _ _ (⟨some _, .indexAddr _ _ _, _, _, _, some _⟩ :: _); refine GD.gC ?_ (by first | (refine gi ?_; intros; exact LT.rd (Rd.ixv i (hr)) rfl) | fail) rfl rfl) | ((repeat (revert hK; revert K)); refine wk ?_; repeat intro K hK) | refine wkg ?_))
      refine G.at (i + 1) [(0, 0), (1, 1), (2, 2), (3, 6), (4, 4), (5, 5)] ⟨by omega, by omega⟩ ?_ ?_ (by decide)
      · exact (by repeat (first | exact trivial | refine ⟨⟨rfl, rfl⟩, ?_⟩))
      · dsimp only [ck1]; rw [hs2]; exact (by repeat (first | exact trivial | refine ⟨⟨rfl, rfl, rfl⟩, ?_⟩ | refine ⟨⟨rfl, by rw [renL_d]; rfl, kbL_d _ _⟩, ?_⟩ | refine ⟨rfl, ?_⟩))
    · have e : i = d.bs.length := by omega
      subst e
      rw [List.take_length]
      unfold ckB
      (repeat (first | ((repeat (revert hK; revert K)); refine wk ?_; repeat intro K hK) | refine wkg ?_))
      refine G.loop (ck2 d) (fun i => i ≤ d.ch.length) (fun i => d.ch.length - i) ?_ ?_
      · exact G.at 0 [(0, 0), (1, 1), (2, 2), (3, 3), (4, 4), (5, 5)] (Nat.zero_le _) (by repeat (first | exact trivial | refine ⟨⟨rfl, rfl⟩, ?_⟩)) (by repeat (first | exact trivial | refine ⟨⟨rfl, rfl, rfl⟩, ?_⟩ | refine ⟨⟨rfl, by rw [renL_d]; rfl, kbL_d _ _⟩, ?_⟩ | refine ⟨rfl, ?_⟩)) (by decide)
      · intro i hi
        dsimp only [ck2]
        by_cases h : i < d.ch.length
        · have hr := chR_get d.ch i h
          have hp := bclone_F d.ch[i].p (hch i h)
          have h63 : (chR (d.ch.take i)).length ≤ 256 := by rw [chR_len, List.length_take]; omega
          have hs2 : ckB d d.bs (d.ch.take (i + 1)) [] = [(0, some (33, d.row.map .d)), (1, some (33, zDev.map .d)), (2, some (33, [.d (.s (.int .i64 d.dep)), .d (.s (.int .i64 d.nxt)), .o 3 (bsR d.bs).length, .o 4 ((chR (d.ch.take i)).length + [d.ch[i].row].length), .o 5 0])), (3, some (25, (bsR d.bs).flatten.map .d)), (4, some (64, (chR (d.ch.take i) ++ [d.ch[i].row]).flatten.map .d)), (5, some (43, []))] := by
            unfold ckB; rw [chR_s d.ch i h, List.length_append]; rfl
          unfold ckB
          (repeat (first | refine G.cW (hp) ?_ | refine G.cgW (hp) ?_ | refine GD.cW (hp) ?_ | refine GD.cgW (hp) ?_ | (show G _ _ _ _ (WL _ _ _ _ (⟨some _, .indexAddr _ _ _, _, _, _, none⟩ :: _)); refine G.w1 ?_ (by first | exact LT.rd (Rd.ixv i (hr)) rfl | fail)) | (show G _ _ _ _ (WL _ _ _ _ (⟨some _, .indexAddr _ _ _, _, _, _, some _⟩ :: _)); refine G.gC ?_ (by first | (refine gi ?_; intros; exact LT.rd (Rd.ixv i (hr)) rfl) | fail) rfl rfl) | (show GD _ _ _ _ _ _ _ _ _ _ (⟨some _, .indexAddr _ _ _, _, _, _, none⟩ :: _); refine GD.w1 ?_ (by first | exact LT.rd (Rd.ixv i (hr)) rfl | fail)) | (show GD _ _ _ _ _ _ _ _ _ _ (⟨some _, .indexAddr _ _ _, _, _, _, some _⟩ :: _); refine GD.gC ?_ (by first | (refine gi ?_; intros; exact LT.rd (Rd.ixv i (hr)) rfl) | fail) rfl rfl) | ((repeat (revert hK; revert K)); refine wk ?_; repeat intro K hK) | refine wkg ?_))
          refine G.at (i + 1) [(0, 0), (1, 1), (2, 2), (3, 3), (4, 8), (5, 5)] ⟨by omega, by omega⟩ ?_ ?_ (by decide)
          · exact (by repeat (first | exact trivial | refine ⟨⟨rfl, rfl⟩, ?_⟩))
          · dsimp only [ck2]; rw [hs2]; exact (by repeat (first | exact trivial | refine ⟨⟨rfl, rfl, rfl⟩, ?_⟩ | refine ⟨⟨rfl, by rw [renL_d]; rfl, kbL_d _ _⟩, ?_⟩ | refine ⟨rfl, ?_⟩))
        · have e : i = d.ch.length := by omega
          subst e
          rw [List.take_length]
          unfold ckB
          (repeat (first | ((repeat (revert hK; revert K)); refine wk ?_; repeat intro K hK) | refine wkg ?_))
          refine G.loop (ck3 d) (fun i => i ≤ d.q.length) (fun i => d.q.length - i) ?_ ?_
          · exact G.at 0 [(0, 0), (1, 1), (2, 2), (3, 3), (4, 4), (5, 5)] (Nat.zero_le _) (by repeat (first | exact trivial | refine ⟨⟨rfl, rfl⟩, ?_⟩)) (by repeat (first | exact trivial | refine ⟨⟨rfl, rfl, rfl⟩, ?_⟩ | refine ⟨⟨rfl, by rw [renL_d]; rfl, kbL_d _ _⟩, ?_⟩ | refine ⟨rfl, ?_⟩)) (by decide)
          · intro i hi
            dsimp only [ck3]
            by_cases h : i < d.q.length
            · have hr := qR_get d.q i h
              have hp := bclone_F d.q[i].p (hq i h)
              have h63 : (qR (d.q.take i)).length ≤ 256 := by rw [qR_len, List.length_take]; omega
              have hs2 : ckB d d.bs d.ch (d.q.take (i + 1)) = [(0, some (33, d.row.map .d)), (1, some (33, zDev.map .d)), (2, some (33, [.d (.s (.int .i64 d.dep)), .d (.s (.int .i64 d.nxt)), .o 3 (bsR d.bs).length, .o 4 (chR d.ch).length, .o 5 ((qR (d.q.take i)).length + [d.q[i].row].length)])), (3, some (25, (bsR d.bs).flatten.map .d)), (4, some (64, (chR d.ch).flatten.map .d)), (5, some (43, (qR (d.q.take i) ++ [d.q[i].row]).flatten.map .d))] := by
                unfold ckB; rw [qR_s d.q i h, List.length_append]
              unfold ckB
              (repeat (first | refine G.cW (hp) ?_ | refine G.cgW (hp) ?_ | refine GD.cW (hp) ?_ | refine GD.cgW (hp) ?_ | (show G _ _ _ _ (WL _ _ _ _ (⟨some _, .indexAddr _ _ _, _, _, _, none⟩ :: _)); refine G.w1 ?_ (by first | exact LT.rd (Rd.ixv i (hr)) rfl | fail)) | (show G _ _ _ _ (WL _ _ _ _ (⟨some _, .indexAddr _ _ _, _, _, _, some _⟩ :: _)); refine G.gC ?_ (by first | (refine gi ?_; intros; exact LT.rd (Rd.ixv i (hr)) rfl) | fail) rfl rfl) | (show GD _ _ _ _ _ _ _ _ _ _ (⟨some _, .indexAddr _ _ _, _, _, _, none⟩ :: _); refine GD.w1 ?_ (by first | exact LT.rd (Rd.ixv i (hr)) rfl | fail)) | (show GD _ _ _ _ _ _ _ _ _ _ (⟨some _, .indexAddr _ _ _, _, _, _, some _⟩ :: _); refine GD.gC ?_ (by first | (refine gi ?_; intros; exact LT.rd (Rd.ixv i (hr)) rfl) | fail) rfl rfl) | ((repeat (revert hK; revert K)); refine wk ?_; repeat intro K hK) | refine wkg ?_))
              refine G.at (i + 1) [(0, 0), (1, 1), (2, 2), (3, 3), (4, 4), (5, 9)] ⟨by omega, by omega⟩ ?_ ?_ (by decide)
              · exact (by repeat (first | exact trivial | refine ⟨⟨rfl, rfl⟩, ?_⟩))
              · dsimp only [ck3]; rw [hs2]; exact (by repeat (first | exact trivial | refine ⟨⟨rfl, rfl, rfl⟩, ?_⟩ | refine ⟨⟨rfl, by rw [renL_d]; rfl, kbL_d _ _⟩, ?_⟩ | refine ⟨rfl, ?_⟩))
            · have e : i = d.q.length := by omega
              subst e
              rw [List.take_length]
              unfold ckB
              (repeat (first | ((repeat (revert hK; revert K)); refine wk ?_; repeat intro K hK) | refine wkg ?_))
              refine G.ren (al' := [(2, .p 1 0)]) (bs' := [(1, some (33, [.d (.s (.int .i64 d.dep)), .d (.s (.int .i64 d.nxt)), .o 101 (bsR d.bs).length, .o 103 (chR d.ch).length, .o 105 (qR d.q).length])), (101, some (25, (bsR d.bs).flatten.map .d)), (103, some (64, (chR d.ch).flatten.map .d)), (105, some (43, (qR d.q).flatten.map .d))]) [(1, 1), (101, 3), (103, 4), (105, 5)] ?_ (by repeat (first | exact trivial | refine ⟨⟨rfl, rfl⟩, ?_⟩)) (by repeat (first | exact trivial | refine ⟨⟨rfl, rfl, rfl⟩, ?_⟩ | refine ⟨⟨rfl, by rw [renL_d]; rfl, kbL_d _ _⟩, ?_⟩ | refine ⟨rfl, ?_⟩)) (by decide) (by rfl)
              (try refine G.finBn ?_); refine G.finBc rfl rfl rfl rfl (by rfl) (by first | ((repeat (first | exact trivial | refine ⟨.inl rfl, ?_⟩ | refine ⟨.inr rfl, ?_⟩)); done) | fail) (by first | exact Is.cl (hcl _) | exact Is.cl6 (hcl _) | ((repeat (first | exact trivial | refine ⟨ClE.some rfl, ?_⟩ | (with_reducible refine ClB.d ?_) | (with_reducible refine ⟨ClE.some (numsL_d _ _), ?_⟩) | refine ⟨ClE.none, ?_⟩)); done) | fail) (by rfl)

end Go.Proofs.Ytohkigillmlinaa
