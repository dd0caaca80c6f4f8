/- Cells of numbers, the zone of cells. -/
import Derived.Test.YtohpbfcechbngaaCf
import Derived.Test.YtohpbfcechbngaaCi
set_option linter.unusedSimpArgs false
set_option linter.unusedVariables false
namespace Go.Proofs.Ytohpbfcechbngaa
open Go.RowKit

def cellOf (x : Int) : Int := [0, 1, 1, 2, 1, 0].getD (x % 6).toNat 0
def u8R (l : List Int) : List (List D) := l.map fun x => [.s (.int .u8 x)]
theorem u8R_len (l : List Int) : (u8R l).length = l.length := by simp [u8R]
theorem u8R_get (l : List Int) (i : Nat) (h : i < l.length) : (u8R l)[i]? = some [.s (.int .u8 l[i])] := by simp [u8R, h]
def cellsF (l : List Int) : List Int := 0 :: l.map cellOf
theorem cellsF_s (l : List Int) (i : Nat) (h : i < l.length) : cellsF (l.take (i + 1)) = cellsF (l.take i) ++ [cellOf l[i]] := by
  unfold cellsF
  rw [List.take_succ_eq_append_getElem h, List.map_append]
  rfl
def tblR : List (List D) := [[iD 0], [iD 1], [iD 1], [iD 2], [iD 1], [iD 0]]
theorem cell_at (x : Int) (h0 : 0 ≤ x) : tblR[(x % 6).toNat]? = some [iD (cellOf x)] := by
  unfold cellOf
  have h1 : (x % 6).toNat < 6 := by omega
  have : (x % 6).toNat = 0 ∨ (x % 6).toNat = 1 ∨ (x % 6).toNat = 2 ∨ (x % 6).toNat = 3 ∨ (x % 6).toNat = 4 ∨ (x % 6).toNat = 5 := by omega
  rcases this with e | e | e | e | e | e <;> rw [e] <;> rfl
theorem cellsF_ok (l : List Int) (h0 : ∀ x ∈ l, 0 ≤ x) : cOk (cellsF l) := by
  intro c hc
  rcases List.mem_cons.1 hc with rfl | hc
  · exact .inl rfl
  · obtain ⟨x, hx, rfl⟩ := List.mem_map.1 hc
    have := h0 x hx
    unfold cellOf
    have h1 : (x % 6).toNat = 0 ∨ (x % 6).toNat = 1 ∨ (x % 6).toNat = 2 ∨ (x % 6).toNat = 3 ∨ (x % 6).toNat = 4 ∨ (x % 6).toNat = 5 := by omega
    rcases h1 with e | e | e | e | e | e <;> rw [e] <;> simp
def bcS (l : List Int) (i : Nat) : List (Nat × AV) × Bs := ([(9, .d (.s (.int .i64 (i : Nat)))), (8, .d (.s (.int .i64 l.length))), (7, .d (.l (u8R l))), (3, .o 0 (il (cellsF (l.take i))).length)], [(0, some (3, (il (cellsF (l.take i))).flatten.map .d))])
def bzS (l : List Int) (i : Nat) : List (Nat × AV) × Bs := ([(18, .d (.s (.int .i64 (i : Nat)))), (17, .d (.s (.int .i64 l.length))), (16, .d (.l (il l))), (6, .o 2 (il (nl (frees (l.take i)))).length), (2, .p 0 0), (4, .p 1 0), (5, .d (.s (.int .i64 0)))], [(0, some (28, (zZ 0).map .d)), (1, some (28, (zD l.length (bldF l.length (List.range l.length))).map .d)), (2, some (3, (il (nl (frees (l.take i)))).flatten.map .d))])
theorem frees_s (l : List Int) (i : Nat) (h : i < l.length) : frees (l.take (i + 1)) = frees (l.take i) ++ (if l[i] = 0 then [i] else []) := by
  unfold frees
  rw [List.length_take, List.length_take, Nat.min_eq_left (by omega), Nat.min_eq_left (by omega), List.range_succ, List.filter_append]
  congr 1
  · refine List.filter_congr (fun j hj => ?_)
    have := List.mem_range.1 hj
    unfold isC
    rw [List.getElem?_take_of_lt (by omega), List.getElem?_take_of_lt (by omega)]
  · simp only [List.filter_cons, List.filter_nil]
    by_cases hv : l[i] = 0
    · rw [if_pos hv, if_pos]
      unfold isC
      rw [List.getElem?_take_of_lt (by omega), List.getElem?_eq_getElem h, hv]
      rfl
    · rw [if_neg hv, if_neg]
      unfold isC
      rw [List.getElem?_take_of_lt (by omega), List.getElem?_eq_getElem h]
      simpa using hv
theorem frees_le (l : List Int) : (frees l).length ≤ l.length := by rw [frees_len]; exact freeC_le l
theorem frees_sorted (l : List Int) : (frees l).Pairwise (· < ·) := List.Pairwise.filter _ List.pairwise_lt_range
attribute [local irreducible] Wp WL WO fin finB rnd Exit.then Exit.inBlock G GD LT Rd Fn FnB FvB Iter
attribute [local go_sem] zD zZ iD
theorem bcells_F (l : List Int) (hl : l.length ≤ 1000) (h0 : ∀ x ∈ l, 0 ≤ x ∧ x < 256) : Fn Try.prog 5 [.l (u8R l)] (· = .l (il (cellsF l))) := by
  have hlen : ((u8R l).length : Int) = l.length := by rw [u8R_len]
  refine Fn.of Try.func5 Try.ntmps5 rfl (by kernel_rfl) (fun w o => ?_)
  (repeat (first | ((repeat (revert hK; revert K)); refine wkO ?_; repeat intro K hK) | refine wkg ?_))
  rw [hlen]
  refine G.loop (bcS l) (fun i => i ≤ l.length) (fun i => l.length - i) ?_ ?_
  · exact G.at 0 [(0, 0)] (Nat.zero_le _) (by repeat (first | exact trivial | refine ⟨⟨rfl, rfl⟩, ?_⟩)) (by repeat (first | exact trivial | refine ⟨⟨rfl, rfl, rfl⟩, ?_⟩ | refine ⟨⟨rfl, by rw [renL_d]; rfl, kbL_d _ _⟩, ?_⟩ | refine ⟨rfl, ?_⟩)) (by decide)
  · intro i hi
    by_cases h : i < l.length
    · have hr := u8R_get l i h
      obtain ⟨hx0, hx1⟩ := h0 _ (List.getElem_mem h)
      have hs := cellsF_s l i h
      have h63 : (il (cellsF (l.take i))).length ≤ 2000 := by rw [il_len]; unfold cellsF; simp; omega
      have hat := cell_at l[i] hx0
      dsimp only [bcS]
      generalize l[i] = x at hr hx0 hx1 hs hat
      unfold tblR iD at hat
      have hw : IntKind.i64.wrap x = x := by rw [IntKind.wrap_i64]; omega
      (repeat (first | (show G _ _ _ _ (WL _ _ _ _ (⟨some _, .convert _ _ _, _, _, _, none⟩ :: _)); refine G.w1 ?_ (by first | exact LT.cnv x | fail)) | (show G _ _ _ _ (WL _ _ _ _ (⟨some _, .convert _ _ _, _, _, _, some _⟩ :: _)); refine G.gC ?_ (by first | (refine gi ?_; intros; exact LT.cnv x) | fail) rfl rfl) | (show GD _ _ _ _ _ _ _ _ _ _ (⟨some _, .convert _ _ _, _, _, _, none⟩ :: _); refine GD.w1 ?_ (by first | exact LT.cnv x | fail)) | (show GD _ _ _ _ _ _ _ _ _ _ (⟨some _, .convert _ _ _, _, _, _, some _⟩ :: _); refine GD.gC ?_ (by first | (refine gi ?_; intros; exact LT.cnv x) | fail) rfl rfl) | (show G _ _ _ _ (WL _ _ _ _ (⟨some _, .indexAddr _ _ _, _, _, _, none⟩ :: _)); refine G.w1 ?_ (by first | exact LT.rd (Rd.ixv i (hr)) rfl | fail)) | (show G _ _ _ _ (WL _ _ _ _ (⟨some _, .indexAddr _ _ _, _, _, _, some _⟩ :: _)); refine G.gC ?_ (by first | (refine gi ?_; intros; exact LT.rd (Rd.ixv i (hr)) rfl) | fail) rfl rfl) | (show GD _ _ _ _ _ _ _ _ _ _ (⟨some _, .indexAddr _ _ _, _, _, _, none⟩ :: _); refine GD.w1 ?_ (by first | exact LT.rd (Rd.ixv i (hr)) rfl | fail)) | (show GD _ _ _ _ _ _ _ _ _ _ (⟨some _, .indexAddr _ _ _, _, _, _, some _⟩ :: _); refine GD.gC ?_ (by first | (refine gi ?_; intros; exact LT.rd (Rd.ixv i (hr)) rfl) | fail) rfl rfl) | (show G _ _ _ _ (WL _ _ _ _ (⟨some _, .indexAddr _ _ _, _, _, _, none⟩ :: _)); refine G.w1 ?_ (by first | exact LT.rd (Rd.ixv (x % 6).toNat (hat)) rfl | fail)) | (show G _ _ _ _ (WL _ _ _ _ (⟨some _, .indexAddr _ _ _, _, _, _, some _⟩ :: _)); refine G.gC ?_ (by first | (refine gi ?_; intros; exact LT.rd (Rd.ixv (x % 6).toNat (hat)) rfl) | fail) rfl rfl) | (show GD _ _ _ _ _ _ _ _ _ _ (⟨some _, .indexAddr _ _ _, _, _, _, none⟩ :: _); refine GD.w1 ?_ (by first | exact LT.rd (Rd.ixv (x % 6).toNat (hat)) rfl | fail)) | (show GD _ _ _ _ _ _ _ _ _ _ (⟨some _, .indexAddr _ _ _, _, _, _, some _⟩ :: _); refine GD.gC ?_ (by first | (refine gi ?_; intros; exact LT.rd (Rd.ixv (x % 6).toNat (hat)) rfl) | fail) rfl rfl) | ((repeat (revert hK; revert K)); refine wk ?_; repeat intro K hK) | refine wkg ?_))
      refine G.at (i + 1) [(0, 1)] ⟨by omega, by omega⟩ ?_ ?_ (by decide)
      · dsimp only [bcS]
        rw [hs, il_app, List.length_append]
        exact (by repeat (first | exact trivial | refine ⟨⟨rfl, rfl⟩, ?_⟩))
      · dsimp only [bcS]
        rw [hs, il_app]
        exact (by repeat (first | exact trivial | refine ⟨⟨rfl, rfl, rfl⟩, ?_⟩ | refine ⟨⟨rfl, by rw [renL_d]; rfl, kbL_d _ _⟩, ?_⟩ | refine ⟨rfl, ?_⟩))
    · have e : i = l.length := by omega
      subst e
      dsimp only [bcS]
      rw [List.take_length]
      (repeat (first | ((repeat (revert hK; revert K)); refine wk ?_; repeat intro K hK) | refine wkg ?_))
      refine G.frz (T := 3) (rows := il (cellsF l)) 2 ?_ (il_row _) rfl
      refine G.fin1 (by first | exact rvOk.tmp | exact rvOk.cellS | exact rvOk.cell1 | fail) rfl ?_
      rfl
set_option maxHeartbeats 4000000 in
theorem bzone_F (l : List Int) (h1 : 1 ≤ l.length) (hl : l.length ≤ 64) : Fn Try.prog 6 [.l (il l)] (· = .tup [.st (zD l.length (bldF l.length (frees l))), .s (.bool true)]) := by
  have hlen : ((il l).length : Int) = l.length := by rw [il_len]
  have hnw := new_F l.length h1 hl
  rw [← hlen] at hnw
  have hbd := build_F l.length h1 hl (bldF l.length (List.range l.length)) (frees l) (frees_sorted l) frees_lt
  refine Fn.of Try.func6 Try.ntmps6 rfl (by kernel_rfl) (fun w o => ?_)
  (repeat (first | refine G.cW (hnw) ?_ | refine G.cgW (hnw) ?_ | refine GD.cW (hnw) ?_ | refine GD.cgW (hnw) ?_ | ((repeat (revert hK; revert K)); refine wk ?_; repeat intro K hK) | refine wkg ?_))
  rw [hlen]
  refine G.nilRow 6 3 ?_
  refine G.loop (bzS l) (fun i => i ≤ l.length) (fun i => l.length - i) ?_ ?_
  · exact G.at 0 [(0, 0), (1, 1), (2, 3)] (Nat.zero_le _) (by repeat (first | exact trivial | refine ⟨⟨rfl, rfl⟩, ?_⟩)) (by repeat (first | exact trivial | refine ⟨⟨rfl, rfl, rfl⟩, ?_⟩ | refine ⟨⟨rfl, by rw [renL_d]; rfl, kbL_d _ _⟩, ?_⟩ | refine ⟨rfl, ?_⟩)) (by decide)
  · intro i hi
    by_cases h : i < l.length
    · have hr := il_get l i h
      have hs := frees_s l i h
      have h63 : (il (nl (frees (l.take i)))).length ≤ 2000 := by rw [nl_len]; have := frees_le (l.take i); rw [List.length_take] at this; omega
      by_cases hv : l[i] = 0
      · rw [hv] at hr
        rw [if_pos hv] at hs
        dsimp only [bzS]
        (repeat (first | (show G _ _ _ _ (WL _ _ _ _ (⟨some _, .indexAddr _ _ _, _, _, _, none⟩ :: _)); refine G.w1 ?_ (by first | exact LT.rd (Rd.ixv i (hr)) rfl | fail)) | (show G _ _ _ _ (WL _ _ _ _ (⟨some _, .indexAddr _ _ _, _, _, _, some _⟩ :: _)); refine G.gC ?_ (by first | (refine gi ?_; intros; exact LT.rd (Rd.ixv i (hr)) rfl) | fail) rfl rfl) | (show GD _ _ _ _ _ _ _ _ _ _ (⟨some _, .indexAddr _ _ _, _, _, _, none⟩ :: _); refine GD.w1 ?_ (by first | exact LT.rd (Rd.ixv i (hr)) rfl | fail)) | (show GD _ _ _ _ _ _ _ _ _ _ (⟨some _, .indexAddr _ _ _, _, _, _, some _⟩ :: _); refine GD.gC ?_ (by first | (refine gi ?_; intros; exact LT.rd (Rd.ixv i (hr)) rfl) | fail) rfl rfl) | ((repeat (revert hK; revert K)); refine wk ?_; repeat intro K hK) | refine wkg ?_))
        refine G.at (i + 1) [(0, 0), (1, 1), (2, 3)] ⟨by omega, by omega⟩ ?_ ?_ (by decide)
        · dsimp only [bzS]
          rw [hs, show nl (frees (l.take i) ++ [i]) = nl (frees (l.take i)) ++ [(i : Int)] by simp [nl], il_app, List.length_append]
          exact (by repeat (first | exact trivial | refine ⟨⟨rfl, rfl⟩, ?_⟩))
        · dsimp only [bzS]
          rw [hs, show nl (frees (l.take i) ++ [i]) = nl (frees (l.take i)) ++ [(i : Int)] by simp [nl], il_app]
          exact (by repeat (first | exact trivial | refine ⟨⟨rfl, rfl, rfl⟩, ?_⟩ | refine ⟨⟨rfl, by rw [renL_d]; rfl, kbL_d _ _⟩, ?_⟩ | refine ⟨rfl, ?_⟩))
      · rw [if_neg hv, List.append_nil] at hs
        have hb : (l[i] == 0) = false := by simpa using hv
        dsimp only [bzS]
        (repeat (first | (show G _ _ _ _ (WL _ _ _ _ (⟨some _, .indexAddr _ _ _, _, _, _, none⟩ :: _)); refine G.w1 ?_ (by first | exact LT.rd (Rd.ixv i (hr)) rfl | fail)) | (show G _ _ _ _ (WL _ _ _ _ (⟨some _, .indexAddr _ _ _, _, _, _, some _⟩ :: _)); refine G.gC ?_ (by first | (refine gi ?_; intros; exact LT.rd (Rd.ixv i (hr)) rfl) | fail) rfl rfl) | (show GD _ _ _ _ _ _ _ _ _ _ (⟨some _, .indexAddr _ _ _, _, _, _, none⟩ :: _); refine GD.w1 ?_ (by first | exact LT.rd (Rd.ixv i (hr)) rfl | fail)) | (show GD _ _ _ _ _ _ _ _ _ _ (⟨some _, .indexAddr _ _ _, _, _, _, some _⟩ :: _); refine GD.gC ?_ (by first | (refine gi ?_; intros; exact LT.rd (Rd.ixv i (hr)) rfl) | fail) rfl rfl) | ((repeat (revert hK; revert K)); refine wk ?_; repeat intro K hK) | refine wkg ?_))
        rw [← hs]
        exact G.at (i + 1) [(0, 0), (1, 1), (2, 2)] ⟨by omega, by omega⟩ (by repeat (first | exact trivial | refine ⟨⟨rfl, rfl⟩, ?_⟩)) (by repeat (first | exact trivial | refine ⟨⟨rfl, rfl, rfl⟩, ?_⟩ | refine ⟨⟨rfl, by rw [renL_d]; rfl, kbL_d _ _⟩, ?_⟩ | refine ⟨rfl, ?_⟩)) (by decide)
    · have e : i = l.length := by omega
      subst e
      dsimp only [bzS]
      rw [List.take_length]
      refine G.frz (T := 3) (rows := il (nl (frees l))) 6 ?_ (il_row _) rfl
      (repeat (first | refine G.cW (hbd) ?_ | refine G.cgW (hbd) ?_ | refine GD.cW (hbd) ?_ | refine GD.cgW (hbd) ?_ | ((repeat (revert hK; revert K)); refine wk ?_; repeat intro K hK) | refine wkg ?_))
      refine G.fin2 (by first | exact rvOk.tmp | exact rvOk.cellS | exact rvOk.cell1 | fail) (by first | exact rvOk.tmp | exact rvOk.cellS | exact rvOk.cell1 | fail) rfl ?_
      rfl

end Go.Proofs.Ytohpbfcechbngaa
