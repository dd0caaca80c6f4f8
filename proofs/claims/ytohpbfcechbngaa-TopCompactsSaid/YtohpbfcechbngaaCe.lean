/- Buddy: Build, New. -/
import Derived.Test.YtohpbfcechbngaaCd
set_option linter.unusedSimpArgs false
set_option linter.unusedVariables false
namespace Go.Proofs.Ytohpbfcechbngaa
open Go.RowKit

theorem Fn.le {P : Program} {K : Nat} {ds es : List D} {R : D → Prop} (h : Fn P K es R) (hl : DL.le ds es) : Fn P K ds R := ⟨h.1, fun own W vs ho hv => h.2 own W vs ho (hl _ _ _ hv)⟩
/-- A zone with no lists yet. -/
def zZ (n : Nat) : List D := [.s (.int .i64 0), .s (.int .i64 0), .s (.int .i64 0), .s (.int .i64 n), .s (.int .i64 0), .s (.slice none 0 0), .s (.slice none 0 0), .s (.slice none 0 0), .s (.slice none 0 0), .s (.slice none 0 0)]
theorem zZ_le (n : Nat) : DL.le (zZ n) (zD n (fun _ => [])) := .cons (.refl _) (.cons (.refl _) (.cons (.refl _) (.cons (.refl _) (.cons (.refl _) (.cons .nil (.cons .nil (.cons .nil (.cons .nil (.cons .nil (.refl _))))))))))
/-- A list of frames. -/
def nl (l : List Nat) : List Int := l.map (fun x : Nat => (x : Int))
theorem nl_len (l : List Nat) : (il (nl l)).length = l.length := by simp [il, nl]
theorem nl_get (l : List Nat) (i : Nat) (h : i < l.length) : (il (nl l))[i]? = some [iD (l[i] : Nat)] := by simp [il, nl, h]
theorem bld_s (n : Nat) (l : List Nat) (i : Nat) (h : i < l.length) : bldF n (l.take (i + 1)) = putF n 4 0 l[i] (bldF n (l.take i)) := by
  unfold bldF
  rw [List.take_succ_eq_append_getElem h, List.foldl_append]
  rfl
theorem bld_ok (n : Nat) (hn : n ≤ 64) (l : List Nat) (hs : l.Pairwise (· < ·)) (hl : ∀ f ∈ l, f < n) (i : Nat) : (∀ j, j ≤ 4 → (bldF n (l.take i) j).Pairwise (· < ·)) ∧ (∀ j, j ≤ 4 → (bldF n (l.take i) j).length ≤ l.length) := by
  obtain ⟨h1, h2⟩ := bld_can n hn (l.take i) ((hs.imp (fun h => Nat.ne_of_lt h)).sublist (List.take_sublist _ _)) (fun f hf => hl f (List.mem_of_mem_take hf))
  refine ⟨h1.s, fun j hj => ?_⟩
  have h3 : (l.take i).length ≤ l.length := by rw [List.length_take]; omega
  unfold wgt at h2
  have h4 : j = 0 ∨ j = 1 ∨ j = 2 ∨ j = 3 ∨ j = 4 := by omega
  rcases h4 with rfl | rfl | rfl | rfl | rfl <;> omega
theorem low_len (n : Nat) (l : List Nat) (hs : l.Pairwise (· < ·)) (hl : ∀ f ∈ l, f < n) : l.length ≤ n := by
  have := List.Nodup.length_le_of_subset (l₂ := List.range n) (hs.imp (fun h => Nat.ne_of_lt h)) (fun f hf => List.mem_range.2 (hl f hf))
  simpa using this
def buS1 (n : Nat) (l : List Nat) (i : Nat) : List (Nat × AV) × Bs := ([(18, .d (.s (.int .i64 (i : Nat)))), (17, .d (.s (.int .i64 l.length))), (16, .d (.l (il (nl l)))), (1, .d (.l (il (nl l)))), (2, .p 0 0), (4, .p 1 0), (5, .d (.s (.int .i64 0)))], [(0, some (28, (zZ n).map .d)), (1, some (28, (zZ 0).map .d))])
def buS2 (n : Nat) (l : List Nat) (i : Nat) : List (Nat × AV) × Bs := ([(43, .d (.s (.int .i64 (i : Nat)))), (42, .d (.s (.int .i64 l.length))), (41, .d (.l (il (nl l)))), (2, .p 100 0), (4, .p 1 0), (5, .d (.s (.int .i64 0)))], (1, some (28, (zZ 0).map .d)) :: puB n (bldF n (l.take i)))
attribute [local irreducible] Wp WL WO fin finB rnd Exit.then Exit.inBlock G GD LT Rd Fn FnB FvB Iter
attribute [local go_sem] zD zZ iD
set_option maxHeartbeats 4000000 in
theorem build_F (n : Nat) (h1 : 1 ≤ n) (hn : n ≤ 64) (L : Nat → List Int) (l : List Nat) (hs : l.Pairwise (· < ·)) (hl : ∀ f ∈ l, f < n) : Fn Try.prog 14 [.st (zD n L), .l (il (nl l))] (· = .tup [.st (zD n (bldF n l)), .s (.int .i64 0)]) := by
  have hlen : ((il (nl l)).length : Int) = l.length := by rw [nl_len]
  have hl64 : l.length ≤ 64 := Nat.le_trans (low_len n l hs hl) hn
  have hrg := ranges_F n h1 hn L
  unfold zD at hrg
  unfold zD
  refine Fn.of Try.func14 Try.ntmps14 rfl (by kernel_rfl) (fun w o => ?_)
  (repeat (first | refine G.cW (hrg) ?_ | refine G.cgW (hrg) ?_ | refine GD.cW (hrg) ?_ | refine GD.cgW (hrg) ?_ | (show G _ _ _ _ (WL _ _ _ _ (⟨none, _, _, _, _, none⟩ :: _)); refine G.w0 ?_ (by first | exact LT.stp (cs' := (zZ n).map AV.d) rfl | fail)) | (show GD _ _ _ _ _ _ _ _ _ _ (⟨none, _, _, _, _, none⟩ :: _); refine GD.w0 ?_ (by first | exact LT.stp (cs' := (zZ n).map AV.d) rfl | fail)) | (show G _ _ _ _ (WL _ _ _ _ (⟨some _, .build _ _, _, _, _, none⟩ :: _)); refine G.w1 ?_ (by first | exact LT.arB | fail)) | (show G _ _ _ _ (WL _ _ _ _ (⟨some _, .build _ _, _, _, _, some _⟩ :: _)); refine G.gC ?_ (by first | (refine gi ?_; intros; exact LT.arB) | fail) rfl rfl) | (show GD _ _ _ _ _ _ _ _ _ _ (⟨some _, .build _ _, _, _, _, none⟩ :: _); refine GD.w1 ?_ (by first | exact LT.arB | fail)) | (show GD _ _ _ _ _ _ _ _ _ _ (⟨some _, .build _ _, _, _, _, some _⟩ :: _); refine GD.gC ?_ (by first | (refine gi ?_; intros; exact LT.arB) | fail) rfl rfl) | (show G _ _ _ _ (WL _ _ _ _ (⟨some _, .indexAddr _ _ _, _, _, _, none⟩ :: _)); refine G.w1 ?_ (by first | exact LT.arI | fail)) | (show G _ _ _ _ (WL _ _ _ _ (⟨some _, .indexAddr _ _ _, _, _, _, some _⟩ :: _)); refine G.gC ?_ (by first | (refine gi ?_; intros; exact LT.arI) | fail) rfl rfl) | (show GD _ _ _ _ _ _ _ _ _ _ (⟨some _, .indexAddr _ _ _, _, _, _, none⟩ :: _); refine GD.w1 ?_ (by first | exact LT.arI | fail)) | (show GD _ _ _ _ _ _ _ _ _ _ (⟨some _, .indexAddr _ _ _, _, _, _, some _⟩ :: _); refine GD.gC ?_ (by first | (refine gi ?_; intros; exact LT.arI) | fail) rfl rfl) | (show G _ _ _ _ (WL _ _ _ _ (⟨some _, .index _ _ _, _, _, _, none⟩ :: _)); refine G.w1 ?_ (by first | exact LT.arE | fail)) | (show G _ _ _ _ (WL _ _ _ _ (⟨some _, .index _ _ _, _, _, _, some _⟩ :: _)); refine G.gC ?_ (by first | (refine gi ?_; intros; exact LT.arE) | fail) rfl rfl) | (show GD _ _ _ _ _ _ _ _ _ _ (⟨some _, .index _ _ _, _, _, _, none⟩ :: _); refine GD.w1 ?_ (by first | exact LT.arE | fail)) | (show GD _ _ _ _ _ _ _ _ _ _ (⟨some _, .index _ _ _, _, _, _, some _⟩ :: _); refine GD.gC ?_ (by first | (refine gi ?_; intros; exact LT.arE) | fail) rfl rfl) | ((repeat (revert hK; revert K)); refine wk ?_; repeat intro K hK) | refine wkg ?_))
  rw [hlen]
  refine G.loop (buS1 n l) (fun i => i ≤ l.length) (fun i => l.length - i) ?_ ?_
  · exact G.at 0 [(0, 0), (1, 1)] (Nat.zero_le _) (by repeat (first | exact trivial | refine ⟨⟨rfl, rfl⟩, ?_⟩)) (by repeat (first | exact trivial | refine ⟨⟨rfl, rfl, rfl⟩, ?_⟩ | refine ⟨⟨rfl, by rw [renL_d]; rfl, kbL_d _ _⟩, ?_⟩ | refine ⟨rfl, ?_⟩)) (by decide)
  · intro i hi
    dsimp only [buS1, zZ]
    by_cases h : i < l.length
    · have hr := nl_get l i h
      have hin := (inside_F n l[i] 0 hn (by have := hl _ (List.getElem_mem h); omega) (by decide) (fun _ => [])).le (.cons (.st (zZ_le n)) (.refl _))
      have hiv : insV n l[i] 0 = true := by
        have := hl _ (List.getElem_mem h)
        unfold insV
        simp
        omega
      rw [hiv] at hin
      unfold zZ at hin
      by_cases h0 : i = 0
      · subst h0
        (repeat (first | refine G.cW (hin) ?_ | refine G.cgW (hin) ?_ | refine GD.cW (hin) ?_ | refine GD.cgW (hin) ?_ | (show G _ _ _ _ (WL _ _ _ _ (⟨some _, .indexAddr _ _ _, _, _, _, none⟩ :: _)); refine G.w1 ?_ (by first | exact LT.rd (Rd.ixv 0 (hr)) rfl | fail)) | (show G _ _ _ _ (WL _ _ _ _ (⟨some _, .indexAddr _ _ _, _, _, _, some _⟩ :: _)); refine G.gC ?_ (by first | (refine gi ?_; intros; exact LT.rd (Rd.ixv 0 (hr)) rfl) | fail) rfl rfl) | (show GD _ _ _ _ _ _ _ _ _ _ (⟨some _, .indexAddr _ _ _, _, _, _, none⟩ :: _); refine GD.w1 ?_ (by first | exact LT.rd (Rd.ixv 0 (hr)) rfl | fail)) | (show GD _ _ _ _ _ _ _ _ _ _ (⟨some _, .indexAddr _ _ _, _, _, _, some _⟩ :: _); refine GD.gC ?_ (by first | (refine gi ?_; intros; exact LT.rd (Rd.ixv 0 (hr)) rfl) | fail) rfl rfl) | ((repeat (revert hK; revert K)); refine wk ?_; repeat intro K hK) | refine wkg ?_))
        exact G.at 1 [(0, 0), (1, 1)] ⟨by omega, by omega⟩ (by repeat (first | exact trivial | refine ⟨⟨rfl, rfl⟩, ?_⟩)) (by repeat (first | exact trivial | refine ⟨⟨rfl, rfl, rfl⟩, ?_⟩ | refine ⟨⟨rfl, by rw [renL_d]; rfl, kbL_d _ _⟩, ?_⟩ | refine ⟨rfl, ?_⟩)) (by decide)
      · have hr1 := nl_get l (i - 1) (by omega)
        have hlt : ((l[i - 1] : Nat) : Int) < (l[i] : Nat) := by
          have := List.pairwise_iff_getElem.1 hs (i - 1) i (by omega) h (by omega)
          omega
        have hb : decide ((0 : Int) < (i : Int)) = true := by simp; omega
        (repeat (first | refine G.cW (hin) ?_ | refine G.cgW (hin) ?_ | refine GD.cW (hin) ?_ | refine GD.cgW (hin) ?_ | (show G _ _ _ _ (WL _ _ _ _ (⟨some _, .indexAddr _ _ _, _, _, _, none⟩ :: _)); refine G.w1 ?_ (by first | exact LT.rd (Rd.ixv i (hr)) rfl | fail)) | (show G _ _ _ _ (WL _ _ _ _ (⟨some _, .indexAddr _ _ _, _, _, _, some _⟩ :: _)); refine G.gC ?_ (by first | (refine gi ?_; intros; exact LT.rd (Rd.ixv i (hr)) rfl) | fail) rfl rfl) | (show GD _ _ _ _ _ _ _ _ _ _ (⟨some _, .indexAddr _ _ _, _, _, _, none⟩ :: _); refine GD.w1 ?_ (by first | exact LT.rd (Rd.ixv i (hr)) rfl | fail)) | (show GD _ _ _ _ _ _ _ _ _ _ (⟨some _, .indexAddr _ _ _, _, _, _, some _⟩ :: _); refine GD.gC ?_ (by first | (refine gi ?_; intros; exact LT.rd (Rd.ixv i (hr)) rfl) | fail) rfl rfl) | (show G _ _ _ _ (WL _ _ _ _ (⟨some _, .indexAddr _ _ _, _, _, _, none⟩ :: _)); refine G.w1 ?_ (by first | exact LT.rd (Rd.ixv (i - 1) (hr1)) rfl | fail)) | (show G _ _ _ _ (WL _ _ _ _ (⟨some _, .indexAddr _ _ _, _, _, _, some _⟩ :: _)); refine G.gC ?_ (by first | (refine gi ?_; intros; exact LT.rd (Rd.ixv (i - 1) (hr1)) rfl) | fail) rfl rfl) | (show GD _ _ _ _ _ _ _ _ _ _ (⟨some _, .indexAddr _ _ _, _, _, _, none⟩ :: _); refine GD.w1 ?_ (by first | exact LT.rd (Rd.ixv (i - 1) (hr1)) rfl | fail)) | (show GD _ _ _ _ _ _ _ _ _ _ (⟨some _, .indexAddr _ _ _, _, _, _, some _⟩ :: _); refine GD.gC ?_ (by first | (refine gi ?_; intros; exact LT.rd (Rd.ixv (i - 1) (hr1)) rfl) | fail) rfl rfl) | ((repeat (revert hK; revert K)); refine wk ?_; repeat intro K hK) | refine wkg ?_))
        exact G.at (i + 1) [(0, 0), (1, 1)] ⟨by omega, by omega⟩ (by repeat (first | exact trivial | refine ⟨⟨rfl, rfl⟩, ?_⟩)) (by repeat (first | exact trivial | refine ⟨⟨rfl, rfl, rfl⟩, ?_⟩ | refine ⟨⟨rfl, by rw [renL_d]; rfl, kbL_d _ _⟩, ?_⟩ | refine ⟨rfl, ?_⟩)) (by decide)
    · have e : i = l.length := by omega
      subst e
      (repeat (first | ((repeat (revert hK; revert K)); refine wk ?_; repeat intro K hK) | refine wkg ?_))
      rw [hlen]
      refine G.nilAt 0 5 101 3 ?_
      refine G.nilAt 0 6 103 3 ?_
      refine G.nilAt 0 7 105 3 ?_
      refine G.nilAt 0 8 107 3 ?_
      refine G.nilAt 0 9 109 3 ?_
      refine G.loop (buS2 n l) (fun i => i ≤ l.length) (fun i => l.length - i) ?_ ?_
      · exact G.at 0 [(1, 1), (100, 0), (101, 101), (103, 103), (105, 105), (107, 107), (109, 109)] (Nat.zero_le _) (by repeat (first | exact trivial | refine ⟨⟨rfl, rfl⟩, ?_⟩)) (by repeat (first | exact trivial | refine ⟨⟨rfl, rfl, rfl⟩, ?_⟩ | refine ⟨⟨rfl, by rw [renL_d]; rfl, kbL_d _ _⟩, ?_⟩ | refine ⟨rfl, ?_⟩)) (by decide)
      · intro i hi
        obtain ⟨hs1, hl1⟩ := bld_ok n hn l hs hl i
        by_cases h : i < l.length
        · have hr := nl_get l i h
          have hp := put_O n l[i] hn (by have := hl _ (List.getElem_mem h); omega) (bldF n (l.take i)) hs1 (fun j hj => by have := hl1 j hj; omega)
          have hs2 := bld_s n l i h
          unfold puB at hp
          dsimp only [buS2, puB, zZ]
          (repeat (first | (show G _ _ _ _ (WL _ _ _ _ (⟨some _, .indexAddr _ _ _, _, _, _, none⟩ :: _)); refine G.w1 ?_ (by first | exact LT.rd (Rd.ixv i (hr)) rfl | fail)) | (show G _ _ _ _ (WL _ _ _ _ (⟨some _, .indexAddr _ _ _, _, _, _, some _⟩ :: _)); refine G.gC ?_ (by first | (refine gi ?_; intros; exact LT.rd (Rd.ixv i (hr)) rfl) | fail) rfl rfl) | (show GD _ _ _ _ _ _ _ _ _ _ (⟨some _, .indexAddr _ _ _, _, _, _, none⟩ :: _); refine GD.w1 ?_ (by first | exact LT.rd (Rd.ixv i (hr)) rfl | fail)) | (show GD _ _ _ _ _ _ _ _ _ _ (⟨some _, .indexAddr _ _ _, _, _, _, some _⟩ :: _); refine GD.gC ?_ (by first | (refine gi ?_; intros; exact LT.rd (Rd.ixv i (hr)) rfl) | fail) rfl rfl) | (show G _ _ _ _ (WL _ _ _ _ (⟨some _, .call _, _, _, _, none⟩ :: _)); refine G.cvW (hp.v0) ?_) | ((repeat (revert hK; revert K)); refine wkT ?_; repeat intro K hK) | refine wkg ?_))
          rw [← hs2]
          exact G.at (i + 1) [(1, 1), (100, 100), (101, 101), (103, 103), (105, 105), (107, 107), (109, 109)] ⟨by omega, by omega⟩ (by repeat (first | exact trivial | refine ⟨⟨rfl, rfl⟩, ?_⟩)) (by repeat (first | exact trivial | refine ⟨⟨rfl, rfl, rfl⟩, ?_⟩ | refine ⟨⟨rfl, by rw [renL_d]; rfl, kbL_d _ _⟩, ?_⟩ | refine ⟨rfl, ?_⟩)) (by decide)
        · have e : i = l.length := by omega
          subst e
          dsimp only [buS2, puB, zZ]
          rw [List.take_length]
          refine G.frzAt (T := 3) 100 5 101 ?_ (by rfl) (il_row _) rfl
          refine G.frzAt (T := 3) 100 6 103 ?_ (by rfl) (il_row _) rfl
          refine G.frzAt (T := 3) 100 7 105 ?_ (by rfl) (il_row _) rfl
          refine G.frzAt (T := 3) 100 8 107 ?_ (by rfl) (il_row _) rfl
          refine G.frzAt (T := 3) 100 9 109 ?_ (by rfl) (il_row _) rfl
          (repeat (first | ((repeat (revert hK; revert K)); refine wk ?_; repeat intro K hK) | refine wkg ?_))
          refine G.fin2 (by first | exact rvOk.tmp | exact rvOk.cellS | exact rvOk.cell1 | fail) (by first | exact rvOk.tmp | exact rvOk.cellS | exact rvOk.cell1 | fail) rfl ?_
          rfl

end Go.Proofs.Ytohpbfcechbngaa
