/- The law on a page, a flush, and the inode behind it. -/
import Derived.Test.YtohkigillmlinaaDvi
import Derived.Test.YtohkigillmlinaaDvj
set_option linter.unusedSimpArgs false
set_option linter.unusedVariables false
namespace Go.Proofs.Ytohkigillmlinaa
open Go.RowKit

instance : TAr Try.prog 51 2 5 [(0, 1), (1, 1)] := ⟨by kernel_rfl, rfl⟩
def pgV (v : Int) : List Int := List.replicate 32 v
def zrV : List Int := List.replicate 32 0
/-- The device at a stage, with an empty queue. -/
def bsA (v : Int) (st : Nat) : List (List Int) := [if st = 4 then encL 2 3 else encL 1 1, zrV, if 2 ≤ st then pgV v else zrV]
def chA (v : Int) (st : Nat) : List CV := if st = 1 then [⟨2, pgV v⟩] else if st = 3 then [⟨0, encL 2 3⟩] else []
def aD (v : Int) (st : Nat) (nx : Int) : DV := ⟨2, nx, bsA v st, chA v st, []⟩
/-- The stage's request. -/
def rqA (v : Int) (st : Nat) (nx : Int) : QV := if st = 0 then ⟨nx, 2, 2, pgV v⟩ else if st = 2 then ⟨nx, 2, 0, encL 2 3⟩ else ⟨nx, 3, 0, []⟩
def aS (v : Int) (st : Nat) (nx : Int) : DV := { aD v st nx with nxt := nx + 1, q := [rqA v st nx] }
theorem lt5 {st : Nat} (h : st ≤ 4) : st = 0 ∨ st = 1 ∨ st = 2 ∨ st = 3 ∨ st = 4 := by omega
theorem aD_ok (v : Int) {st : Nat} (hs : st ≤ 4) {nx : Int} (hn : 0 ≤ nx ∧ nx < 90000) : (aD v st nx).ok := by
  refine ⟨⟨by show (1 : Int) ≤ 2; decide, by show (2 : Int) ≤ 16; decide⟩, ⟨hn.1, by show nx ≤ _; omega⟩, ⟨by show 1 ≤ 3; decide, by show 3 ≤ 256; decide⟩, fun i hi => ?_, fun i hi => ?_, ?_, by show ((0 : Nat) : Int) ≤ 2; decide, fun i hi => nomatch hi⟩
  · have h3 : i < 3 := hi
    have : i = 0 ∨ i = 1 ∨ i = 2 := by omega
    rcases this with rfl | rfl | rfl
    · show (if st = 4 then encL 2 3 else encL 1 1).length = 32
      split <;> rfl
    · rfl
    · show (if 2 ≤ st then pgV v else zrV).length = 32
      split
      · show (List.replicate 32 v).length = 32; rw [List.length_replicate]
      · rfl
  · rcases lt5 hs with rfl | rfl | rfl | rfl | rfl
    · exact nomatch hi
    · have : i = 0 := by simpa [aD, chA] using hi
      subst this
      exact ⟨by show (-1 : Int) < 2; decide, by show (2 : Int) < 3; decide, by show (List.replicate 32 v).length = 32; rw [List.length_replicate]⟩
    · exact nomatch hi
    · have : i = 0 := by simpa [aD, chA] using hi
      subst this
      exact ⟨by show (-1 : Int) < 0; decide, by show (0 : Int) < 3; decide, rfl⟩
    · exact nomatch hi
  · rcases lt5 hs with rfl | rfl | rfl | rfl | rfl <;> simp [aD, chA]
theorem rqA_ok (v : Int) (st : Nat) (nx : Int) : (rqA v st nx).ok 3 := by
  unfold rqA
  split
  · exact .inl ⟨rfl, by show (0 : Int) ≤ 2; decide, by show (2 : Int) < 3; decide, by show (List.replicate 32 v).length = 32; rw [List.length_replicate]⟩
  · split
    · exact .inl ⟨rfl, by show (0 : Int) ≤ 0; decide, by show (0 : Int) < 3; decide, rfl⟩
    · exact .inr ⟨rfl, rfl, rfl⟩
theorem aS_sub (v : Int) {st : Nat} (nx : Int) : aS v st nx = subV (aD v st nx) (rqA v st nx).k (rqA v st nx).b (rqA v st nx).p := by
  unfold aS subV
  have : (⟨nx, (rqA v st nx).k, (rqA v st nx).b, (rqA v st nx).p⟩ : QV) = rqA v st nx := by
    unfold rqA
    split
    · rfl
    · split <;> rfl
  show _ = { aD v st nx with nxt := nx + 1, q := [] ++ [(⟨nx, (rqA v st nx).k, (rqA v st nx).b, (rqA v st nx).p⟩ : QV)] }
  rw [this]
  rfl
theorem aS_ok (v : Int) {st : Nat} (hs : st ≤ 4) {nx : Int} (hn : 0 ≤ nx ∧ nx < 80000) : (aS v st nx).ok := by
  rw [aS_sub]
  refine subV_ok (aD_ok v hs ⟨hn.1, by omega⟩) _ _ _ ?_ (by show nx < 100000; omega) (by show ((0 : Nat) : Int) < 2; decide)
  have := rqA_ok v st nx
  unfold QV.ok at this ⊢
  exact this
theorem aS_cmp (v : Int) {st : Nat} (hs : st ≤ 3) (nx : Int) (ok : Bool) : cmpV (aS v st nx) [] (rqA v st nx) ok = aD v (if ok then st + 1 else st) (nx + 1) := by
  have : st = 0 ∨ st = 1 ∨ st = 2 ∨ st = 3 := by omega
  rcases this with rfl | rfl | rfl | rfl <;> cases ok <;> rfl
/-- What a crash may leave. -/
def aftP (v : Int) (st : Nat) (d : DV) : Prop := ∀ picks, ∃ (h : (crV d picks).bs.length = 3), ((crV d picks).bs[0] = encL 1 1 ∧ st < 4) ∨ ((crV d picks).bs[0] = encL 2 3 ∧ (crV d picks).bs[2] = pgV v)
theorem aD_aft (v : Int) {st : Nat} (hs : st ≤ 4) (nx : Int) : aftP v st (aD v st nx) := by
  intro picks
  rcases lt5 hs with rfl | rfl | rfl | rfl | rfl
  · exact ⟨rfl, .inl ⟨rfl, by decide⟩⟩
  · have : (crV (aD v 1 nx) picks).bs = (if picks.getD 0 false then (bsA v 1).set 2 (pgV v) else bsA v 1) := rfl
    simp only [this]
    split
    · exact ⟨rfl, .inl ⟨rfl, by decide⟩⟩
    · exact ⟨rfl, .inl ⟨rfl, by decide⟩⟩
  · exact ⟨rfl, .inl ⟨rfl, by decide⟩⟩
  · have : (crV (aD v 3 nx) picks).bs = (if picks.getD 0 false then (bsA v 3).set 0 (encL 2 3) else bsA v 3) := rfl
    simp only [this]
    split
    · exact ⟨rfl, .inr ⟨rfl, rfl⟩⟩
    · exact ⟨rfl, .inl ⟨rfl, by decide⟩⟩
  · exact ⟨rfl, .inr ⟨rfl, rfl⟩⟩
theorem aS_aft (v : Int) {st : Nat} (hs : st ≤ 3) (nx : Int) : aftP v st (aS v st nx) := by
  intro picks
  have : st = 0 ∨ st = 1 ∨ st = 2 ∨ st = 3 := by omega
  rcases this with rfl | rfl | rfl | rfl
  · have : (crV (aS v 0 nx) picks).bs = (if picks.getD 0 false then (bsA v 0).set 2 (pgV v) else bsA v 0) := rfl
    simp only [this]
    split
    · exact ⟨rfl, .inl ⟨rfl, by decide⟩⟩
    · exact ⟨rfl, .inl ⟨rfl, by decide⟩⟩
  · have : (crV (aS v 1 nx) picks).bs = (if picks.getD 0 false then (bsA v 1).set 2 (pgV v) else bsA v 1) := rfl
    simp only [this]
    split
    · exact ⟨rfl, .inl ⟨rfl, by decide⟩⟩
    · exact ⟨rfl, .inl ⟨rfl, by decide⟩⟩
  · have : (crV (aS v 2 nx) picks).bs = (if picks.getD 0 false then (bsA v 2).set 0 (encL 2 3) else bsA v 2) := rfl
    simp only [this]
    split
    · exact ⟨rfl, .inr ⟨rfl, rfl⟩⟩
    · exact ⟨rfl, .inl ⟨rfl, by decide⟩⟩
  · have : (crV (aS v 3 nx) picks).bs = (if picks.getD 0 false then (bsA v 3).set 0 (encL 2 3) else bsA v 3) := rfl
    simp only [this]
    split
    · exact ⟨rfl, .inr ⟨rfl, rfl⟩⟩
    · exact ⟨rfl, .inl ⟨rfl, by decide⟩⟩
/-- The law's test is not decided before its cut. -/
def eZ (nx : Int) : Int := 0 * nx
theorem eZ_0 (nx : Int) : eZ nx = 0 := Int.zero_mul _

attribute [local irreducible] Wp WL WO fin finB rnd Exit.then Exit.inBlock G GD LT Rd Fn FnB FvB Iter
attribute [local go_sem] DV.row QV.row CV.row
theorem subA0_F (v : Int) (nx : Int) (hn : 0 ≤ nx ∧ nx < 80000) : Fn Try.prog 8 [.st (aD v 0 nx).row, .s (.int .i64 2), .s (.int .i64 2), byD (pgV v)] (· = .tup [.st (aS v 0 nx).row, .s (.int .i64 nx), .s (.int .i64 (eZ nx))]) := by
  have h := subW_F (aD v 0 nx) (aD_ok v (by decide) ⟨hn.1, by omega⟩) 2 (pgV v) ⟨by decide, by show (2 : Int) < 3; decide⟩ (by show (List.replicate 32 v).length = 32; rw [List.length_replicate]) (by show nx < _; omega) (by show ((0 : Nat) : Int) < 2; decide)
  rw [aS_sub, eZ_0]
  exact h
theorem subA2_F (v : Int) (nx : Int) (hn : 0 ≤ nx ∧ nx < 80000) : Fn Try.prog 8 [.st (aD v 2 nx).row, .s (.int .i64 2), .s (.int .i64 0), byD (encL 2 3)] (· = .tup [.st (aS v 2 nx).row, .s (.int .i64 nx), .s (.int .i64 (eZ nx))]) := by
  have h := subW_F (aD v 2 nx) (aD_ok v (by decide) ⟨hn.1, by omega⟩) 0 (encL 2 3) ⟨by decide, by show (0 : Int) < 3; decide⟩ rfl (by show nx < _; omega) (by show ((0 : Nat) : Int) < 2; decide)
  rw [aS_sub, eZ_0]
  exact h
theorem subAf_F (v : Int) {st : Nat} (hs : st = 1 ∨ st = 3) (nx : Int) (hn : 0 ≤ nx ∧ nx < 80000) : Fn Try.prog 8 [.st (aD v st nx).row, .s (.int .i64 3), .s (.int .i64 0), .s (.slice none 0 0)] (· = .tup [.st (aS v st nx).row, .s (.int .i64 nx), .s (.int .i64 (eZ nx))]) := by
  have h := subF_F (aD v st nx) (aD_ok v (by omega) ⟨hn.1, by omega⟩) (by show nx < _; omega) (by show ((0 : Nat) : Int) < 2; decide)
  rw [aS_sub, eZ_0]
  rcases hs with rfl | rfl <;> exact h
structure AfI where
  st : Nat
  lf : Nat
  tr : Nat
  nx : Int
def AfI.ok (z : AfI) : Prop := z.st ≤ 4 ∧ z.lf ≤ 49 ∧ z.tr + z.lf ≤ 49 ∧ 0 ≤ z.nx ∧ z.nx + z.lf ≤ 49
def afI (v : Int) (f p : List Bool) (z : AfI) : List (Nat × AV) × Bs := ([(16, .d (.s (.int .i64 (z.st : Int)))), (17, .d (.s (.int .i64 (z.lf : Int)))), (18, .d (.s (.int .i64 (z.tr : Int)))), (14, .p 0 0), (10, .d (byD (encL 2 3))), (13, .d (byD (pgV v))), (1, .d (.l (pkR f))), (2, .d (.l (pkR p)))], [(0, some (33, (aD v z.st z.nx).row.map .d))])
/-- Behind Submit. -/
def ajI (v : Int) (f p : List Bool) (z : AfI) : List (Nat × AV) × Bs := ([(16, .d (.s (.int .i64 (z.st : Int)))), (17, .d (.s (.int .i64 (z.lf : Int)))), (18, .d (.s (.int .i64 (z.tr : Int)))), (14, .p 0 0), (22, .p 1 0), (10, .d (byD (encL 2 3))), (13, .d (byD (pgV v))), (1, .d (.l (pkR f))), (2, .d (.l (pkR p)))], [(0, some (33, (aD v z.st z.nx).row.map .d)), (1, some (33, (aS v z.st z.nx).row.map .d))])
/-- Behind the loop. -/
def akI (v : Int) (p : List Bool) (z : Nat × DV) : List (Nat × AV) × Bs := ([(16, .d (.s (.int .i64 (z.1 : Int)))), (14, .p 0 0), (13, .d (byD (pgV v))), (2, .d (.l (pkR p)))], [(0, some (33, z.2.row.map .d))])
set_option maxHeartbeats 4000000 in
theorem law_after (a b : Int) (wa : 0 ≤ a ∧ a ≤ 255) (wb : 0 ≤ b ∧ b ≤ 255) (f p : List Bool) : Fn Try.prog 4 [.st [.s (.int .u8 a), .s (.int .u8 b)], .l (pkR f), .l (pkR p)] (· = .s (.bool true)) := by
  have ha := awake14_F
  have hlf : ((pkR f).length : Int) = f.length := by rw [pkR_len]
  have hlp : ((pkR p).length : Int) = p.length := by rw [pkR_len]
  by_cases hbig : f.length > 50 ∨ p.length > 100
  · have hb : ((!true || decide (50 < ((pkR f).length : Int))) || decide (100 < ((pkR p).length : Int))) = true := by
      rw [hlf, hlp]; simp; omega
    refine Fn.of Try.func4 Try.ntmps4 rfl (by kernel_rfl) (fun w o => ?_)
    (repeat (first | refine G.cW (ha) ?_ | refine G.cgW (ha) ?_ | refine GD.cW (ha) ?_ | refine GD.cgW (ha) ?_ | ((repeat (revert hK; revert K)); refine wk ?_; repeat intro K hK) | refine wkg ?_))
    refine G.fin1 (by first | exact rvOk.tmp | exact rvOk.cellS | exact rvOk.cell1 | fail) rfl ?_
    rfl
  · have hb : ((!true || decide (50 < ((pkR f).length : Int))) || decide (100 < ((pkR p).length : Int))) = false := by
      rw [hlf, hlp]; simp; omega
    have h1 := inodeOf_F 1 1 (by decide) (by decide)
    rw [show inS 1 = 1 from rfl, show inM 1 1 = 1 from rfl] at h1
    have h3 := inodeOf_F 2 3 (by decide) (by decide)
    rw [show inS 2 = 2 from rfl, show inM 2 3 = 3 from rfl] at h3
    have hrp := rep_F (Max.max 1 a)
    rw [show byD [Max.max 1 a] = .l [[.s (.int .u8 (Max.max 1 a))]] from rfl] at hrp
    obtain ⟨v, hv⟩ : ∃ v, v = Max.max 1 a := ⟨_, rfl⟩
    rw [← hv] at hrp
    have hd := aD_ok v (st := 0) (by decide) (nx := 0) (by decide)
    have h2 := new_F 2 [encL 1 1, zrV, zrV] hd
    rw [show bsR [encL 1 1, zrV, zrV] = [[byD (encL 1 1)], [.l (List.replicate 32 [D.s (.int .u8 0)])], [.l (List.replicate 32 [D.s (.int .u8 0)])]] from rfl] at h2
    have w1 : IntKind.i64.wrap (b % 50) = b % 50 := Yq _ (by omega)
    refine Fn.of Try.func4 Try.ntmps4 rfl (by kernel_rfl) (fun w o => ?_)
    (repeat (first | refine G.cW (ha) ?_ | refine G.cgW (ha) ?_ | refine GD.cW (ha) ?_ | refine GD.cgW (ha) ?_ | refine G.cW (h1) ?_ | refine G.cgW (h1) ?_ | refine GD.cW (h1) ?_ | refine GD.cgW (h1) ?_ | refine G.cW (h3) ?_ | refine G.cgW (h3) ?_ | refine GD.cW (h3) ?_ | refine GD.cgW (h3) ?_ | refine G.cW (h2) ?_ | refine G.cgW (h2) ?_ | refine GD.cW (h2) ?_ | refine GD.cgW (h2) ?_ | (show G _ _ _ _ (WL _ _ _ _ (⟨some _, .call _, _, _, _, none⟩ :: _)); refine G.w1 ?_ (by first | exact LT.mx8 | fail)) | (show G _ _ _ _ (WL _ _ _ _ (⟨some _, .call _, _, _, _, some _⟩ :: _)); refine G.gC ?_ (by first | (refine gi ?_; intros; exact LT.mx8) | fail) rfl rfl) | (show GD _ _ _ _ _ _ _ _ _ _ (⟨some _, .call _, _, _, _, none⟩ :: _); refine GD.w1 ?_ (by first | exact LT.mx8 | fail)) | (show GD _ _ _ _ _ _ _ _ _ _ (⟨some _, .call _, _, _, _, some _⟩ :: _); refine GD.gC ?_ (by first | (refine gi ?_; intros; exact LT.mx8) | fail) rfl rfl) | (show G _ _ _ _ (WL _ _ _ _ (⟨some _, .build _ _, _, _, _, none⟩ :: _)); refine G.w1 ?_ (by first | exact LT.arB | fail)) | (show G _ _ _ _ (WL _ _ _ _ (⟨some _, .build _ _, _, _, _, some _⟩ :: _)); refine G.gC ?_ (by first | (refine gi ?_; intros; exact LT.arB) | fail) rfl rfl) | (show GD _ _ _ _ _ _ _ _ _ _ (⟨some _, .build _ _, _, _, _, none⟩ :: _); refine GD.w1 ?_ (by first | exact LT.arB | fail)) | (show GD _ _ _ _ _ _ _ _ _ _ (⟨some _, .build _ _, _, _, _, some _⟩ :: _); refine GD.gC ?_ (by first | (refine gi ?_; intros; exact LT.arB) | fail) rfl rfl) | (show G _ _ _ _ (WL _ _ _ _ (⟨some _, .indexAddr _ _ _, _, _, _, none⟩ :: _)); refine G.w1 ?_ (by first | exact LT.arI | fail)) | (show G _ _ _ _ (WL _ _ _ _ (⟨some _, .indexAddr _ _ _, _, _, _, some _⟩ :: _)); refine G.gC ?_ (by first | (refine gi ?_; intros; exact LT.arI) | fail) rfl rfl) | (show GD _ _ _ _ _ _ _ _ _ _ (⟨some _, .indexAddr _ _ _, _, _, _, none⟩ :: _); refine GD.w1 ?_ (by first | exact LT.arI | fail)) | (show GD _ _ _ _ _ _ _ _ _ _ (⟨some _, .indexAddr _ _ _, _, _, _, some _⟩ :: _); refine GD.gC ?_ (by first | (refine gi ?_; intros; exact LT.arI) | fail) rfl rfl) | (show G _ _ _ _ (WL _ _ _ _ (⟨some _, .index _ _ _, _, _, _, none⟩ :: _)); refine G.w1 ?_ (by first | exact LT.arE | fail)) | (show G _ _ _ _ (WL _ _ _ _ (⟨some _, .index _ _ _, _, _, _, some _⟩ :: _)); refine G.gC ?_ (by first | (refine gi ?_; intros; exact LT.arE) | fail) rfl rfl) | (show GD _ _ _ _ _ _ _ _ _ _ (⟨some _, .index _ _ _, _, _, _, none⟩ :: _); refine GD.w1 ?_ (by first | exact LT.arE | fail)) | (show GD _ _ _ _ _ _ _ _ _ _ (⟨some _, .index _ _ _, _, _, _, some _⟩ :: _); refine GD.gC ?_ (by first | (refine gi ?_; intros; exact LT.arE) | fail) rfl rfl) | ((repeat (revert hK; revert K)); refine wk ?_; repeat intro K hK) | refine wkg ?_))
    rw [← hv]
    (repeat (first | refine G.cW (hrp) ?_ | refine G.cgW (hrp) ?_ | refine GD.cW (hrp) ?_ | refine GD.cgW (hrp) ?_ | refine G.cW (h2) ?_ | refine G.cgW (h2) ?_ | refine GD.cW (h2) ?_ | refine GD.cgW (h2) ?_ | (show G _ _ _ _ (WL _ _ _ _ (⟨some _, .makeSlice _ _ _, _, _, _, none⟩ :: _)); refine G.w1 ?_ (by first | exact LT.mkD (m := 32) (by decide) | fail)) | (show G _ _ _ _ (WL _ _ _ _ (⟨some _, .makeSlice _ _ _, _, _, _, some _⟩ :: _)); refine G.gC ?_ (by first | (refine gi ?_; intros; exact LT.mkD (m := 32) (by decide)) | fail) rfl rfl) | (show GD _ _ _ _ _ _ _ _ _ _ (⟨some _, .makeSlice _ _ _, _, _, _, none⟩ :: _); refine GD.w1 ?_ (by first | exact LT.mkD (m := 32) (by decide) | fail)) | (show GD _ _ _ _ _ _ _ _ _ _ (⟨some _, .makeSlice _ _ _, _, _, _, some _⟩ :: _); refine GD.gC ?_ (by first | (refine gi ?_; intros; exact LT.mkD (m := 32) (by decide)) | fail) rfl rfl) | (show G _ _ _ _ (WL _ _ _ _ (⟨some _, .convert _ _ _, _, _, _, none⟩ :: _)); refine G.w1 ?_ (by first | exact LT.cnv (b % 50) | fail)) | (show G _ _ _ _ (WL _ _ _ _ (⟨some _, .convert _ _ _, _, _, _, some _⟩ :: _)); refine G.gC ?_ (by first | (refine gi ?_; intros; exact LT.cnv (b % 50)) | fail) rfl rfl) | (show GD _ _ _ _ _ _ _ _ _ _ (⟨some _, .convert _ _ _, _, _, _, none⟩ :: _); refine GD.w1 ?_ (by first | exact LT.cnv (b % 50) | fail)) | (show GD _ _ _ _ _ _ _ _ _ _ (⟨some _, .convert _ _ _, _, _, _, some _⟩ :: _); refine GD.gC ?_ (by first | (refine gi ?_; intros; exact LT.cnv (b % 50)) | fail) rfl rfl) | (show G _ _ _ _ (WL _ _ _ _ (⟨some _, .build _ _, _, _, _, none⟩ :: _)); refine G.w1 ?_ (by first | exact LT.arB | fail)) | (show G _ _ _ _ (WL _ _ _ _ (⟨some _, .build _ _, _, _, _, some _⟩ :: _)); refine G.gC ?_ (by first | (refine gi ?_; intros; exact LT.arB) | fail) rfl rfl) | (show GD _ _ _ _ _ _ _ _ _ _ (⟨some _, .build _ _, _, _, _, none⟩ :: _); refine GD.w1 ?_ (by first | exact LT.arB | fail)) | (show GD _ _ _ _ _ _ _ _ _ _ (⟨some _, .build _ _, _, _, _, some _⟩ :: _); refine GD.gC ?_ (by first | (refine gi ?_; intros; exact LT.arB) | fail) rfl rfl) | (show G _ _ _ _ (WL _ _ _ _ (⟨some _, .indexAddr _ _ _, _, _, _, none⟩ :: _)); refine G.w1 ?_ (by first | exact LT.arI | fail)) | (show G _ _ _ _ (WL _ _ _ _ (⟨some _, .indexAddr _ _ _, _, _, _, some _⟩ :: _)); refine G.gC ?_ (by first | (refine gi ?_; intros; exact LT.arI) | fail) rfl rfl) | (show GD _ _ _ _ _ _ _ _ _ _ (⟨some _, .indexAddr _ _ _, _, _, _, none⟩ :: _); refine GD.w1 ?_ (by first | exact LT.arI | fail)) | (show GD _ _ _ _ _ _ _ _ _ _ (⟨some _, .indexAddr _ _ _, _, _, _, some _⟩ :: _); refine GD.gC ?_ (by first | (refine gi ?_; intros; exact LT.arI) | fail) rfl rfl) | (show G _ _ _ _ (WL _ _ _ _ (⟨some _, .index _ _ _, _, _, _, none⟩ :: _)); refine G.w1 ?_ (by first | exact LT.arE | fail)) | (show G _ _ _ _ (WL _ _ _ _ (⟨some _, .index _ _ _, _, _, _, some _⟩ :: _)); refine G.gC ?_ (by first | (refine gi ?_; intros; exact LT.arE) | fail) rfl rfl) | (show GD _ _ _ _ _ _ _ _ _ _ (⟨some _, .index _ _ _, _, _, _, none⟩ :: _); refine GD.w1 ?_ (by first | exact LT.arE | fail)) | (show GD _ _ _ _ _ _ _ _ _ _ (⟨some _, .index _ _ _, _, _, _, some _⟩ :: _); refine GD.gC ?_ (by first | (refine gi ?_; intros; exact LT.arE) | fail) rfl rfl) | ((repeat (revert hK; revert K)); refine wk ?_; repeat intro K hK) | refine wkg ?_))
    obtain ⟨lf0, hl0⟩ : ∃ lf : Nat, b % 50 = lf := ⟨(b % 50).toNat, by omega⟩
    rw [hl0]
    have hl49 : lf0 ≤ 49 := by omega
    refine G.cutB (akI v p) (fun z => z.2.ok ∧ aftP v z.1 z.2 ∧ z.1 ≤ 4) (by assumption) ?_ ?_
    · refine G.loop (afI v f p) AfI.ok (fun z => z.lf) ?_ ?_
      · exact G.at ⟨0, lf0, 0, 0⟩ [(0, 1)] ⟨Nat.zero_le _, hl49, by show 0 + lf0 ≤ 49; omega, Int.le_refl _, by show (0 : Int) + lf0 ≤ 49; omega⟩ (by repeat (first | exact trivial | refine ⟨⟨rfl, rfl⟩, ?_⟩)) (by repeat (first | exact trivial | refine ⟨⟨rfl, rfl, rfl⟩, ?_⟩ | refine ⟨⟨rfl, by rw [renL_d]; rfl, kbL_d _ _⟩, ?_⟩ | refine ⟨rfl, ?_⟩)) (by decide)
      · rintro ⟨st, lf, tr, nx⟩ ⟨hst, hlf49, htr, hnx0, hnx⟩
        dsimp only [afI] at hst hlf49 htr hnx0 hnx ⊢
        by_cases hgo : st < 4 ∧ 0 < lf
        · have hb1 : (decide ((st : Int) < 4) && decide ((0 : Int) < (lf : Int))) = true := by simp; omega
          have hsok := aS_ok v (st := st) hst (nx := nx) ⟨hnx0, by omega⟩
          have hcm := fun ok => cmp_F (aS v st nx) hsok [] (rqA v st nx) rfl ok (by
            have : st = 0 ∨ st = 1 ∨ st = 2 ∨ st = 3 := by omega
            rcases this with rfl | rfl | rfl | rfl <;> simp [aS, aD, chA]) (by
            have : st = 0 ∨ st = 1 ∨ st = 2 ∨ st = 3 := by omega
            rcases this with rfl | rfl | rfl | rfl <;> simp [aS, aD, chA, rqA]) (by show 3 ≤ 100; decide)
          have hcm := fun ok => by have := hcm ok; rw [aS_cmp v (by omega) nx ok, show (([] : List QV).length : Int) = 0 from rfl] at this; exact this
          have hst4 : st = 0 ∨ st = 1 ∨ st = 2 ∨ st = 3 := by omega
          rcases hst4 with rfl | rfl | rfl | rfl
          · have hsu := subA0_F v nx ⟨hnx0, by omega⟩
            rw [eZ_0] at hsu
            (repeat (first | refine G.cW (hsu) ?_ | refine G.cgW (hsu) ?_ | refine GD.cW (hsu) ?_ | refine GD.cgW (hsu) ?_ | ((repeat (revert hK; revert K)); refine wk ?_; repeat intro K hK) | refine wkg ?_))
            by_cases hl1 : lf = 1
            · have hb2 : ((lf : Int) - 1 == 0) = true := by rw [hl1]; rfl
              (repeat (first | ((repeat (revert hK; revert K)); refine wk ?_; repeat intro K hK) | refine wkg ?_))
              exact G.at (0, aS v 0 nx) [(0, 0)] ⟨hsok, aS_aft v (show 0 ≤ 3 by decide) nx, by show 0 ≤ 4; decide⟩ (by repeat (first | exact trivial | refine ⟨⟨rfl, rfl⟩, ?_⟩)) (by repeat (first | exact trivial | refine ⟨⟨rfl, rfl, rfl⟩, ?_⟩ | refine ⟨⟨rfl, by rw [renL_d]; rfl, kbL_d _ _⟩, ?_⟩ | refine ⟨rfl, ?_⟩)) (by decide)
            · have hb2 : ((lf : Int) - 1 == 0) = false := by rw [beq_eq_false_iff_ne]; omega
              have hlf2 : 2 ≤ lf := by omega
              have e17 : (lf : Int) - 1 - 1 = ((lf - 2 : Nat) : Int) := by omega
              by_cases htl : tr < f.length
              · have hr : (pkR f)[tr]? = some [.s (.bool f[tr])] := by simp [pkR, htl]
                have hb3 : decide (((pkR f).length : Int) ≤ (tr : Int)) = false := by rw [hlf, decide_eq_false_iff_not]; omega
                generalize f[tr] = fb at *
                cases fb
                · have hct := hcm true
                  (repeat (first | refine GD.ctW (hct) ?_ | refine G.cW (hct) ?_ | refine G.cgW (hct) ?_ | refine GD.cW (hct) ?_ | refine GD.cgW (hct) ?_ | (show G _ _ _ _ (WL _ _ _ _ (⟨some _, .indexAddr _ _ _, _, _, _, none⟩ :: _)); refine G.w1 ?_ (by first | exact LT.rd (Rd.ixv tr (hr)) rfl | fail)) | (show G _ _ _ _ (WL _ _ _ _ (⟨some _, .indexAddr _ _ _, _, _, _, some _⟩ :: _)); refine G.gC ?_ (by first | (refine gi ?_; intros; exact LT.rd (Rd.ixv tr (hr)) rfl) | fail) rfl rfl) | (show GD _ _ _ _ _ _ _ _ _ _ (⟨some _, .indexAddr _ _ _, _, _, _, none⟩ :: _); refine GD.w1 ?_ (by first | exact LT.rd (Rd.ixv tr (hr)) rfl | fail)) | (show GD _ _ _ _ _ _ _ _ _ _ (⟨some _, .indexAddr _ _ _, _, _, _, some _⟩ :: _); refine GD.gC ?_ (by first | (refine gi ?_; intros; exact LT.rd (Rd.ixv tr (hr)) rfl) | fail) rfl rfl) | ((repeat (revert hK; revert K)); refine wkG ?_; repeat intro K hK) | refine wkg ?_))
                  rw [e17]
                  exact G.at ⟨1, lf - 2, tr + 1, nx + 1⟩ [(0, 0)] ⟨⟨by show 1 ≤ 4; decide, by show lf - 2 ≤ 49; omega, by show tr + 1 + (lf - 2) ≤ 49; omega, by show 0 ≤ nx + 1; omega, by show nx + 1 + ((lf - 2 : Nat) : Int) ≤ 49; omega⟩, by show lf - 2 < lf; omega⟩ (by repeat (first | exact trivial | refine ⟨⟨rfl, rfl⟩, ?_⟩)) (by repeat (first | exact trivial | refine ⟨⟨rfl, rfl, rfl⟩, ?_⟩ | refine ⟨⟨rfl, by rw [renL_d]; rfl, kbL_d _ _⟩, ?_⟩ | refine ⟨rfl, ?_⟩)) (by decide)
                · have hct := hcm false
                  (repeat (first | refine GD.ctW (hct) ?_ | refine G.cW (hct) ?_ | refine G.cgW (hct) ?_ | refine GD.cW (hct) ?_ | refine GD.cgW (hct) ?_ | (show G _ _ _ _ (WL _ _ _ _ (⟨some _, .indexAddr _ _ _, _, _, _, none⟩ :: _)); refine G.w1 ?_ (by first | exact LT.rd (Rd.ixv tr (hr)) rfl | fail)) | (show G _ _ _ _ (WL _ _ _ _ (⟨some _, .indexAddr _ _ _, _, _, _, some _⟩ :: _)); refine G.gC ?_ (by first | (refine gi ?_; intros; exact LT.rd (Rd.ixv tr (hr)) rfl) | fail) rfl rfl) | (show GD _ _ _ _ _ _ _ _ _ _ (⟨some _, .indexAddr _ _ _, _, _, _, none⟩ :: _); refine GD.w1 ?_ (by first | exact LT.rd (Rd.ixv tr (hr)) rfl | fail)) | (show GD _ _ _ _ _ _ _ _ _ _ (⟨some _, .indexAddr _ _ _, _, _, _, some _⟩ :: _); refine GD.gC ?_ (by first | (refine gi ?_; intros; exact LT.rd (Rd.ixv tr (hr)) rfl) | fail) rfl rfl) | ((repeat (revert hK; revert K)); refine wkG ?_; repeat intro K hK) | refine wkg ?_))
                  rw [e17]
                  exact G.at ⟨0, lf - 2, tr + 1, nx + 1⟩ [(0, 0)] ⟨⟨by show 0 ≤ 4; decide, by show lf - 2 ≤ 49; omega, by show tr + 1 + (lf - 2) ≤ 49; omega, by show 0 ≤ nx + 1; omega, by show nx + 1 + ((lf - 2 : Nat) : Int) ≤ 49; omega⟩, by show lf - 2 < lf; omega⟩ (by repeat (first | exact trivial | refine ⟨⟨rfl, rfl⟩, ?_⟩)) (by repeat (first | exact trivial | refine ⟨⟨rfl, rfl, rfl⟩, ?_⟩ | refine ⟨⟨rfl, by rw [renL_d]; rfl, kbL_d _ _⟩, ?_⟩ | refine ⟨rfl, ?_⟩)) (by decide)
              · have hb3 : decide (((pkR f).length : Int) ≤ (tr : Int)) = true := by rw [hlf, decide_eq_true_eq]; omega
                have hct := hcm true
                (repeat (first | refine GD.ctW (hct) ?_ | refine G.cW (hct) ?_ | refine G.cgW (hct) ?_ | refine GD.cW (hct) ?_ | refine GD.cgW (hct) ?_ | ((repeat (revert hK; revert K)); refine wkG ?_; repeat intro K hK) | refine wkg ?_))
                rw [e17]
                exact G.at ⟨1, lf - 2, tr + 1, nx + 1⟩ [(0, 0)] ⟨⟨by show 1 ≤ 4; decide, by show lf - 2 ≤ 49; omega, by show tr + 1 + (lf - 2) ≤ 49; omega, by show 0 ≤ nx + 1; omega, by show nx + 1 + ((lf - 2 : Nat) : Int) ≤ 49; omega⟩, by show lf - 2 < lf; omega⟩ (by repeat (first | exact trivial | refine ⟨⟨rfl, rfl⟩, ?_⟩)) (by repeat (first | exact trivial | refine ⟨⟨rfl, rfl, rfl⟩, ?_⟩ | refine ⟨⟨rfl, by rw [renL_d]; rfl, kbL_d _ _⟩, ?_⟩ | refine ⟨rfl, ?_⟩)) (by decide)
          · have hsu := subAf_F v (.inl rfl) nx ⟨hnx0, by omega⟩
            rw [eZ_0] at hsu
            (repeat (first | refine G.cW (hsu) ?_ | refine G.cgW (hsu) ?_ | refine GD.cW (hsu) ?_ | refine GD.cgW (hsu) ?_ | ((repeat (revert hK; revert K)); refine wk ?_; repeat intro K hK) | refine wkg ?_))
            by_cases hl1 : lf = 1
            · have hb2 : ((lf : Int) - 1 == 0) = true := by rw [hl1]; rfl
              (repeat (first | ((repeat (revert hK; revert K)); refine wk ?_; repeat intro K hK) | refine wkg ?_))
              exact G.at (1, aS v 1 nx) [(0, 0)] ⟨hsok, aS_aft v (show 1 ≤ 3 by decide) nx, by show 1 ≤ 4; decide⟩ (by repeat (first | exact trivial | refine ⟨⟨rfl, rfl⟩, ?_⟩)) (by repeat (first | exact trivial | refine ⟨⟨rfl, rfl, rfl⟩, ?_⟩ | refine ⟨⟨rfl, by rw [renL_d]; rfl, kbL_d _ _⟩, ?_⟩ | refine ⟨rfl, ?_⟩)) (by decide)
            · have hb2 : ((lf : Int) - 1 == 0) = false := by rw [beq_eq_false_iff_ne]; omega
              have hlf2 : 2 ≤ lf := by omega
              have e17 : (lf : Int) - 1 - 1 = ((lf - 2 : Nat) : Int) := by omega
              by_cases htl : tr < f.length
              · have hr : (pkR f)[tr]? = some [.s (.bool f[tr])] := by simp [pkR, htl]
                have hb3 : decide (((pkR f).length : Int) ≤ (tr : Int)) = false := by rw [hlf, decide_eq_false_iff_not]; omega
                generalize f[tr] = fb at *
                cases fb
                · have hct := hcm true
                  (repeat (first | refine GD.ctW (hct) ?_ | refine G.cW (hct) ?_ | refine G.cgW (hct) ?_ | refine GD.cW (hct) ?_ | refine GD.cgW (hct) ?_ | (show G _ _ _ _ (WL _ _ _ _ (⟨some _, .indexAddr _ _ _, _, _, _, none⟩ :: _)); refine G.w1 ?_ (by first | exact LT.rd (Rd.ixv tr (hr)) rfl | fail)) | (show G _ _ _ _ (WL _ _ _ _ (⟨some _, .indexAddr _ _ _, _, _, _, some _⟩ :: _)); refine G.gC ?_ (by first | (refine gi ?_; intros; exact LT.rd (Rd.ixv tr (hr)) rfl) | fail) rfl rfl) | (show GD _ _ _ _ _ _ _ _ _ _ (⟨some _, .indexAddr _ _ _, _, _, _, none⟩ :: _); refine GD.w1 ?_ (by first | exact LT.rd (Rd.ixv tr (hr)) rfl | fail)) | (show GD _ _ _ _ _ _ _ _ _ _ (⟨some _, .indexAddr _ _ _, _, _, _, some _⟩ :: _); refine GD.gC ?_ (by first | (refine gi ?_; intros; exact LT.rd (Rd.ixv tr (hr)) rfl) | fail) rfl rfl) | ((repeat (revert hK; revert K)); refine wkG ?_; repeat intro K hK) | refine wkg ?_))
                  rw [e17]
                  exact G.at ⟨2, lf - 2, tr + 1, nx + 1⟩ [(0, 0)] ⟨⟨by show 2 ≤ 4; decide, by show lf - 2 ≤ 49; omega, by show tr + 1 + (lf - 2) ≤ 49; omega, by show 0 ≤ nx + 1; omega, by show nx + 1 + ((lf - 2 : Nat) : Int) ≤ 49; omega⟩, by show lf - 2 < lf; omega⟩ (by repeat (first | exact trivial | refine ⟨⟨rfl, rfl⟩, ?_⟩)) (by repeat (first | exact trivial | refine ⟨⟨rfl, rfl, rfl⟩, ?_⟩ | refine ⟨⟨rfl, by rw [renL_d]; rfl, kbL_d _ _⟩, ?_⟩ | refine ⟨rfl, ?_⟩)) (by decide)
                · have hct := hcm false
                  (repeat (first | refine GD.ctW (hct) ?_ | refine G.cW (hct) ?_ | refine G.cgW (hct) ?_ | refine GD.cW (hct) ?_ | refine GD.cgW (hct) ?_ | (show G _ _ _ _ (WL _ _ _ _ (⟨some _, .indexAddr _ _ _, _, _, _, none⟩ :: _)); refine G.w1 ?_ (by first | exact LT.rd (Rd.ixv tr (hr)) rfl | fail)) | (show G _ _ _ _ (WL _ _ _ _ (⟨some _, .indexAddr _ _ _, _, _, _, some _⟩ :: _)); refine G.gC ?_ (by first | (refine gi ?_; intros; exact LT.rd (Rd.ixv tr (hr)) rfl) | fail) rfl rfl) | (show GD _ _ _ _ _ _ _ _ _ _ (⟨some _, .indexAddr _ _ _, _, _, _, none⟩ :: _); refine GD.w1 ?_ (by first | exact LT.rd (Rd.ixv tr (hr)) rfl | fail)) | (show GD _ _ _ _ _ _ _ _ _ _ (⟨some _, .indexAddr _ _ _, _, _, _, some _⟩ :: _); refine GD.gC ?_ (by first | (refine gi ?_; intros; exact LT.rd (Rd.ixv tr (hr)) rfl) | fail) rfl rfl) | ((repeat (revert hK; revert K)); refine wkG ?_; repeat intro K hK) | refine wkg ?_))
                  rw [e17]
                  exact G.at ⟨1, lf - 2, tr + 1, nx + 1⟩ [(0, 0)] ⟨⟨by show 1 ≤ 4; decide, by show lf - 2 ≤ 49; omega, by show tr + 1 + (lf - 2) ≤ 49; omega, by show 0 ≤ nx + 1; omega, by show nx + 1 + ((lf - 2 : Nat) : Int) ≤ 49; omega⟩, by show lf - 2 < lf; omega⟩ (by repeat (first | exact trivial | refine ⟨⟨rfl, rfl⟩, ?_⟩)) (by repeat (first | exact trivial | refine ⟨⟨rfl, rfl, rfl⟩, ?_⟩ | refine ⟨⟨rfl, by rw [renL_d]; rfl, kbL_d _ _⟩, ?_⟩ | refine ⟨rfl, ?_⟩)) (by decide)
              · have hb3 : decide (((pkR f).length : Int) ≤ (tr : Int)) = true := by rw [hlf, decide_eq_true_eq]; omega
                have hct := hcm true
                (repeat (first | refine GD.ctW (hct) ?_ | refine G.cW (hct) ?_ | refine G.cgW (hct) ?_ | refine GD.cW (hct) ?_ | refine GD.cgW (hct) ?_ | ((repeat (revert hK; revert K)); refine wkG ?_; repeat intro K hK) | refine wkg ?_))
                rw [e17]
                exact G.at ⟨2, lf - 2, tr + 1, nx + 1⟩ [(0, 0)] ⟨⟨by show 2 ≤ 4; decide, by show lf - 2 ≤ 49; omega, by show tr + 1 + (lf - 2) ≤ 49; omega, by show 0 ≤ nx + 1; omega, by show nx + 1 + ((lf - 2 : Nat) : Int) ≤ 49; omega⟩, by show lf - 2 < lf; omega⟩ (by repeat (first | exact trivial | refine ⟨⟨rfl, rfl⟩, ?_⟩)) (by repeat (first | exact trivial | refine ⟨⟨rfl, rfl, rfl⟩, ?_⟩ | refine ⟨⟨rfl, by rw [renL_d]; rfl, kbL_d _ _⟩, ?_⟩ | refine ⟨rfl, ?_⟩)) (by decide)
          · have hsu := subA2_F v nx ⟨hnx0, by omega⟩
            rw [eZ_0] at hsu
            (repeat (first | refine G.cW (hsu) ?_ | refine G.cgW (hsu) ?_ | refine GD.cW (hsu) ?_ | refine GD.cgW (hsu) ?_ | ((repeat (revert hK; revert K)); refine wk ?_; repeat intro K hK) | refine wkg ?_))
            by_cases hl1 : lf = 1
            · have hb2 : ((lf : Int) - 1 == 0) = true := by rw [hl1]; rfl
              (repeat (first | ((repeat (revert hK; revert K)); refine wk ?_; repeat intro K hK) | refine wkg ?_))
              exact G.at (2, aS v 2 nx) [(0, 0)] ⟨hsok, aS_aft v (show 2 ≤ 3 by decide) nx, by show 2 ≤ 4; decide⟩ (by repeat (first | exact trivial | refine ⟨⟨rfl, rfl⟩, ?_⟩)) (by repeat (first | exact trivial | refine ⟨⟨rfl, rfl, rfl⟩, ?_⟩ | refine ⟨⟨rfl, by rw [renL_d]; rfl, kbL_d _ _⟩, ?_⟩ | refine ⟨rfl, ?_⟩)) (by decide)
            · have hb2 : ((lf : Int) - 1 == 0) = false := by rw [beq_eq_false_iff_ne]; omega
              have hlf2 : 2 ≤ lf := by omega
              have e17 : (lf : Int) - 1 - 1 = ((lf - 2 : Nat) : Int) := by omega
              by_cases htl : tr < f.length
              · have hr : (pkR f)[tr]? = some [.s (.bool f[tr])] := by simp [pkR, htl]
                have hb3 : decide (((pkR f).length : Int) ≤ (tr : Int)) = false := by rw [hlf, decide_eq_false_iff_not]; omega
                generalize f[tr] = fb at *
                cases fb
                · have hct := hcm true
                  (repeat (first | refine GD.ctW (hct) ?_ | refine G.cW (hct) ?_ | refine G.cgW (hct) ?_ | refine GD.cW (hct) ?_ | refine GD.cgW (hct) ?_ | (show G _ _ _ _ (WL _ _ _ _ (⟨some _, .indexAddr _ _ _, _, _, _, none⟩ :: _)); refine G.w1 ?_ (by first | exact LT.rd (Rd.ixv tr (hr)) rfl | fail)) | (show G _ _ _ _ (WL _ _ _ _ (⟨some _, .indexAddr _ _ _, _, _, _, some _⟩ :: _)); refine G.gC ?_ (by first | (refine gi ?_; intros; exact LT.rd (Rd.ixv tr (hr)) rfl) | fail) rfl rfl) | (show GD _ _ _ _ _ _ _ _ _ _ (⟨some _, .indexAddr _ _ _, _, _, _, none⟩ :: _); refine GD.w1 ?_ (by first | exact LT.rd (Rd.ixv tr (hr)) rfl | fail)) | (show GD _ _ _ _ _ _ _ _ _ _ (⟨some _, .indexAddr _ _ _, _, _, _, some _⟩ :: _); refine GD.gC ?_ (by first | (refine gi ?_; intros; exact LT.rd (Rd.ixv tr (hr)) rfl) | fail) rfl rfl) | ((repeat (revert hK; revert K)); refine wkG ?_; repeat intro K hK) | refine wkg ?_))
                  rw [e17]
                  exact G.at ⟨3, lf - 2, tr + 1, nx + 1⟩ [(0, 0)] ⟨⟨by show 3 ≤ 4; decide, by show lf - 2 ≤ 49; omega, by show tr + 1 + (lf - 2) ≤ 49; omega, by show 0 ≤ nx + 1; omega, by show nx + 1 + ((lf - 2 : Nat) : Int) ≤ 49; omega⟩, by show lf - 2 < lf; omega⟩ (by repeat (first | exact trivial | refine ⟨⟨rfl, rfl⟩, ?_⟩)) (by repeat (first | exact trivial | refine ⟨⟨rfl, rfl, rfl⟩, ?_⟩ | refine ⟨⟨rfl, by rw [renL_d]; rfl, kbL_d _ _⟩, ?_⟩ | refine ⟨rfl, ?_⟩)) (by decide)
                · have hct := hcm false
                  (repeat (first | refine GD.ctW (hct) ?_ | refine G.cW (hct) ?_ | refine G.cgW (hct) ?_ | refine GD.cW (hct) ?_ | refine GD.cgW (hct) ?_ | (show G _ _ _ _ (WL _ _ _ _ (⟨some _, .indexAddr _ _ _, _, _, _, none⟩ :: _)); refine G.w1 ?_ (by first | exact LT.rd (Rd.ixv tr (hr)) rfl | fail)) | (show G _ _ _ _ (WL _ _ _ _ (⟨some _, .indexAddr _ _ _, _, _, _, some _⟩ :: _)); refine G.gC ?_ (by first | (refine gi ?_; intros; exact LT.rd (Rd.ixv tr (hr)) rfl) | fail) rfl rfl) | (show GD _ _ _ _ _ _ _ _ _ _ (⟨some _, .indexAddr _ _ _, _, _, _, none⟩ :: _); refine GD.w1 ?_ (by first | exact LT.rd (Rd.ixv tr (hr)) rfl | fail)) | (show GD _ _ _ _ _ _ _ _ _ _ (⟨some _, .indexAddr _ _ _, _, _, _, some _⟩ :: _); refine GD.gC ?_ (by first | (refine gi ?_; intros; exact LT.rd (Rd.ixv tr (hr)) rfl) | fail) rfl rfl) | ((repeat (revert hK; revert K)); refine wkG ?_; repeat intro K hK) | refine wkg ?_))
                  rw [e17]
                  exact G.at ⟨2, lf - 2, tr + 1, nx + 1⟩ [(0, 0)] ⟨⟨by show 2 ≤ 4; decide, by show lf - 2 ≤ 49; omega, by show tr + 1 + (lf - 2) ≤ 49; omega, by show 0 ≤ nx + 1; omega, by show nx + 1 + ((lf - 2 : Nat) : Int) ≤ 49; omega⟩, by show lf - 2 < lf; omega⟩ (by repeat (first | exact trivial | refine ⟨⟨rfl, rfl⟩, ?_⟩)) (by repeat (first | exact trivial | refine ⟨⟨rfl, rfl, rfl⟩, ?_⟩ | refine ⟨⟨rfl, by rw [renL_d]; rfl, kbL_d _ _⟩, ?_⟩ | refine ⟨rfl, ?_⟩)) (by decide)
              · have hb3 : decide (((pkR f).length : Int) ≤ (tr : Int)) = true := by rw [hlf, decide_eq_true_eq]; omega
                have hct := hcm true
                (repeat (first | refine GD.ctW (hct) ?_ | refine G.cW (hct) ?_ | refine G.cgW (hct) ?_ | refine GD.cW (hct) ?_ | refine GD.cgW (hct) ?_ | ((repeat (revert hK; revert K)); refine wkG ?_; repeat intro K hK) | refine wkg ?_))
                rw [e17]
                exact G.at ⟨3, lf - 2, tr + 1, nx + 1⟩ [(0, 0)] ⟨⟨by show 3 ≤ 4; decide, by show lf - 2 ≤ 49; omega, by show tr + 1 + (lf - 2) ≤ 49; omega, by show 0 ≤ nx + 1; omega, by show nx + 1 + ((lf - 2 : Nat) : Int) ≤ 49; omega⟩, by show lf - 2 < lf; omega⟩ (by repeat (first | exact trivial | refine ⟨⟨rfl, rfl⟩, ?_⟩)) (by repeat (first | exact trivial | refine ⟨⟨rfl, rfl, rfl⟩, ?_⟩ | refine ⟨⟨rfl, by rw [renL_d]; rfl, kbL_d _ _⟩, ?_⟩ | refine ⟨rfl, ?_⟩)) (by decide)
          · have hsu := subAf_F v (.inr rfl) nx ⟨hnx0, by omega⟩
            rw [eZ_0] at hsu
            (repeat (first | refine G.cW (hsu) ?_ | refine G.cgW (hsu) ?_ | refine GD.cW (hsu) ?_ | refine GD.cgW (hsu) ?_ | ((repeat (revert hK; revert K)); refine wk ?_; repeat intro K hK) | refine wkg ?_))
            by_cases hl1 : lf = 1
            · have hb2 : ((lf : Int) - 1 == 0) = true := by rw [hl1]; rfl
              (repeat (first | ((repeat (revert hK; revert K)); refine wk ?_; repeat intro K hK) | refine wkg ?_))
              exact G.at (3, aS v 3 nx) [(0, 0)] ⟨hsok, aS_aft v (show 3 ≤ 3 by decide) nx, by show 3 ≤ 4; decide⟩ (by repeat (first | exact trivial | refine ⟨⟨rfl, rfl⟩, ?_⟩)) (by repeat (first | exact trivial | refine ⟨⟨rfl, rfl, rfl⟩, ?_⟩ | refine ⟨⟨rfl, by rw [renL_d]; rfl, kbL_d _ _⟩, ?_⟩ | refine ⟨rfl, ?_⟩)) (by decide)
            · have hb2 : ((lf : Int) - 1 == 0) = false := by rw [beq_eq_false_iff_ne]; omega
              have hlf2 : 2 ≤ lf := by omega
              have e17 : (lf : Int) - 1 - 1 = ((lf - 2 : Nat) : Int) := by omega
              by_cases htl : tr < f.length
              · have hr : (pkR f)[tr]? = some [.s (.bool f[tr])] := by simp [pkR, htl]
                have hb3 : decide (((pkR f).length : Int) ≤ (tr : Int)) = false := by rw [hlf, decide_eq_false_iff_not]; omega
                generalize f[tr] = fb at *
                cases fb
                · have hct := hcm true
                  (repeat (first | refine GD.ctW (hct) ?_ | refine G.cW (hct) ?_ | refine G.cgW (hct) ?_ | refine GD.cW (hct) ?_ | refine GD.cgW (hct) ?_ | (show G _ _ _ _ (WL _ _ _ _ (⟨some _, .indexAddr _ _ _, _, _, _, none⟩ :: _)); refine G.w1 ?_ (by first | exact LT.rd (Rd.ixv tr (hr)) rfl | fail)) | (show G _ _ _ _ (WL _ _ _ _ (⟨some _, .indexAddr _ _ _, _, _, _, some _⟩ :: _)); refine G.gC ?_ (by first | (refine gi ?_; intros; exact LT.rd (Rd.ixv tr (hr)) rfl) | fail) rfl rfl) | (show GD _ _ _ _ _ _ _ _ _ _ (⟨some _, .indexAddr _ _ _, _, _, _, none⟩ :: _); refine GD.w1 ?_ (by first | exact LT.rd (Rd.ixv tr (hr)) rfl | fail)) | (show GD _ _ _ _ _ _ _ _ _ _ (⟨some _, .indexAddr _ _ _, _, _, _, some _⟩ :: _); refine GD.gC ?_ (by first | (refine gi ?_; intros; exact LT.rd (Rd.ixv tr (hr)) rfl) | fail) rfl rfl) | ((repeat (revert hK; revert K)); refine wkG ?_; repeat intro K hK) | refine wkg ?_))
                  rw [e17]
                  exact G.at ⟨4, lf - 2, tr + 1, nx + 1⟩ [(0, 0)] ⟨⟨by show 4 ≤ 4; decide, by show lf - 2 ≤ 49; omega, by show tr + 1 + (lf - 2) ≤ 49; omega, by show 0 ≤ nx + 1; omega, by show nx + 1 + ((lf - 2 : Nat) : Int) ≤ 49; omega⟩, by show lf - 2 < lf; omega⟩ (by repeat (first | exact trivial | refine ⟨⟨rfl, rfl⟩, ?_⟩)) (by repeat (first | exact trivial | refine ⟨⟨rfl, rfl, rfl⟩, ?_⟩ | refine ⟨⟨rfl, by rw [renL_d]; rfl, kbL_d _ _⟩, ?_⟩ | refine ⟨rfl, ?_⟩)) (by decide)
                · have hct := hcm false
                  (repeat (first | refine GD.ctW (hct) ?_ | refine G.cW (hct) ?_ | refine G.cgW (hct) ?_ | refine GD.cW (hct) ?_ | refine GD.cgW (hct) ?_ | (show G _ _ _ _ (WL _ _ _ _ (⟨some _, .indexAddr _ _ _, _, _, _, none⟩ :: _)); refine G.w1 ?_ (by first | exact LT.rd (Rd.ixv tr (hr)) rfl | fail)) | (show G _ _ _ _ (WL _ _ _ _ (⟨some _, .indexAddr _ _ _, _, _, _, some _⟩ :: _)); refine G.gC ?_ (by first | (refine gi ?_; intros; exact LT.rd (Rd.ixv tr (hr)) rfl) | fail) rfl rfl) | (show GD _ _ _ _ _ _ _ _ _ _ (⟨some _, .indexAddr _ _ _, _, _, _, none⟩ :: _); refine GD.w1 ?_ (by first | exact LT.rd (Rd.ixv tr (hr)) rfl | fail)) | (show GD _ _ _ _ _ _ _ _ _ _ (⟨some _, .indexAddr _ _ _, _, _, _, some _⟩ :: _); refine GD.gC ?_ (by first | (refine gi ?_; intros; exact LT.rd (Rd.ixv tr (hr)) rfl) | fail) rfl rfl) | ((repeat (revert hK; revert K)); refine wkG ?_; repeat intro K hK) | refine wkg ?_))
                  rw [e17]
                  exact G.at ⟨3, lf - 2, tr + 1, nx + 1⟩ [(0, 0)] ⟨⟨by show 3 ≤ 4; decide, by show lf - 2 ≤ 49; omega, by show tr + 1 + (lf - 2) ≤ 49; omega, by show 0 ≤ nx + 1; omega, by show nx + 1 + ((lf - 2 : Nat) : Int) ≤ 49; omega⟩, by show lf - 2 < lf; omega⟩ (by repeat (first | exact trivial | refine ⟨⟨rfl, rfl⟩, ?_⟩)) (by repeat (first | exact trivial | refine ⟨⟨rfl, rfl, rfl⟩, ?_⟩ | refine ⟨⟨rfl, by rw [renL_d]; rfl, kbL_d _ _⟩, ?_⟩ | refine ⟨rfl, ?_⟩)) (by decide)
              · have hb3 : decide (((pkR f).length : Int) ≤ (tr : Int)) = true := by rw [hlf, decide_eq_true_eq]; omega
                have hct := hcm true
                (repeat (first | refine GD.ctW (hct) ?_ | refine G.cW (hct) ?_ | refine G.cgW (hct) ?_ | refine GD.cW (hct) ?_ | refine GD.cgW (hct) ?_ | ((repeat (revert hK; revert K)); refine wkG ?_; repeat intro K hK) | refine wkg ?_))
                rw [e17]
                exact G.at ⟨4, lf - 2, tr + 1, nx + 1⟩ [(0, 0)] ⟨⟨by show 4 ≤ 4; decide, by show lf - 2 ≤ 49; omega, by show tr + 1 + (lf - 2) ≤ 49; omega, by show 0 ≤ nx + 1; omega, by show nx + 1 + ((lf - 2 : Nat) : Int) ≤ 49; omega⟩, by show lf - 2 < lf; omega⟩ (by repeat (first | exact trivial | refine ⟨⟨rfl, rfl⟩, ?_⟩)) (by repeat (first | exact trivial | refine ⟨⟨rfl, rfl, rfl⟩, ?_⟩ | refine ⟨⟨rfl, by rw [renL_d]; rfl, kbL_d _ _⟩, ?_⟩ | refine ⟨rfl, ?_⟩)) (by decide)
        · have hb1 : (decide ((st : Int) < 4) && decide ((0 : Int) < (lf : Int))) = false := by
            rw [Bool.and_eq_false_iff, decide_eq_false_iff_not, decide_eq_false_iff_not]; omega
          (repeat (first | ((repeat (revert hK; revert K)); refine wk ?_; repeat intro K hK) | refine wkg ?_))
          exact G.at (st, aD v st nx) [(0, 0)] ⟨aD_ok v hst ⟨hnx0, by omega⟩, aD_aft v hst nx, hst⟩ (by repeat (first | exact trivial | refine ⟨⟨rfl, rfl⟩, ?_⟩)) (by repeat (first | exact trivial | refine ⟨⟨rfl, rfl, rfl⟩, ?_⟩ | refine ⟨⟨rfl, by rw [renL_d]; rfl, kbL_d _ _⟩, ?_⟩ | refine ⟨rfl, ?_⟩)) (by decide)
    · rintro ⟨st, d⟩ ⟨hdok, haft, hst⟩
      dsimp only [akI] at hdok haft hst ⊢
      have hcr := crash_F d hdok p
      have hcok := crV_ok hdok p
      obtain ⟨h3l, hor⟩ := haft p
      have hdu := dur_F (crV d p) hcok 0 (by omega)
      have hdu2 := dur_F (crV d p) hcok 2 (by omega)
      have hde1 := dec_F 1 1 ⟨by decide, by decide, by decide⟩
      have hde2 := dec_F 2 3 ⟨by decide, by decide, by decide⟩
      have heq := beq_F (pgV v)
      rcases hor with ⟨e0, hs4⟩ | ⟨e0, e2⟩
      · rw [e0] at hdu
        clear hdu2 e0 h3l
        generalize crV d p = dd at *
        have hb4 : decide ((st : Int) < 4) = true := by simp; omega
        (repeat (first | refine G.cW (hcr) ?_ | refine G.cgW (hcr) ?_ | refine GD.cW (hcr) ?_ | refine GD.cgW (hcr) ?_ | refine G.cW (hdu) ?_ | refine G.cgW (hdu) ?_ | refine GD.cW (hdu) ?_ | refine GD.cgW (hdu) ?_ | refine G.cW (hde1) ?_ | refine G.cgW (hde1) ?_ | refine GD.cW (hde1) ?_ | refine GD.cgW (hde1) ?_ | ((repeat (revert hK; revert K)); refine wk ?_; repeat intro K hK) | refine wkg ?_))
        refine G.fin1 (by first | exact rvOk.tmp | exact rvOk.cellS | exact rvOk.cell1 | fail) rfl ?_
        rw [hb4]
        rfl
      · rw [e0] at hdu
        rw [e2] at hdu2
        clear e0 e2 h3l
        generalize crV d p = dd at *
        (repeat (first | refine G.cW (hcr) ?_ | refine G.cgW (hcr) ?_ | refine GD.cW (hcr) ?_ | refine GD.cgW (hcr) ?_ | refine G.cW (hdu) ?_ | refine G.cgW (hdu) ?_ | refine GD.cW (hdu) ?_ | refine GD.cgW (hdu) ?_ | refine G.cW (hdu2) ?_ | refine G.cgW (hdu2) ?_ | refine GD.cW (hdu2) ?_ | refine GD.cgW (hdu2) ?_ | refine G.cW (hde2) ?_ | refine G.cgW (hde2) ?_ | refine GD.cW (hde2) ?_ | refine GD.cgW (hde2) ?_ | refine G.cW (heq) ?_ | refine G.cgW (heq) ?_ | refine GD.cW (heq) ?_ | refine GD.cgW (heq) ?_ | ((repeat (revert hK; revert K)); refine wk ?_; repeat intro K hK) | refine wkg ?_))
        refine G.fin1 (by first | exact rvOk.tmp | exact rvOk.cellS | exact rvOk.cell1 | fail) rfl ?_
        rfl

end Go.Proofs.Ytohkigillmlinaa
