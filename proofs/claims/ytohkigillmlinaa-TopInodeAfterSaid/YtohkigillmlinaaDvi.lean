/- The law on whole inodes. -/
import Derived.Test.YtohkigillmlinaaDvh
set_option linter.unusedSimpArgs false
set_option linter.unusedVariables false
namespace Go.Proofs.Ytohkigillmlinaa
open Go.RowKit

/-- Behind a statement every way on is told as one family of states. -/
theorem G.cutK {P : Program} {X : Cx} {al : List (Nat × AV)} {bs : Bs} {ro : Option Nat} {α : Type} {c K : Act → World → Prop} {x : Code} {Q : Exit → Act → World → Prop} (I : α → List (Nat × AV) × Bs) (Φ : α → Prop) (hK : ∀ a w, c a w → K a w) (h1 : G P X al bs (Wp P ro x (Exit.then (At P X I Φ) Q))) (h2 : ∀ z, Φ z → G P X (I z).1 (I z).2 c) : G P X al bs (Wp P ro x (Exit.then K Q)) := fun E a W hh =>
  (h1 E a W hh).mono (fun e a w he => by
    cases e with
    | normal => exact hK _ _ (G.of_at h2 he)
    | _ => exact he)
structure StV where
  z : Int
  k : Int
  dn : Bool
  fl : Bool
  fs : Bool
def StV.row (x : StV) : List D := [.s (.int .u8 x.z), .s (.int .u16 x.k), .s (.bool x.dn), .s (.bool x.fl), .s (.bool x.fs)]
def stR (l : List StV) : List (List D) := l.map StV.row
theorem stR_len (l : List StV) : (stR l).length = l.length := by simp [stR]
theorem stR_get (l : List StV) (i : Nat) (h : i < l.length) : (stR l)[i]? = some l[i].row := by simp [stR, h]
def StV.ok (x : StV) : Prop := (0 ≤ x.z ∧ x.z ≤ 255) ∧ 0 ≤ x.k ∧ x.k ≤ 65535
/-- Submit of a write of block 0, whether there is room or not. -/
def sbD (d : DV) (k : Int) (p : List Int) : DV := if (d.q.length : Int) < d.dep then subV d k 0 p else d
def sbR (d : DV) (k : Int) (p : List Int) : DV := if (d.q.length : Int) < d.dep then subV d k 0 p else DV.z
def sbI (d : DV) : Int := if (d.q.length : Int) < d.dep then d.nxt else 0
def sbE (d : DV) : Int := if (d.q.length : Int) < d.dep then 0 else 8
theorem sbW_F (d : DV) (h : d.ok) (p : List Int) (hb : 0 < d.bs.length) (hp : p.length = 32) (hn : d.nxt < 100000) :
    Fn Try.prog 8 [.st d.row, .s (.int .i64 2), .s (.int .i64 0), byD p] (· = .tup [.st (sbR d 2 p).row, .s (.int .i64 (sbI d)), .s (.int .i64 (sbE d))]) := by
  unfold sbR sbI sbE
  by_cases hl : (d.q.length : Int) < d.dep
  · simp only [if_pos hl]
    exact subW_F d h 0 p ⟨by decide, by omega⟩ hp hn hl
  · simp only [if_neg hl]
    exact subWfull_F d h 0 p ⟨by decide, by omega⟩ hp hn (by have := h.nq; omega)
theorem sbF_F (d : DV) (h : d.ok) (hn : d.nxt < 100000) :
    Fn Try.prog 8 [.st d.row, .s (.int .i64 3), .s (.int .i64 0), .s (.slice none 0 0)] (· = .tup [.st (sbR d 3 []).row, .s (.int .i64 (sbI d)), .s (.int .i64 (sbE d))]) := by
  unfold sbR sbI sbE
  by_cases hl : (d.q.length : Int) < d.dep
  · simp only [if_pos hl]
    exact subF_F d h hn hl
  · simp only [if_neg hl]
    exact subFfull_F d h hn (by have := h.nq; omega)
abbrev WS := DV × List (Int × Int)
/-- What is true of the device and of what was written. -/
def wrP (W : List (Int × Int)) (p : List Int) : Prop := ∃ w ∈ W, nmOK w.1 w.2 ∧ p = encL w.1 w.2
structure WI (n k : Nat) (s : WS) : Prop where
  ok : s.1.ok
  dep : s.1.dep = 4
  nb : s.1.bs.length = 1
  nxt : s.1.nxt ≤ n
  wl : s.2.length ≤ k
  nc : s.1.ch.length ≤ 1
  c : ∀ c ∈ s.1.ch, c.b = 0 ∧ wrP s.2 c.p
  q : ∀ x ∈ s.1.q, x.k = 2 → x.b = 0 ∧ wrP s.2 x.p
  b : ∀ p ∈ s.1.bs, wrP s.2 p
theorem wrP.mono {W W' : List (Int × Int)} {p : List Int} (h : wrP W p) (hs : ∀ w ∈ W, w ∈ W') : wrP W' p := let ⟨w, h1, h2⟩ := h; ⟨w, hs w h1, h2⟩
theorem WI.mono {n k n' k' : Nat} {s : WS} (h : WI n k s) (hn : n ≤ n') (hk : k ≤ k') : WI n' k' s := ⟨h.ok, h.dep, h.nb, by have := h.nxt; omega, by have := h.wl; omega, h.nc, h.c, h.q, h.b⟩
theorem WI.subW {n k : Nat} {s : WS} (h : WI n k s) (hn : n < 90000) {a b : Int} (hab : nmOK a b) (hr : (s.1.q.length : Int) < s.1.dep) : WI (n + 1) (k + 1) (subV s.1 2 0 (encL a b), s.2 ++ [(a, b)]) := by
  have hnx := h.nxt
  have hm : ∀ w ∈ s.2, w ∈ s.2 ++ [(a, b)] := fun w hw => List.mem_append_left _ hw
  refine ⟨subV_ok h.ok 2 0 _ (.inl ⟨rfl, Int.le_refl _, by rw [h.nb]; exact Int.zero_lt_one, encL_len _ _⟩) (by omega) hr, h.dep, h.nb, by show s.1.nxt + 1 ≤ _; omega, by have := h.wl; simp; omega, h.nc, fun c hc => ⟨(h.c c hc).1, (h.c c hc).2.mono hm⟩, fun x hx hk2 => ?_, fun p hp => (h.b p hp).mono hm⟩
  rcases List.mem_append.1 hx with hx | hx
  · exact ⟨(h.q x hx hk2).1, (h.q x hx hk2).2.mono hm⟩
  · simp only [List.mem_cons, List.not_mem_nil, or_false] at hx
    subst hx
    exact ⟨rfl, (a, b), List.mem_append_right _ (List.mem_cons_self ..), hab, rfl⟩
theorem WI.subF {n k : Nat} {s : WS} (h : WI n k s) (hn : n < 90000) (hr : (s.1.q.length : Int) < s.1.dep) : WI (n + 1) k (subV s.1 3 0 [], s.2) := by
  have hnx := h.nxt
  refine ⟨subV_ok h.ok 3 0 _ (.inr ⟨rfl, rfl, rfl⟩) (by omega) hr, h.dep, h.nb, by show s.1.nxt + 1 ≤ _; omega, h.wl, h.nc, h.c, fun x hx hk2 => ?_, h.b⟩
  rcases List.mem_append.1 hx with hx | hx
  · exact h.q x hx hk2
  · simp only [List.mem_cons, List.not_mem_nil, or_false] at hx
    subst hx
    cases hk2
theorem flsB_mem {Q : List Int → Prop} : ∀ (l : List CV) (bs : List (List Int)), (∀ c ∈ l, Q c.p) → (∀ b ∈ bs, Q b) → ∀ b ∈ flsB bs l, Q b
  | [], bs, _, hb => hb
  | c :: l, bs, hc, hb => flsB_mem l (bs.set c.b.toNat c.p) (fun c' h' => hc c' (List.mem_cons_of_mem _ h')) (fun b hb' => by
    rcases List.mem_or_eq_of_mem_set hb' with h | h
    · exact hb b h
    · rw [h]; exact hc c (List.mem_cons_self ..))
theorem WI.cmp {n k : Nat} {s : WS} (h : WI n k s) {l : List QV} {x : QV} (hq : s.1.q = l ++ [x]) (ok : Bool) : WI n k (cmpV s.1 l x ok, s.2) := by
  have hok := cmpV_ok h.ok hq ok
  have hl : ∀ y ∈ l, y ∈ s.1.q := fun y hy => by rw [hq]; exact List.mem_append_left _ hy
  have hx : x ∈ s.1.q := by rw [hq]; exact List.mem_append_right _ (List.mem_cons_self ..)
  revert hok
  unfold cmpV
  cases ok
  · intro hok
    exact ⟨hok, h.dep, h.nb, h.nxt, h.wl, h.nc, h.c, fun y hy => h.q y (hl y hy), h.b⟩
  · simp only [if_true]
    by_cases hk : x.k = 2
    · simp only [if_pos hk]
      intro hok
      refine ⟨hok, h.dep, h.nb, h.nxt, h.wl, Nat.le_refl _, fun c hc => ?_, fun y hy => h.q y (hl y hy), h.b⟩
      have : c = ⟨x.b, x.p⟩ := by simpa [cmpC] using hc
      subst this
      exact h.q x hx hk
    · simp only [if_neg hk]
      intro hok
      exact ⟨hok, h.dep, by show (flsB s.1.bs s.1.ch).length = 1; rw [flsB_len]; exact h.nb, h.nxt, h.wl, Nat.zero_le _, (fun c hc => nomatch hc), fun y hy => h.q y (hl y hy), flsB_mem _ _ (fun c hc => (h.c c hc).2) h.b⟩
theorem kpV_mem {Q : List Int → Prop} (picks : List Bool) (s : List (List Int) × Nat) (b : Int) (p : List Int) (hs : ∀ x ∈ s.1, Q x) (hp : Q p) : ∀ x ∈ (kpV picks s b p).1, Q x := by
  intro x hx
  unfold kpV at hx
  dsimp only at hx
  split at hx
  · rcases List.mem_or_eq_of_mem_set hx with h | h
    · exact hs x h
    · rw [h]; exact hp
  · exact hs x hx
theorem crV_mem {Q : List Int → Prop} (d : DV) (picks : List Bool) (hb : ∀ x ∈ d.bs, Q x) (hc : ∀ c ∈ d.ch, Q c.p) (hq : ∀ x ∈ d.q, x.k = 2 → Q x.p) : ∀ x ∈ (crV d picks).bs, Q x := by
  have k1 : ∀ i, i ≤ d.ch.length → ∀ x ∈ (cr1 d picks i).1, Q x := by
    intro i
    induction i with
    | zero => intro _; exact hb
    | succ i ih =>
      intro hi
      rw [cr1_s d picks i (by omega)]
      exact kpV_mem _ _ _ _ (ih (by omega)) (hc _ (List.getElem_mem _))
  have k2 : ∀ i, i ≤ d.q.length → ∀ x ∈ (cr2 d picks i).1, Q x := by
    intro i
    induction i with
    | zero => intro _; exact k1 _ (Nat.le_refl _)
    | succ i ih =>
      intro hi
      rw [cr2_s d picks i (by omega)]
      split
      · rename_i hk
        exact kpV_mem _ _ _ _ (ih (by omega)) (hq _ (List.getElem_mem _) hk)
      · exact ih (by omega)
  exact k2 _ (Nat.le_refl _)
attribute [local irreducible] Wp WL WO fin finB rnd Exit.then Exit.inBlock G GD LT Rd Fn FnB FvB Iter
attribute [local go_sem] DV.row QV.row CV.row StV.row
def wiI (l : List StV) (picks : List Bool) (z : Nat × WS) : List (Nat × AV) × Bs := ([(60, .d (.s (.int .i64 (z.1 : Int)))), (59, .d (.s (.int .i64 (stR l).length))), (58, .d (.l (stR l))), (8, .p 0 0), (10, .o 1 (w2s z.2.2).length), (1, .d (.l (pkR picks)))], [(0, some (33, z.2.1.row.map .d)), (1, some (36, (w2s z.2.2).flatten.map .d))])
def wjI (l : List StV) (picks : List Bool) (x : StV) (i : Nat) (s : WS) : List (Nat × AV) × Bs := ([(60, .d (.s (.int .i64 (i : Int)))), (59, .d (.s (.int .i64 (stR l).length))), (58, .d (.l (stR l))), (8, .p 0 0), (10, .o 1 (w2s s.2).length), (1, .d (.l (pkR picks))), (12, .p 2 0)], [(0, some (33, s.1.row.map .d)), (1, some (36, (w2s s.2).flatten.map .d)), (2, some (39, x.row.map .d))])
def wkI (w : List (Int × Int)) (sa sm : Int) (j : Nat) : List (Nat × AV) × Bs := ([(136, .d (.s (.int .i64 (j : Int)))), (135, .d (.s (.int .i64 (w2s w).length))), (134, .o 0 (w2s w).length), (9, .d (.s (.int .i64 0))), (7, .d (.s (.int .i64 sm))), (6, .d (.s (.int .i64 sa)))], [(0, some (36, (w2s w).flatten.map .d))])
set_option maxHeartbeats 4000000 in
theorem law_whole (l : List StV) (hl : ∀ (i : Nat) (h : i < l.length), l[i].ok) (picks : List Bool) : Fn Try.prog 3 [.l (stR l), .l (pkR picks)] (· = .s (.bool true)) := by
  have ha := awake14_F
  have hll : ((stR l).length : Int) = l.length := by rw [stR_len]
  have hlp : ((pkR picks).length : Int) = picks.length := by rw [pkR_len]
  by_cases hbig : l.length > 30 ∨ picks.length > 100
  · have hb : ((!true || decide (30 < ((stR l).length : Int))) || decide (100 < ((pkR picks).length : Int))) = true := by
      rw [hll, hlp]; simp; omega
    refine Fn.of Try.func3 Try.ntmps3 rfl (by kernel_rfl) (fun w o => ?_)
    (repeat (first | refine G.cW (ha) ?_ | refine G.cgW (ha) ?_ | refine GD.cW (ha) ?_ | refine GD.cgW (ha) ?_ | ((repeat (revert hK; revert K)); refine wk ?_; repeat intro K hK) | refine wkg ?_))
    refine G.fin1 (by first | exact rvOk.tmp | exact rvOk.cellS | exact rvOk.cell1 | fail) rfl ?_
    rfl
  · have hb : ((!true || decide (30 < ((stR l).length : Int))) || decide (100 < ((pkR picks).length : Int))) = false := by
      rw [hll, hlp]; simp; omega
    have h1 := inodeOf_F 1 1 (by decide) (by decide)
    rw [show inS 1 = 1 from rfl, show inM 1 1 = 1 from rfl] at h1
    have hd : (newD 4 [encL 1 1]).ok := newD_ok _ _ (by decide) (by decide) (fun i hi => by
      have : i = 0 := by simpa using hi
      subst this
      rfl)
    have h2 := new_F 4 [encL 1 1] hd
    rw [show bsR [encL 1 1] = [[byD (encL 1 1)]] from rfl] at h2
    refine Fn.of Try.func3 Try.ntmps3 rfl (by kernel_rfl) (fun w o => ?_)
    (repeat (first | refine G.cW (ha) ?_ | refine G.cgW (ha) ?_ | refine GD.cW (ha) ?_ | refine GD.cgW (ha) ?_ | refine G.cW (h1) ?_ | refine G.cgW (h1) ?_ | refine GD.cW (h1) ?_ | refine GD.cgW (h1) ?_ | refine G.cW (h2) ?_ | refine G.cgW (h2) ?_ | refine GD.cW (h2) ?_ | refine GD.cgW (h2) ?_ | (show G _ _ _ _ (WL _ _ _ _ (⟨some _, .build _ _, _, _, _, none⟩ :: _)); refine G.w1 ?_ (by first | exact LT.arB | fail)) | (show G _ _ _ _ (WL _ _ _ _ (⟨some _, .build _ _, _, _, _, some _⟩ :: _)); refine G.gC ?_ (by first | (refine gi ?_; intros; exact LT.arB) | fail) rfl rfl) | (show GD _ _ _ _ _ _ _ _ _ _ (⟨some _, .build _ _, _, _, _, none⟩ :: _); refine GD.w1 ?_ (by first | exact LT.arB | fail)) | (show GD _ _ _ _ _ _ _ _ _ _ (⟨some _, .build _ _, _, _, _, some _⟩ :: _); refine GD.gC ?_ (by first | (refine gi ?_; intros; exact LT.arB) | fail) rfl rfl) | (show G _ _ _ _ (WL _ _ _ _ (⟨some _, .indexAddr _ _ _, _, _, _, none⟩ :: _)); refine G.w1 ?_ (by first | exact LT.arI | fail)) | (show G _ _ _ _ (WL _ _ _ _ (⟨some _, .indexAddr _ _ _, _, _, _, some _⟩ :: _)); refine G.gC ?_ (by first | (refine gi ?_; intros; exact LT.arI) | fail) rfl rfl) | (show GD _ _ _ _ _ _ _ _ _ _ (⟨some _, .indexAddr _ _ _, _, _, _, none⟩ :: _); refine GD.w1 ?_ (by first | exact LT.arI | fail)) | (show GD _ _ _ _ _ _ _ _ _ _ (⟨some _, .indexAddr _ _ _, _, _, _, some _⟩ :: _); refine GD.gC ?_ (by first | (refine gi ?_; intros; exact LT.arI) | fail) rfl rfl) | (show G _ _ _ _ (WL _ _ _ _ (⟨some _, .index _ _ _, _, _, _, none⟩ :: _)); refine G.w1 ?_ (by first | exact LT.arE | fail)) | (show G _ _ _ _ (WL _ _ _ _ (⟨some _, .index _ _ _, _, _, _, some _⟩ :: _)); refine G.gC ?_ (by first | (refine gi ?_; intros; exact LT.arE) | fail) rfl rfl) | (show GD _ _ _ _ _ _ _ _ _ _ (⟨some _, .index _ _ _, _, _, _, none⟩ :: _); refine GD.w1 ?_ (by first | exact LT.arE | fail)) | (show GD _ _ _ _ _ _ _ _ _ _ (⟨some _, .index _ _ _, _, _, _, some _⟩ :: _); refine GD.gC ?_ (by first | (refine gi ?_; intros; exact LT.arE) | fail) rfl rfl) | ((repeat (revert hK; revert K)); refine wkO ?_; repeat intro K hK) | refine wkg ?_))
    (first | refine G.nilL 48 ?_ | refine G.frzB 48 ?_)
    (repeat (first | refine G.cW (ha) ?_ | refine G.cgW (ha) ?_ | refine GD.cW (ha) ?_ | refine GD.cgW (ha) ?_ | refine G.cW (h1) ?_ | refine G.cgW (h1) ?_ | refine GD.cW (h1) ?_ | refine GD.cgW (h1) ?_ | refine G.cW (h2) ?_ | refine G.cgW (h2) ?_ | refine GD.cW (h2) ?_ | refine GD.cgW (h2) ?_ | (show G _ _ _ _ (WL _ _ _ _ (⟨some _, .build _ _, _, _, _, none⟩ :: _)); refine G.w1 ?_ (by first | exact LT.arB | fail)) | (show G _ _ _ _ (WL _ _ _ _ (⟨some _, .build _ _, _, _, _, some _⟩ :: _)); refine G.gC ?_ (by first | (refine gi ?_; intros; exact LT.arB) | fail) rfl rfl) | (show GD _ _ _ _ _ _ _ _ _ _ (⟨some _, .build _ _, _, _, _, none⟩ :: _); refine GD.w1 ?_ (by first | exact LT.arB | fail)) | (show GD _ _ _ _ _ _ _ _ _ _ (⟨some _, .build _ _, _, _, _, some _⟩ :: _); refine GD.gC ?_ (by first | (refine gi ?_; intros; exact LT.arB) | fail) rfl rfl) | (show G _ _ _ _ (WL _ _ _ _ (⟨some _, .indexAddr _ _ _, _, _, _, none⟩ :: _)); refine G.w1 ?_ (by first | exact LT.arI | fail)) | (show G _ _ _ _ (WL _ _ _ _ (⟨some _, .indexAddr _ _ _, _, _, _, some _⟩ :: _)); refine G.gC ?_ (by first | (refine gi ?_; intros; exact LT.arI) | fail) rfl rfl) | (show GD _ _ _ _ _ _ _ _ _ _ (⟨some _, .indexAddr _ _ _, _, _, _, none⟩ :: _); refine GD.w1 ?_ (by first | exact LT.arI | fail)) | (show GD _ _ _ _ _ _ _ _ _ _ (⟨some _, .indexAddr _ _ _, _, _, _, some _⟩ :: _); refine GD.gC ?_ (by first | (refine gi ?_; intros; exact LT.arI) | fail) rfl rfl) | (show G _ _ _ _ (WL _ _ _ _ (⟨some _, .index _ _ _, _, _, _, none⟩ :: _)); refine G.w1 ?_ (by first | exact LT.arE | fail)) | (show G _ _ _ _ (WL _ _ _ _ (⟨some _, .index _ _ _, _, _, _, some _⟩ :: _)); refine G.gC ?_ (by first | (refine gi ?_; intros; exact LT.arE) | fail) rfl rfl) | (show GD _ _ _ _ _ _ _ _ _ _ (⟨some _, .index _ _ _, _, _, _, none⟩ :: _); refine GD.w1 ?_ (by first | exact LT.arE | fail)) | (show GD _ _ _ _ _ _ _ _ _ _ (⟨some _, .index _ _ _, _, _, _, some _⟩ :: _); refine GD.gC ?_ (by first | (refine gi ?_; intros; exact LT.arE) | fail) rfl rfl) | ((repeat (revert hK; revert K)); refine wkO ?_; repeat intro K hK) | refine wkg ?_))
    refine G.loop (wiI l picks) (fun z => z.1 ≤ l.length ∧ WI (2 * z.1) (z.1 + 1) z.2) (fun z => l.length - z.1) ?_ ?_
    · have hw0 : WI (2 * 0) (0 + 1) (newD 4 [encL 1 1], [(1, 1)]) := ⟨hd, rfl, rfl, Int.le_refl _, Nat.le_refl _, Nat.zero_le _, (fun c hc => nomatch hc), (fun x hx => nomatch hx), fun p hp => ⟨(1, 1), List.mem_cons_self .., ⟨by decide, by decide, by decide⟩, by simpa [newD] using hp⟩⟩
      exact G.at (0, newD 4 [encL 1 1], [(1, 1)]) [(0, 2), (1, 4)] ⟨Nat.zero_le _, hw0⟩ (by repeat (first | exact trivial | refine ⟨⟨rfl, rfl⟩, ?_⟩)) (by repeat (first | exact trivial | refine ⟨⟨rfl, rfl, rfl⟩, ?_⟩ | refine ⟨⟨rfl, by rw [renL_d]; rfl, kbL_d _ _⟩, ?_⟩ | refine ⟨rfl, ?_⟩)) (by decide)
    · rintro ⟨i, s⟩ ⟨hi, hw⟩
      dsimp only [wiI] at hi hw ⊢
      by_cases hil : i < l.length
      · have hr := stR_get l i hil
        have hx := hl i hil
        have hio := inodeOf_F l[i].z l[i].k hx.1 hx.2
        have hab := in_ok l[i].z l[i].k
        have hsb := sbW_F s.1 hw.ok (encL (inS l[i].z) (inM l[i].z l[i].k)) (by rw [hw.nb]; decide) (encL_len _ _) (by have := hw.nxt; omega)
        generalize inS l[i].z = sa at *
        generalize inM l[i].z l[i].k = sm at *
        generalize l[i] = x at *
        (repeat (first | refine G.cW (hio) ?_ | refine G.cgW (hio) ?_ | refine GD.cW (hio) ?_ | refine GD.cgW (hio) ?_ | refine G.cW (hsb) ?_ | refine G.cgW (hsb) ?_ | refine GD.cW (hsb) ?_ | refine GD.cgW (hsb) ?_ | (show G _ _ _ _ (WL _ _ _ _ (⟨some _, .indexAddr _ _ _, _, _, _, none⟩ :: _)); refine G.w1 ?_ (by first | exact LT.rd (Rd.ixv i (hr)) rfl | fail)) | (show G _ _ _ _ (WL _ _ _ _ (⟨some _, .indexAddr _ _ _, _, _, _, some _⟩ :: _)); refine G.gC ?_ (by first | (refine gi ?_; intros; exact LT.rd (Rd.ixv i (hr)) rfl) | fail) rfl rfl) | (show GD _ _ _ _ _ _ _ _ _ _ (⟨some _, .indexAddr _ _ _, _, _, _, none⟩ :: _); refine GD.w1 ?_ (by first | exact LT.rd (Rd.ixv i (hr)) rfl | fail)) | (show GD _ _ _ _ _ _ _ _ _ _ (⟨some _, .indexAddr _ _ _, _, _, _, some _⟩ :: _); refine GD.gC ?_ (by first | (refine gi ?_; intros; exact LT.rd (Rd.ixv i (hr)) rfl) | fail) rfl rfl) | ((repeat (revert hK; revert K)); refine wk ?_; repeat intro K hK) | refine wkg ?_))
        refine G.cutK (wjI l picks x i) (fun s' => WI (2 * i + 1) (i + 2) s') (by assumption) ?_ ?_
        · by_cases hroom : (s.1.q.length : Int) < s.1.dep
          · have hb1 : (sbE s.1 == 0) = true := by unfold sbE; rw [if_pos hroom]; rfl
            have hR : sbR s.1 2 (encL sa sm) = subV s.1 2 0 (encL sa sm) := by unfold sbR; rw [if_pos hroom]
            have hwl : (w2s s.2).length ≤ 40 := by rw [w2s_len]; have := hw.wl; omega
            rw [hR]
            (repeat (first | (show G _ _ _ _ (WL _ _ _ _ (⟨some _, .build _ _, _, _, _, none⟩ :: _)); refine G.w1 ?_ (by first | exact LT.arB | fail)) | (show G _ _ _ _ (WL _ _ _ _ (⟨some _, .build _ _, _, _, _, some _⟩ :: _)); refine G.gC ?_ (by first | (refine gi ?_; intros; exact LT.arB) | fail) rfl rfl) | (show GD _ _ _ _ _ _ _ _ _ _ (⟨some _, .build _ _, _, _, _, none⟩ :: _); refine GD.w1 ?_ (by first | exact LT.arB | fail)) | (show GD _ _ _ _ _ _ _ _ _ _ (⟨some _, .build _ _, _, _, _, some _⟩ :: _); refine GD.gC ?_ (by first | (refine gi ?_; intros; exact LT.arB) | fail) rfl rfl) | (show G _ _ _ _ (WL _ _ _ _ (⟨some _, .indexAddr _ _ _, _, _, _, none⟩ :: _)); refine G.w1 ?_ (by first | exact LT.arI | fail)) | (show G _ _ _ _ (WL _ _ _ _ (⟨some _, .indexAddr _ _ _, _, _, _, some _⟩ :: _)); refine G.gC ?_ (by first | (refine gi ?_; intros; exact LT.arI) | fail) rfl rfl) | (show GD _ _ _ _ _ _ _ _ _ _ (⟨some _, .indexAddr _ _ _, _, _, _, none⟩ :: _); refine GD.w1 ?_ (by first | exact LT.arI | fail)) | (show GD _ _ _ _ _ _ _ _ _ _ (⟨some _, .indexAddr _ _ _, _, _, _, some _⟩ :: _); refine GD.gC ?_ (by first | (refine gi ?_; intros; exact LT.arI) | fail) rfl rfl) | (show G _ _ _ _ (WL _ _ _ _ (⟨some _, .index _ _ _, _, _, _, none⟩ :: _)); refine G.w1 ?_ (by first | exact LT.arE | fail)) | (show G _ _ _ _ (WL _ _ _ _ (⟨some _, .index _ _ _, _, _, _, some _⟩ :: _)); refine G.gC ?_ (by first | (refine gi ?_; intros; exact LT.arE) | fail) rfl rfl) | (show GD _ _ _ _ _ _ _ _ _ _ (⟨some _, .index _ _ _, _, _, _, none⟩ :: _); refine GD.w1 ?_ (by first | exact LT.arE | fail)) | (show GD _ _ _ _ _ _ _ _ _ _ (⟨some _, .index _ _ _, _, _, _, some _⟩ :: _); refine GD.gC ?_ (by first | (refine gi ?_; intros; exact LT.arE) | fail) rfl rfl) | ((repeat (revert hK; revert K)); refine wk ?_; repeat intro K hK) | refine wkg ?_))
            have hs2 : wjI l picks x i (subV s.1 2 0 (encL sa sm), s.2 ++ [(sa, sm)]) = ([(60, .d (.s (.int .i64 (i : Int)))), (59, .d (.s (.int .i64 (stR l).length))), (58, .d (.l (stR l))), (8, .p 0 0), (10, .o 1 ((w2s s.2).length + [w2R (sa, sm)].length)), (1, .d (.l (pkR picks))), (12, .p 2 0)], [(0, some (33, (subV s.1 2 0 (encL sa sm)).row.map .d)), (1, some (36, (w2s s.2 ++ [w2R (sa, sm)]).flatten.map .d)), (2, some (39, x.row.map .d))]) := by
              unfold wjI w2s; rw [List.map_append, List.length_append]; rfl
            refine G.at (subV s.1 2 0 (encL sa sm), s.2 ++ [(sa, sm)]) [(0, 0), (1, 7), (2, 2)] ?_ ?_ ?_ (by decide)
            · exact (hw.subW (by omega) hab hroom).mono (by omega) (by omega)
            · rw [hs2]; exact (by repeat (first | exact trivial | refine ⟨⟨rfl, rfl⟩, ?_⟩))
            · rw [hs2]; exact (by repeat (first | exact trivial | refine ⟨⟨rfl, rfl, rfl⟩, ?_⟩ | refine ⟨⟨rfl, by rw [renL_d]; rfl, kbL_d _ _⟩, ?_⟩ | refine ⟨rfl, ?_⟩))
          · have hb1 : (sbE s.1 == 0) = false := by unfold sbE; rw [if_neg hroom]; rfl
            (repeat (first | ((repeat (revert hK; revert K)); refine wk ?_; repeat intro K hK) | refine wkg ?_))
            exact G.at s [(0, 0), (1, 1), (2, 2)] (hw.mono (by omega) (by omega)) (by repeat (first | exact trivial | refine ⟨⟨rfl, rfl⟩, ?_⟩)) (by repeat (first | exact trivial | refine ⟨⟨rfl, rfl, rfl⟩, ?_⟩ | refine ⟨⟨rfl, by rw [renL_d]; rfl, kbL_d _ _⟩, ?_⟩ | refine ⟨rfl, ?_⟩)) (by decide)
        · rintro s' hw'
          dsimp only [wjI]
          (repeat (first | ((repeat (revert hK; revert K)); refine wk ?_; repeat intro K hK) | refine wkg ?_))
          refine G.cutK (wjI l picks x i) (fun s' => WI (2 * i + 2) (i + 2) s') (by assumption) ?_ ?_
          · by_cases hfs : x.fs = true
            · have hsb2 := sbF_F s'.1 hw'.ok (by have := hw'.nxt; omega)
              by_cases hroom : (s'.1.q.length : Int) < s'.1.dep
              · have hb1 : (sbE s'.1 == 0) = true := by unfold sbE; rw [if_pos hroom]; rfl
                have hR : sbR s'.1 3 [] = subV s'.1 3 0 [] := by unfold sbR; rw [if_pos hroom]
                rw [hR] at hsb2
                (repeat (first | refine G.cW (hsb2) ?_ | refine G.cgW (hsb2) ?_ | refine GD.cW (hsb2) ?_ | refine GD.cgW (hsb2) ?_ | ((repeat (revert hK; revert K)); refine wk ?_; repeat intro K hK) | refine wkg ?_))
                exact G.at (subV s'.1 3 0 [], s'.2) [(0, 0), (1, 1), (2, 2)] ((hw'.subF (by omega) hroom).mono (by omega) (by omega)) (by repeat (first | exact trivial | refine ⟨⟨rfl, rfl⟩, ?_⟩)) (by repeat (first | exact trivial | refine ⟨⟨rfl, rfl, rfl⟩, ?_⟩ | refine ⟨⟨rfl, by rw [renL_d]; rfl, kbL_d _ _⟩, ?_⟩ | refine ⟨rfl, ?_⟩)) (by decide)
              · have hb1 : (sbE s'.1 == 0) = false := by unfold sbE; rw [if_neg hroom]; rfl
                (repeat (first | refine G.cW (hsb2) ?_ | refine G.cgW (hsb2) ?_ | refine GD.cW (hsb2) ?_ | refine GD.cgW (hsb2) ?_ | ((repeat (revert hK; revert K)); refine wk ?_; repeat intro K hK) | refine wkg ?_))
                exact G.at s' [(0, 0), (1, 1), (2, 2)] (hw'.mono (by omega) (by omega)) (by repeat (first | exact trivial | refine ⟨⟨rfl, rfl⟩, ?_⟩)) (by repeat (first | exact trivial | refine ⟨⟨rfl, rfl, rfl⟩, ?_⟩ | refine ⟨⟨rfl, by rw [renL_d]; rfl, kbL_d _ _⟩, ?_⟩ | refine ⟨rfl, ?_⟩)) (by decide)
            · have hfs : x.fs = false := by simpa using hfs
              (repeat (first | ((repeat (revert hK; revert K)); refine wk ?_; repeat intro K hK) | refine wkg ?_))
              exact G.at s' [(0, 0), (1, 1), (2, 2)] (hw'.mono (by omega) (by omega)) (by repeat (first | exact trivial | refine ⟨⟨rfl, rfl⟩, ?_⟩)) (by repeat (first | exact trivial | refine ⟨⟨rfl, rfl, rfl⟩, ?_⟩ | refine ⟨⟨rfl, by rw [renL_d]; rfl, kbL_d _ _⟩, ?_⟩ | refine ⟨rfl, ?_⟩)) (by decide)
          · rintro s3 hw3
            dsimp only [wjI]
            by_cases hdn : x.dn = true
            · have hq16 : (qR s3.1.q).length ≤ 16 := by rw [qR_len]; have := hw3.ok.nq; have := hw3.dep; omega
              by_cases hq : s3.1.q = []
              · have hcm := cmpE_F s3.1 hw3.ok (!x.fl) hq
                rw [show (-1 : Int) = ((qR s3.1.q).length : Int) - 1 by rw [hq]; rfl] at hcm
                (repeat (first | refine G.cW (hcm) ?_ | refine G.cgW (hcm) ?_ | refine GD.cW (hcm) ?_ | refine GD.cgW (hcm) ?_ | ((repeat (revert hK; revert K)); refine wk ?_; repeat intro K hK) | refine wkg ?_))
                exact G.at (i + 1, s3) [(0, 0), (1, 1)] ⟨⟨by omega, hw3.mono (by omega) (by omega)⟩, by omega⟩ (by repeat (first | exact trivial | refine ⟨⟨rfl, rfl⟩, ?_⟩)) (by repeat (first | exact trivial | refine ⟨⟨rfl, rfl, rfl⟩, ?_⟩ | refine ⟨⟨rfl, by rw [renL_d]; rfl, kbL_d _ _⟩, ?_⟩ | refine ⟨rfl, ?_⟩)) (by decide)
              · obtain ⟨q0, y, hqe⟩ : ∃ q0 y, s3.1.q = q0 ++ [y] := ⟨_, _, (List.dropLast_concat_getLast hq).symm⟩
                have hcm := cmp_F s3.1 hw3.ok q0 y hqe (!x.fl) hw3.nc (fun hk c hc => by
                  rw [(hw3.c c hc).1, (hw3.q y (by rw [hqe]; exact List.mem_append_right _ (List.mem_cons_self ..)) hk).1]) (by rw [hw3.nb]; decide)
                rw [show (q0.length : Int) = ((qR s3.1.q).length : Int) - 1 by rw [qR_len, hqe]; simp] at hcm
                have hwc := hw3.cmp hqe (!x.fl)
                generalize cmpV s3.1 q0 y (!x.fl) = dd at *
                (repeat (first | refine G.cW (hcm) ?_ | refine G.cgW (hcm) ?_ | refine GD.cW (hcm) ?_ | refine GD.cgW (hcm) ?_ | ((repeat (revert hK; revert K)); refine wk ?_; repeat intro K hK) | refine wkg ?_))
                exact G.at (i + 1, dd, s3.2) [(0, 0), (1, 1)] ⟨⟨by omega, hwc.mono (by omega) (by omega)⟩, by omega⟩ (by repeat (first | exact trivial | refine ⟨⟨rfl, rfl⟩, ?_⟩)) (by repeat (first | exact trivial | refine ⟨⟨rfl, rfl, rfl⟩, ?_⟩ | refine ⟨⟨rfl, by rw [renL_d]; rfl, kbL_d _ _⟩, ?_⟩ | refine ⟨rfl, ?_⟩)) (by decide)
            · have hdn : x.dn = false := by simpa using hdn
              (repeat (first | ((repeat (revert hK; revert K)); refine wk ?_; repeat intro K hK) | refine wkg ?_))
              exact G.at (i + 1, s3) [(0, 0), (1, 1)] ⟨⟨by omega, hw3.mono (by omega) (by omega)⟩, by omega⟩ (by repeat (first | exact trivial | refine ⟨⟨rfl, rfl⟩, ?_⟩)) (by repeat (first | exact trivial | refine ⟨⟨rfl, rfl, rfl⟩, ?_⟩ | refine ⟨⟨rfl, by rw [renL_d]; rfl, kbL_d _ _⟩, ?_⟩ | refine ⟨rfl, ?_⟩)) (by decide)
      · have e : i = l.length := by omega
        subst e
        have hcr := crash_F s.1 hw.ok picks
        have hcok := crV_ok hw.ok picks
        have hcl : (crV s.1 picks).bs.length = 1 := by rw [← hw.nb]; exact (cr2_b s.1 picks s.1.q.length (Nat.le_refl _)).1
        have hdu := dur_F (crV s.1 picks) hcok 0 (by omega)
        obtain ⟨⟨sa, sm⟩, hm, hnm, hp⟩ := crV_mem (Q := wrP s.2) s.1 picks hw.b (fun c hc => (hw.c c hc).2) (fun x hx hk => (hw.q x hx hk).2) _ (List.getElem_mem (show 0 < (crV s.1 picks).bs.length by omega))
        rw [hp] at hdu
        have hde := dec_F sa sm hnm
        clear hp hcl
        generalize crV s.1 picks = dd at *
        (repeat (first | refine G.cW (hcr) ?_ | refine G.cgW (hcr) ?_ | refine GD.cW (hcr) ?_ | refine GD.cgW (hcr) ?_ | refine G.cW (hdu) ?_ | refine G.cgW (hdu) ?_ | refine GD.cW (hdu) ?_ | refine GD.cgW (hdu) ?_ | refine G.cW (hde) ?_ | refine G.cgW (hde) ?_ | refine GD.cW (hde) ?_ | refine GD.cgW (hde) ?_ | ((repeat (revert hK; revert K)); refine wk ?_; repeat intro K hK) | refine wkg ?_))
        have hwl := hw.wl
        have hwr := w2s_row s.2
        obtain ⟨jm, hjm⟩ := List.getElem?_of_mem hm
        refine G.loop (wkI s.2 sa sm) (fun j => j ≤ jm) (fun j => jm - j) ?_ ?_
        · exact G.at 0 [(0, 1)] (Nat.zero_le _) (by repeat (first | exact trivial | refine ⟨⟨rfl, rfl⟩, ?_⟩)) (by repeat (first | exact trivial | refine ⟨⟨rfl, rfl, rfl⟩, ?_⟩ | refine ⟨⟨rfl, by rw [renL_d]; rfl, kbL_d _ _⟩, ?_⟩ | refine ⟨rfl, ?_⟩)) (by decide)
        · intro j hj
          have hjl : jm < s.2.length := (List.getElem?_eq_some_iff.1 hjm).1
          have hjl2 : j < (w2s s.2).length := by rw [w2s_len]; omega
          have hlw : ((w2s s.2).length : Int) = s.2.length := by rw [w2s_len]
          have hrj : (w2s s.2)[j]? = some (w2R s.2[j]) := by simp [w2s, show j < s.2.length by omega]
          dsimp only [wkI]
          by_cases he : eq2 s.2[j] (sa, sm) = true
          · have hb3 : (((0 : Int) == 0) && eq2 s.2[j] (sa, sm)) = true := by rw [he]; rfl
            generalize s.2[j] = u at *
            (repeat (first | (show G _ _ _ _ (WL _ _ _ _ (⟨some _, .binOp .eql _ _ _ _, _, _, _, none⟩ :: _)); refine G.w1 ?_ (by first | exact LT.eqA2 u (sa, sm) | fail)) | (show G _ _ _ _ (WL _ _ _ _ (⟨some _, .binOp .eql _ _ _ _, _, _, _, some _⟩ :: _)); refine G.gC ?_ (by first | (refine gi ?_; intros; exact LT.eqA2 u (sa, sm)) | fail) rfl rfl) | (show GD _ _ _ _ _ _ _ _ _ _ (⟨some _, .binOp .eql _ _ _ _, _, _, _, none⟩ :: _); refine GD.w1 ?_ (by first | exact LT.eqA2 u (sa, sm) | fail)) | (show GD _ _ _ _ _ _ _ _ _ _ (⟨some _, .binOp .eql _ _ _ _, _, _, _, some _⟩ :: _); refine GD.gC ?_ (by first | (refine gi ?_; intros; exact LT.eqA2 u (sa, sm)) | fail) rfl rfl) | (show G _ _ _ _ (WL _ _ _ _ (⟨some _, .build _ _, _, _, _, none⟩ :: _)); refine G.w1 ?_ (by first | exact LT.arB | fail)) | (show G _ _ _ _ (WL _ _ _ _ (⟨some _, .build _ _, _, _, _, some _⟩ :: _)); refine G.gC ?_ (by first | (refine gi ?_; intros; exact LT.arB) | fail) rfl rfl) | (show GD _ _ _ _ _ _ _ _ _ _ (⟨some _, .build _ _, _, _, _, none⟩ :: _); refine GD.w1 ?_ (by first | exact LT.arB | fail)) | (show GD _ _ _ _ _ _ _ _ _ _ (⟨some _, .build _ _, _, _, _, some _⟩ :: _); refine GD.gC ?_ (by first | (refine gi ?_; intros; exact LT.arB) | fail) rfl rfl) | (show G _ _ _ _ (WL _ _ _ _ (⟨some _, .indexAddr _ _ _, _, _, _, none⟩ :: _)); refine G.w1 ?_ (by first | exact LT.arI | fail)) | (show G _ _ _ _ (WL _ _ _ _ (⟨some _, .indexAddr _ _ _, _, _, _, some _⟩ :: _)); refine G.gC ?_ (by first | (refine gi ?_; intros; exact LT.arI) | fail) rfl rfl) | (show GD _ _ _ _ _ _ _ _ _ _ (⟨some _, .indexAddr _ _ _, _, _, _, none⟩ :: _); refine GD.w1 ?_ (by first | exact LT.arI | fail)) | (show GD _ _ _ _ _ _ _ _ _ _ (⟨some _, .indexAddr _ _ _, _, _, _, some _⟩ :: _); refine GD.gC ?_ (by first | (refine gi ?_; intros; exact LT.arI) | fail) rfl rfl) | (show G _ _ _ _ (WL _ _ _ _ (⟨some _, .index _ _ _, _, _, _, none⟩ :: _)); refine G.w1 ?_ (by first | exact LT.arE | fail)) | (show G _ _ _ _ (WL _ _ _ _ (⟨some _, .index _ _ _, _, _, _, some _⟩ :: _)); refine G.gC ?_ (by first | (refine gi ?_; intros; exact LT.arE) | fail) rfl rfl) | (show GD _ _ _ _ _ _ _ _ _ _ (⟨some _, .index _ _ _, _, _, _, none⟩ :: _); refine GD.w1 ?_ (by first | exact LT.arE | fail)) | (show GD _ _ _ _ _ _ _ _ _ _ (⟨some _, .index _ _ _, _, _, _, some _⟩ :: _); refine GD.gC ?_ (by first | (refine gi ?_; intros; exact LT.arE) | fail) rfl rfl) | (show G _ _ _ _ (WL _ _ _ _ (⟨some _, .indexAddr _ _ _, _, _, _, none⟩ :: _)); refine G.w1 ?_ (by first | exact LT.rd (Rd.ixov j (hjl2)) rfl | fail)) | (show G _ _ _ _ (WL _ _ _ _ (⟨some _, .indexAddr _ _ _, _, _, _, some _⟩ :: _)); refine G.gC ?_ (by first | (refine gi ?_; intros; exact LT.rd (Rd.ixov j (hjl2)) rfl) | fail) rfl rfl) | (show GD _ _ _ _ _ _ _ _ _ _ (⟨some _, .indexAddr _ _ _, _, _, _, none⟩ :: _); refine GD.w1 ?_ (by first | exact LT.rd (Rd.ixov j (hjl2)) rfl | fail)) | (show GD _ _ _ _ _ _ _ _ _ _ (⟨some _, .indexAddr _ _ _, _, _, _, some _⟩ :: _); refine GD.gC ?_ (by first | (refine gi ?_; intros; exact LT.rd (Rd.ixov j (hjl2)) rfl) | fail) rfl rfl) | (show G _ _ _ _ (WL _ _ _ _ (⟨some _, .load _ _, _, _, _, none⟩ :: _)); refine G.w1 ?_ (by first | exact LT.rd (Rd.ldR j (hrj) (hwr)) rfl | fail)) | (show G _ _ _ _ (WL _ _ _ _ (⟨some _, .load _ _, _, _, _, some _⟩ :: _)); refine G.gC ?_ (by first | (refine gi ?_; intros; exact LT.rd (Rd.ldR j (hrj) (hwr)) rfl) | fail) rfl rfl) | (show GD _ _ _ _ _ _ _ _ _ _ (⟨some _, .load _ _, _, _, _, none⟩ :: _); refine GD.w1 ?_ (by first | exact LT.rd (Rd.ldR j (hrj) (hwr)) rfl | fail)) | (show GD _ _ _ _ _ _ _ _ _ _ (⟨some _, .load _ _, _, _, _, some _⟩ :: _); refine GD.gC ?_ (by first | (refine gi ?_; intros; exact LT.rd (Rd.ldR j (hrj) (hwr)) rfl) | fail) rfl rfl) | ((repeat (revert hK; revert K)); refine wk ?_; repeat intro K hK) | refine wkg ?_))
            refine G.fin1 (by first | exact rvOk.tmp | exact rvOk.cellS | exact rvOk.cell1 | fail) rfl ?_
            rfl
          · have he : eq2 s.2[j] (sa, sm) = false := by simpa using he
            have hb3 : (((0 : Int) == 0) && eq2 s.2[j] (sa, sm)) = false := by rw [he]; rfl
            have hne : j ≠ jm := fun e => by
              subst e
              rw [List.getElem?_eq_getElem (by omega)] at hjm
              rw [Option.some.inj hjm] at he
              simp [eq2] at he
            generalize s.2[j] = u at *
            (repeat (first | (show G _ _ _ _ (WL _ _ _ _ (⟨some _, .binOp .eql _ _ _ _, _, _, _, none⟩ :: _)); refine G.w1 ?_ (by first | exact LT.eqA2 u (sa, sm) | fail)) | (show G _ _ _ _ (WL _ _ _ _ (⟨some _, .binOp .eql _ _ _ _, _, _, _, some _⟩ :: _)); refine G.gC ?_ (by first | (refine gi ?_; intros; exact LT.eqA2 u (sa, sm)) | fail) rfl rfl) | (show GD _ _ _ _ _ _ _ _ _ _ (⟨some _, .binOp .eql _ _ _ _, _, _, _, none⟩ :: _); refine GD.w1 ?_ (by first | exact LT.eqA2 u (sa, sm) | fail)) | (show GD _ _ _ _ _ _ _ _ _ _ (⟨some _, .binOp .eql _ _ _ _, _, _, _, some _⟩ :: _); refine GD.gC ?_ (by first | (refine gi ?_; intros; exact LT.eqA2 u (sa, sm)) | fail) rfl rfl) | (show G _ _ _ _ (WL _ _ _ _ (⟨some _, .build _ _, _, _, _, none⟩ :: _)); refine G.w1 ?_ (by first | exact LT.arB | fail)) | (show G _ _ _ _ (WL _ _ _ _ (⟨some _, .build _ _, _, _, _, some _⟩ :: _)); refine G.gC ?_ (by first | (refine gi ?_; intros; exact LT.arB) | fail) rfl rfl) | (show GD _ _ _ _ _ _ _ _ _ _ (⟨some _, .build _ _, _, _, _, none⟩ :: _); refine GD.w1 ?_ (by first | exact LT.arB | fail)) | (show GD _ _ _ _ _ _ _ _ _ _ (⟨some _, .build _ _, _, _, _, some _⟩ :: _); refine GD.gC ?_ (by first | (refine gi ?_; intros; exact LT.arB) | fail) rfl rfl) | (show G _ _ _ _ (WL _ _ _ _ (⟨some _, .indexAddr _ _ _, _, _, _, none⟩ :: _)); refine G.w1 ?_ (by first | exact LT.arI | fail)) | (show G _ _ _ _ (WL _ _ _ _ (⟨some _, .indexAddr _ _ _, _, _, _, some _⟩ :: _)); refine G.gC ?_ (by first | (refine gi ?_; intros; exact LT.arI) | fail) rfl rfl) | (show GD _ _ _ _ _ _ _ _ _ _ (⟨some _, .indexAddr _ _ _, _, _, _, none⟩ :: _); refine GD.w1 ?_ (by first | exact LT.arI | fail)) | (show GD _ _ _ _ _ _ _ _ _ _ (⟨some _, .indexAddr _ _ _, _, _, _, some _⟩ :: _); refine GD.gC ?_ (by first | (refine gi ?_; intros; exact LT.arI) | fail) rfl rfl) | (show G _ _ _ _ (WL _ _ _ _ (⟨some _, .index _ _ _, _, _, _, none⟩ :: _)); refine G.w1 ?_ (by first | exact LT.arE | fail)) | (show G _ _ _ _ (WL _ _ _ _ (⟨some _, .index _ _ _, _, _, _, some _⟩ :: _)); refine G.gC ?_ (by first | (refine gi ?_; intros; exact LT.arE) | fail) rfl rfl) | (show GD _ _ _ _ _ _ _ _ _ _ (⟨some _, .index _ _ _, _, _, _, none⟩ :: _); refine GD.w1 ?_ (by first | exact LT.arE | fail)) | (show GD _ _ _ _ _ _ _ _ _ _ (⟨some _, .index _ _ _, _, _, _, some _⟩ :: _); refine GD.gC ?_ (by first | (refine gi ?_; intros; exact LT.arE) | fail) rfl rfl) | (show G _ _ _ _ (WL _ _ _ _ (⟨some _, .indexAddr _ _ _, _, _, _, none⟩ :: _)); refine G.w1 ?_ (by first | exact LT.rd (Rd.ixov j (hjl2)) rfl | fail)) | (show G _ _ _ _ (WL _ _ _ _ (⟨some _, .indexAddr _ _ _, _, _, _, some _⟩ :: _)); refine G.gC ?_ (by first | (refine gi ?_; intros; exact LT.rd (Rd.ixov j (hjl2)) rfl) | fail) rfl rfl) | (show GD _ _ _ _ _ _ _ _ _ _ (⟨some _, .indexAddr _ _ _, _, _, _, none⟩ :: _); refine GD.w1 ?_ (by first | exact LT.rd (Rd.ixov j (hjl2)) rfl | fail)) | (show GD _ _ _ _ _ _ _ _ _ _ (⟨some _, .indexAddr _ _ _, _, _, _, some _⟩ :: _); refine GD.gC ?_ (by first | (refine gi ?_; intros; exact LT.rd (Rd.ixov j (hjl2)) rfl) | fail) rfl rfl) | (show G _ _ _ _ (WL _ _ _ _ (⟨some _, .load _ _, _, _, _, none⟩ :: _)); refine G.w1 ?_ (by first | exact LT.rd (Rd.ldR j (hrj) (hwr)) rfl | fail)) | (show G _ _ _ _ (WL _ _ _ _ (⟨some _, .load _ _, _, _, _, some _⟩ :: _)); refine G.gC ?_ (by first | (refine gi ?_; intros; exact LT.rd (Rd.ldR j (hrj) (hwr)) rfl) | fail) rfl rfl) | (show GD _ _ _ _ _ _ _ _ _ _ (⟨some _, .load _ _, _, _, _, none⟩ :: _); refine GD.w1 ?_ (by first | exact LT.rd (Rd.ldR j (hrj) (hwr)) rfl | fail)) | (show GD _ _ _ _ _ _ _ _ _ _ (⟨some _, .load _ _, _, _, _, some _⟩ :: _); refine GD.gC ?_ (by first | (refine gi ?_; intros; exact LT.rd (Rd.ldR j (hrj) (hwr)) rfl) | fail) rfl rfl) | ((repeat (revert hK; revert K)); refine wk ?_; repeat intro K hK) | refine wkg ?_))
            exact G.at (j + 1) [(0, 0)] ⟨by omega, by omega⟩ (by repeat (first | exact trivial | refine ⟨⟨rfl, rfl⟩, ?_⟩)) (by repeat (first | exact trivial | refine ⟨⟨rfl, rfl, rfl⟩, ?_⟩ | refine ⟨⟨rfl, by rw [renL_d]; rfl, kbL_d _ _⟩, ?_⟩ | refine ⟨rfl, ?_⟩)) (by decide)

end Go.Proofs.Ytohkigillmlinaa
