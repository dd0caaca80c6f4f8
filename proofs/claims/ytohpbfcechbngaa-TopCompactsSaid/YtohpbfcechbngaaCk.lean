/- Buddy: Check of a zone with canonical lists. -/
import Derived.Test.YtohpbfcechbngaaCe
set_option linter.unusedSimpArgs false
set_option linter.unusedVariables false
namespace Go.Proofs.Ytohpbfcechbngaa
open Go.RowKit

/-- What Check asks of lists. -/
structure ZOk (n : Nat) (L : Nat → List Int) : Prop where
  s : ∀ k, k ≤ 4 → (L k).Pairwise (· < ·)
  i : ∀ k, k ≤ 4 → ∀ x ∈ L k, ∃ f : Nat, x = (f : Int) ∧ insV n f k = true
  d : ∀ k j, k ≤ 4 → j ≤ 4 → ∀ f g i : Nat, (f : Int) ∈ L k → (g : Int) ∈ L j → f ≤ i → i < f + 2 ^ k → g ≤ i → i < g + 2 ^ j → k = j ∧ f = g
  b : ∀ k, k < 4 → ∀ f : Nat, (f : Int) ∈ L k → ((bud f k : Nat) : Int) ∉ L k
  l : ∀ k, k ≤ 4 → (L k).length ≤ 64
theorem Can.zok {S : Nat → Prop} {L : Nat → List Int} (h : Can S L) {n : Nat} (hn : n ≤ 64) (hS : ∀ i, S i → i < n) (hl : wgt L ≤ 64) : ZOk n L := by
  have hat : ∀ k, k ≤ 4 → ∀ f : Nat, (f : Int) ∈ L k → ∃ q, f = q * 2 ^ k ∧ (q + 1) * 2 ^ k ≤ n ∧ Mx S k q := fun k hk f hf => by
    obtain ⟨q, e, h1, h2⟩ := h.at hS hk hf
    exact ⟨q, by exact_mod_cast e, h1, h2⟩
  have hin : ∀ k q i, q * 2 ^ k ≤ i → i < q * 2 ^ k + 2 ^ k → i / 2 ^ k = q := fun k q i h1 h2 => by
    have : 0 < 2 ^ k := Nat.pow_pos (by decide)
    rw [Nat.div_eq_iff this]
    rw [Nat.mul_comm] at h1 h2
    constructor
    · rw [Nat.mul_comm]; exact h1
    · rw [Nat.mul_comm]; omega
  refine ⟨h.s, fun k hk x hx => ?_, fun k j hk hj f g i hf hg h1 h2 h3 h4 => ?_, fun k hk f hf hb => ?_, fun k hk => ?_⟩
  · obtain ⟨q, rfl, h1, _⟩ := h.at hS hk hx
    refine ⟨_, rfl, ?_⟩
    unfold insV
    rw [Nat.mul_mod_left]
    simp only [Nat.beq, Bool.true_and, Nat.ble_eq]
    rw [Nat.add_mul] at h1; omega
  · obtain ⟨p, rfl, _, hp⟩ := hat k hk f hf
    obtain ⟨q, rfl, _, hq⟩ := hat j hj g hg
    have e1 := hin k p i h1 h2
    have e2 := hin j q i h3 h4
    rcases Nat.le_total k j with hkj | hkj
    · obtain ⟨rfl, rfl⟩ := hp.disj hq hj hkj e1 e2
      exact ⟨rfl, rfl⟩
    · obtain ⟨rfl, rfl⟩ := hq.disj hp hk hkj e2 e1
      exact ⟨rfl, rfl⟩
  · obtain ⟨p, rfl, hp1, hp⟩ := hat k (by omega) f hf
    rw [(bud_sib k hk p (by omega)).1] at hb
    exact hp.bud hk ((h.mem (by omega) _).1 hb)
  · unfold wgt at hl
    have h4 : k = 0 ∨ k = 1 ∨ k = 2 ∨ k = 3 ∨ k = 4 := by omega
    rcases h4 with rfl | rfl | rfl | rfl | rfl <;> omega
theorem bld_zok (n : Nat) (hn : n ≤ 64) (l : List Nat) (hs : l.Pairwise (· < ·)) (hl : ∀ f ∈ l, f < n) : ZOk n (bldF n l) := by
  obtain ⟨h1, h2⟩ := bld_can n hn l (hs.imp (fun h => Nat.ne_of_lt h)) hl
  exact h1.zok hn hl (by rw [h2]; exact Nat.le_trans (low_len n l hs hl) hn)

/-- The 256 cells of what was seen. -/
def bR (p : Nat → Bool) : List (List D) := (List.range 256).map fun i => [.s (.bool (p i))]
theorem bR_get (p : Nat → Bool) (i : Nat) (h : i < 256) : (bR p)[i]? = some [.s (.bool (p i))] := by simp [bR, h]
theorem bR_row (p : Nat → Bool) : ∀ r ∈ bR p, r.length = 1 := fun r hr => by
  obtain ⟨x, _, rfl⟩ := List.mem_map.1 hr
  rfl
theorem bR_set (p : Nat → Bool) (i : Nat) (b : Bool) : (bR p).set i [.s (.bool b)] = bR (fun j => if j = i then b else p j) := by
  unfold bR
  apply List.ext_getElem?
  intro j
  by_cases e : j = i
  · subst e
    by_cases hj : j < 256
    · rw [List.getElem?_set_self (by simpa using hj)]; simp [hj]
    · rw [List.getElem?_eq_none (by simp; omega), List.getElem?_eq_none (by simp; omega)]
  · rw [List.getElem?_set_ne (Ne.symm e)]
    by_cases hj : j < 256
    · simp [hj, e]
    · rw [List.getElem?_eq_none (by simp; omega), List.getElem?_eq_none (by simp; omega)]
set_option maxRecDepth 100000 in
instance : TZc Try.prog 60 256 ((bR (fun _ => false)).flatten.map .d) := tzc_of (List.replicate 256 (.bool false)) (by kernel_rfl) (by rfl) (by rfl) (by rfl)
instance : TAr Try.prog 60 256 4 ((List.range 256).map (fun i => (i, 1))) := ⟨by kernel_rfl, rfl⟩

def czB (n : Nat) (L : Nat → List Int) : Bs := [(0, some (28, (zD n L).map .d))]
def frD (n : Nat) (L : Nat → List Int) : D := .st [.l (il (L 0)), .l (il (L 1)), .l (il (L 2)), .l (il (L 3)), .l (il (L 4))]
/-- First loop: orders; the list of an order. -/
def cz1 (n : Nat) (L : Nat → List Int) (k : Nat) : List (Nat × AV) × Bs := ([(24, .d (.s (.int .i64 (k : Nat)))), (23, .d (frD n L)), (1, .p 0 0), (2, .d (.s (.int .i64 0)))], czB n L)
def cz2 (n : Nat) (L : Nat → List Int) (k i : Nat) : List (Nat × AV) × Bs := ([(30, .d (.s (.int .i64 (i : Nat)))), (29, .d (.s (.int .i64 (L k).length))), (28, .d (.l (il (L k)))), (4, .d (.l (il (L k)))), (3, .d (.s (.int .i64 (k : Nat)))), (24, .d (.s (.int .i64 (k : Nat)))), (23, .d (frD n L)), (1, .p 0 0), (2, .d (.s (.int .i64 0)))], czB n L)
theorem frD_get (n : Nat) (L : Nat → List Int) (k : Nat) (hk : k ≤ 4) : [D.l (il (L 0)), .l (il (L 1)), .l (il (L 2)), .l (il (L 3)), .l (il (L 4))][k]? = some (.l (il (L k))) := by
  have h4 : k = 0 ∨ k = 1 ∨ k = 2 ∨ k = 3 ∨ k = 4 := by omega
  rcases h4 with rfl | rfl | rfl | rfl | rfl <;> rfl
theorem zD_get (n : Nat) (L : Nat → List Int) (k : Nat) (hk : k ≤ 4) : (zD n L)[5 + k]? = some (.l (il (L k))) := by
  have h4 : k = 0 ∨ k = 1 ∨ k = 2 ∨ k = 3 ∨ k = 4 := by omega
  rcases h4 with rfl | rfl | rfl | rfl | rfl <;> rfl
/-- Second loop: what was seen so far. -/
def Cov (L : Nat → List Int) (k : Nat) (j : Nat) : Prop := ∃ k', k' < k ∧ ∃ f : Nat, (f : Int) ∈ L k' ∧ f ≤ j ∧ j < f + 2 ^ k'
def snB (n : Nat) (L : Nat → List Int) (p : Nat → Bool) : Bs := [(0, some (28, (zD n L).map .d)), (1, some (60, (bR p).flatten.map .d))]
def cz3 (n : Nat) (L : Nat → List Int) (z : Nat × (Nat → Bool)) : List (Nat × AV) × Bs := ([(55, .d (.s (.int .i64 (z.1 : Nat)))), (54, .d (frD n L)), (7, .p 1 0), (1, .p 0 0), (2, .d (.s (.int .i64 0)))], snB n L z.2)
def cz4 (n : Nat) (L : Nat → List Int) (k : Nat) (z : Nat × (Nat → Bool)) : List (Nat × AV) × Bs := ([(61, .d (.s (.int .i64 (z.1 : Nat)))), (60, .d (.s (.int .i64 (L k).length))), (59, .d (.l (il (L k)))), (8, .d (.s (.int .i64 (k : Nat)))), (55, .d (.s (.int .i64 (k : Nat)))), (54, .d (frD n L)), (7, .p 1 0), (1, .p 0 0), (2, .d (.s (.int .i64 0)))], snB n L z.2)
def cz5 (n : Nat) (L : Nat → List Int) (k i f : Nat) (z : Nat × (Nat → Bool)) : List (Nat × AV) × Bs := ([(12, .d (.s (.int .i64 (z.1 : Nat)))), (11, .d (.s (.int .i64 (f : Nat)))), (61, .d (.s (.int .i64 (i : Nat)))), (60, .d (.s (.int .i64 (L k).length))), (59, .d (.l (il (L k)))), (8, .d (.s (.int .i64 (k : Nat)))), (55, .d (.s (.int .i64 (k : Nat)))), (54, .d (frD n L)), (7, .p 1 0), (1, .p 0 0), (2, .d (.s (.int .i64 0)))], snB n L z.2)
def cz6 (n : Nat) (L : Nat → List Int) (k : Nat) : List (Nat × AV) × Bs := ([(81, .d (.s (.int .i64 (k : Nat)))), (1, .p 0 0), (2, .d (.s (.int .i64 0)))], czB n L)
def cz7 (n : Nat) (L : Nat → List Int) (k i : Nat) : List (Nat × AV) × Bs := ([(89, .d (.s (.int .i64 (i : Nat)))), (88, .d (.s (.int .i64 (L k).length))), (87, .d (.l (il (L k)))), (13, .d (.s (.int .i64 (k : Nat)))), (81, .d (.s (.int .i64 (k : Nat)))), (1, .p 0 0), (2, .d (.s (.int .i64 0)))], czB n L)
theorem shl_pow (k : Nat) (hk : k ≤ 4) : IntKind.i64.wrap (1 * 2 ^ min ((k : Nat) : Int).toNat IntKind.i64.bits) = ((2 ^ k : Nat) : Int) := by
  have hp : 2 ^ k ≤ 16 := Nat.pow_le_pow_right (by decide) hk
  have hp0 : 0 < 2 ^ k := Nat.pow_pos (by decide)
  rw [Int.toNat_natCast, Nat.min_eq_left (by show k ≤ 64; omega), IntKind.wrap_i64, Int.one_mul]
  have : ((2 ^ k : Nat) : Int) ≤ 16 := by exact_mod_cast hp
  have : (0 : Int) < ((2 ^ k : Nat) : Int) := by exact_mod_cast hp0
  push_cast at *
  omega
theorem zD_getA (n : Nat) (L : Nat → List Int) (k : Nat) (hk : k ≤ 4) : ((zD n L).map AV.d)[5 + k]? = some (.d (.l (il (L k)))) := by rw [List.getElem?_map, zD_get n L k hk]; rfl
attribute [local irreducible] Wp WL WO fin finB rnd Exit.then Exit.inBlock G GD LT Rd Fn FnB FvB Iter
attribute [local go_sem] iD zD frD
set_option maxHeartbeats 4000000 in
theorem check_F (n : Nat) (h1 : 1 ≤ n) (hn : n ≤ 64) (L : Nat → List Int) (hz : ZOk n L) : Fn Try.prog 15 [.st (zD n L)] (· = .s (.int .i64 0)) := by
  have hrg := ranges_F n h1 hn L
  refine Fn.of Try.func15 Try.ntmps15 rfl (by kernel_rfl) (fun w o => ?_)
  (repeat (first | refine G.cW (hrg) ?_ | refine G.cgW (hrg) ?_ | refine GD.cW (hrg) ?_ | refine GD.cgW (hrg) ?_ | ((repeat (revert hK; revert K)); refine wk ?_; repeat intro K hK) | refine wkg ?_))
  refine G.loop (cz1 n L) (fun k => k ≤ 5) (fun k => 5 - k) ?_ ?_
  · exact G.at 0 [(0, 0)] (by decide) (by repeat (first | exact trivial | refine ⟨⟨rfl, rfl⟩, ?_⟩)) (by repeat (first | exact trivial | refine ⟨⟨rfl, rfl, rfl⟩, ?_⟩ | refine ⟨⟨rfl, by rw [renL_d]; rfl, kbL_d _ _⟩, ?_⟩ | refine ⟨rfl, ?_⟩)) (by decide)
  · intro k hk
    by_cases hk5 : k < 5
    · have hel := frD_get n L k (by omega)
      have hlen : ((il (L k)).length : Int) = (L k).length := by rw [il_len]
      have hll := hz.l k (by omega)
      dsimp only [cz1, czB, frD]
      (repeat (first | (show G _ _ _ _ (WL _ _ _ _ (⟨some _, .index _ _ _, _, _, _, none⟩ :: _)); refine G.w1 ?_ (by first | exact LT.rd (Rd.elY k hel) rfl | fail)) | (show G _ _ _ _ (WL _ _ _ _ (⟨some _, .index _ _ _, _, _, _, some _⟩ :: _)); refine G.gC ?_ (by first | (refine gi ?_; intros; exact LT.rd (Rd.elY k hel) rfl) | fail) rfl rfl) | (show GD _ _ _ _ _ _ _ _ _ _ (⟨some _, .index _ _ _, _, _, _, none⟩ :: _); refine GD.w1 ?_ (by first | exact LT.rd (Rd.elY k hel) rfl | fail)) | (show GD _ _ _ _ _ _ _ _ _ _ (⟨some _, .index _ _ _, _, _, _, some _⟩ :: _); refine GD.gC ?_ (by first | (refine gi ?_; intros; exact LT.rd (Rd.elY k hel) rfl) | fail) rfl rfl) | ((repeat (revert hK; revert K)); refine wk ?_; repeat intro K hK) | refine wkg ?_))
      rw [hlen]
      refine G.loop (cz2 n L k) (fun i => i ≤ (L k).length) (fun i => (L k).length - i) ?_ ?_
      · exact G.at 0 [(0, 0)] (Nat.zero_le _) (by repeat (first | exact trivial | refine ⟨⟨rfl, rfl⟩, ?_⟩)) (by repeat (first | exact trivial | refine ⟨⟨rfl, rfl, rfl⟩, ?_⟩ | refine ⟨⟨rfl, by rw [renL_d]; rfl, kbL_d _ _⟩, ?_⟩ | refine ⟨rfl, ?_⟩)) (by decide)
      · intro i hi
        by_cases h : i < (L k).length
        · obtain ⟨f, hf, hfi⟩ := hz.i k (by omega) _ (List.getElem_mem h)
          have hr := il_get (L k) i h
          rw [hf] at hr
          have hfl : f ≤ 300 := by unfold insV at hfi; simp at hfi; omega
          have hin := inside_F n f k hn hfl (by omega) L
          rw [hfi] at hin
          by_cases h0 : i = 0
          · subst h0
            dsimp only [cz2, czB, frD]
            (repeat (first | refine G.cW (hin) ?_ | refine G.cgW (hin) ?_ | refine GD.cW (hin) ?_ | refine GD.cgW (hin) ?_ | (show G _ _ _ _ (WL _ _ _ _ (⟨some _, .indexAddr _ _ _, _, _, _, none⟩ :: _)); refine G.w1 ?_ (by first | exact LT.rd (Rd.ixv 0 (hr)) rfl | fail)) | (show G _ _ _ _ (WL _ _ _ _ (⟨some _, .indexAddr _ _ _, _, _, _, some _⟩ :: _)); refine G.gC ?_ (by first | (refine gi ?_; intros; exact LT.rd (Rd.ixv 0 (hr)) rfl) | fail) rfl rfl) | (show GD _ _ _ _ _ _ _ _ _ _ (⟨some _, .indexAddr _ _ _, _, _, _, none⟩ :: _); refine GD.w1 ?_ (by first | exact LT.rd (Rd.ixv 0 (hr)) rfl | fail)) | (show GD _ _ _ _ _ _ _ _ _ _ (⟨some _, .indexAddr _ _ _, _, _, _, some _⟩ :: _); refine GD.gC ?_ (by first | (refine gi ?_; intros; exact LT.rd (Rd.ixv 0 (hr)) rfl) | fail) rfl rfl) | ((repeat (revert hK; revert K)); refine wk ?_; repeat intro K hK) | refine wkg ?_))
            exact G.at 1 [(0, 0)] ⟨by omega, by omega⟩ (by repeat (first | exact trivial | refine ⟨⟨rfl, rfl⟩, ?_⟩)) (by repeat (first | exact trivial | refine ⟨⟨rfl, rfl, rfl⟩, ?_⟩ | refine ⟨⟨rfl, by rw [renL_d]; rfl, kbL_d _ _⟩, ?_⟩ | refine ⟨rfl, ?_⟩)) (by decide)
          · obtain ⟨g, hg, hgi⟩ := hz.i k (by omega) _ (List.getElem_mem (show i - 1 < (L k).length by omega))
            have hr1 := il_get (L k) (i - 1) (by omega)
            have hlt := List.pairwise_iff_getElem.1 (hz.s k (by omega)) (i - 1) i (by omega) h (by omega)
            rw [hf, hg] at hlt
            rw [hg] at hr1
            have hb : decide ((0 : Int) < (i : Int)) = true := by simp; omega
            dsimp only [cz2, czB, frD]
            (repeat (first | refine G.cW (hin) ?_ | refine G.cgW (hin) ?_ | refine GD.cW (hin) ?_ | refine GD.cgW (hin) ?_ | (show G _ _ _ _ (WL _ _ _ _ (⟨some _, .indexAddr _ _ _, _, _, _, none⟩ :: _)); refine G.w1 ?_ (by first | exact LT.rd (Rd.ixv i (hr)) rfl | fail)) | (show G _ _ _ _ (WL _ _ _ _ (⟨some _, .indexAddr _ _ _, _, _, _, some _⟩ :: _)); refine G.gC ?_ (by first | (refine gi ?_; intros; exact LT.rd (Rd.ixv i (hr)) rfl) | fail) rfl rfl) | (show GD _ _ _ _ _ _ _ _ _ _ (⟨some _, .indexAddr _ _ _, _, _, _, none⟩ :: _); refine GD.w1 ?_ (by first | exact LT.rd (Rd.ixv i (hr)) rfl | fail)) | (show GD _ _ _ _ _ _ _ _ _ _ (⟨some _, .indexAddr _ _ _, _, _, _, some _⟩ :: _); refine GD.gC ?_ (by first | (refine gi ?_; intros; exact LT.rd (Rd.ixv i (hr)) rfl) | fail) rfl rfl) | (show G _ _ _ _ (WL _ _ _ _ (⟨some _, .indexAddr _ _ _, _, _, _, none⟩ :: _)); refine G.w1 ?_ (by first | exact LT.rd (Rd.ixv (i - 1) (hr1)) rfl | fail)) | (show G _ _ _ _ (WL _ _ _ _ (⟨some _, .indexAddr _ _ _, _, _, _, some _⟩ :: _)); refine G.gC ?_ (by first | (refine gi ?_; intros; exact LT.rd (Rd.ixv (i - 1) (hr1)) rfl) | fail) rfl rfl) | (show GD _ _ _ _ _ _ _ _ _ _ (⟨some _, .indexAddr _ _ _, _, _, _, none⟩ :: _); refine GD.w1 ?_ (by first | exact LT.rd (Rd.ixv (i - 1) (hr1)) rfl | fail)) | (show GD _ _ _ _ _ _ _ _ _ _ (⟨some _, .indexAddr _ _ _, _, _, _, some _⟩ :: _); refine GD.gC ?_ (by first | (refine gi ?_; intros; exact LT.rd (Rd.ixv (i - 1) (hr1)) rfl) | fail) rfl rfl) | ((repeat (revert hK; revert K)); refine wk ?_; repeat intro K hK) | refine wkg ?_))
            exact G.at (i + 1) [(0, 0)] ⟨by omega, by omega⟩ (by repeat (first | exact trivial | refine ⟨⟨rfl, rfl⟩, ?_⟩)) (by repeat (first | exact trivial | refine ⟨⟨rfl, rfl, rfl⟩, ?_⟩ | refine ⟨⟨rfl, by rw [renL_d]; rfl, kbL_d _ _⟩, ?_⟩ | refine ⟨rfl, ?_⟩)) (by decide)
        · have e : i = (L k).length := by omega
          subst e
          dsimp only [cz2, czB, frD]
          (repeat (first | ((repeat (revert hK; revert K)); refine wk ?_; repeat intro K hK) | refine wkg ?_))
          exact G.at (k + 1) [(0, 0)] ⟨by omega, by omega⟩ (by repeat (first | exact trivial | refine ⟨⟨rfl, rfl⟩, ?_⟩)) (by repeat (first | exact trivial | refine ⟨⟨rfl, rfl, rfl⟩, ?_⟩ | refine ⟨⟨rfl, by rw [renL_d]; rfl, kbL_d _ _⟩, ?_⟩ | refine ⟨rfl, ?_⟩)) (by decide)
    · have e : k = 5 := by omega
      subst e
      dsimp only [cz1, czB, frD]
      (repeat (first | ((repeat (revert hK; revert K)); refine wk ?_; repeat intro K hK) | refine wkg ?_))
      refine G.loop (cz3 n L) (fun z => z.1 ≤ 5 ∧ ∀ j, z.2 j = true → Cov L z.1 j) (fun z => 5 - z.1) ?_ ?_
      · exact G.at (0, fun _ => false) [(0, 0), (1, 1)] ⟨by decide, fun j hj => by cases hj⟩ (by repeat (first | exact trivial | refine ⟨⟨rfl, rfl⟩, ?_⟩)) (by repeat (first | exact trivial | refine ⟨⟨rfl, by rw [renL_d]; rfl, kbL_d _ _⟩, ?_⟩ | refine ⟨⟨rfl, rfl, rfl⟩, ?_⟩ | refine ⟨rfl, ?_⟩)) (by decide)
      · rintro ⟨k, p⟩ ⟨hk, hp⟩
        dsimp only at hk hp
        by_cases hk5 : k < 5
        · have hel := frD_get n L k (by omega)
          have hlen : ((il (L k)).length : Int) = (L k).length := by rw [il_len]
          have hll := hz.l k (by omega)
          have hp2 : 2 ^ k ≤ 16 := Nat.pow_le_pow_right (by decide) (show k ≤ 4 by omega)
          have hsh := shl_pow k (by omega)
          have hk0 : (0 : Int) ≤ (k : Int) := Int.natCast_nonneg _
          dsimp only [cz3, snB, frD]
          (repeat (first | (show G _ _ _ _ (WL _ _ _ _ (⟨some _, .index _ _ _, _, _, _, none⟩ :: _)); refine G.w1 ?_ (by first | exact LT.rd (Rd.elY k hel) rfl | fail)) | (show G _ _ _ _ (WL _ _ _ _ (⟨some _, .index _ _ _, _, _, _, some _⟩ :: _)); refine G.gC ?_ (by first | (refine gi ?_; intros; exact LT.rd (Rd.elY k hel) rfl) | fail) rfl rfl) | (show GD _ _ _ _ _ _ _ _ _ _ (⟨some _, .index _ _ _, _, _, _, none⟩ :: _); refine GD.w1 ?_ (by first | exact LT.rd (Rd.elY k hel) rfl | fail)) | (show GD _ _ _ _ _ _ _ _ _ _ (⟨some _, .index _ _ _, _, _, _, some _⟩ :: _); refine GD.gC ?_ (by first | (refine gi ?_; intros; exact LT.rd (Rd.elY k hel) rfl) | fail) rfl rfl) | ((repeat (revert hK; revert K)); refine wk ?_; repeat intro K hK) | refine wkg ?_))
          rw [hlen]
          refine G.loop (cz4 n L k) (fun z => z.1 ≤ (L k).length ∧ ∀ j, z.2 j = true → Cov L k j ∨ ∃ f : Nat, (f : Int) ∈ (L k).take z.1 ∧ f ≤ j ∧ j < f + 2 ^ k) (fun z => (L k).length - z.1) ?_ ?_
          · exact G.at (0, p) [(0, 0), (1, 1)] ⟨Nat.zero_le _, fun j hj => .inl (hp j hj)⟩ (by repeat (first | exact trivial | refine ⟨⟨rfl, rfl⟩, ?_⟩)) (by repeat (first | exact trivial | refine ⟨⟨rfl, by rw [renL_d]; rfl, kbL_d _ _⟩, ?_⟩ | refine ⟨⟨rfl, rfl, rfl⟩, ?_⟩ | refine ⟨rfl, ?_⟩)) (by decide)
          · rintro ⟨i, p⟩ ⟨hi, hp⟩
            dsimp only at hi hp
            by_cases h : i < (L k).length
            · obtain ⟨f, hf, hfi⟩ := hz.i k (by omega) _ (List.getElem_mem h)
              have hfm : (f : Int) ∈ L k := by rw [← hf]; exact List.getElem_mem h
              have hr := il_get (L k) i h
              rw [hf] at hr
              have hfn : f + 2 ^ k ≤ n := by unfold insV at hfi; simp at hfi; exact hfi.2
              have hft : (f : Int) ∈ (L k).take (i + 1) := by rw [List.take_succ_eq_append_getElem h, hf]; simp
              have hfu : ∀ g : Nat, (g : Int) ∈ (L k).take i → g < f := fun g hg => by
                obtain ⟨a, ha, e⟩ := List.mem_take_iff_getElem.1 hg
                have := List.pairwise_iff_getElem.1 (hz.s k (by omega)) a i (by omega) h (by omega)
                rw [e, hf] at this
                exact_mod_cast this
              dsimp only [cz4, snB, frD]
              (repeat (first | (show G _ _ _ _ (WL _ _ _ _ (⟨some _, .indexAddr _ _ _, _, _, _, none⟩ :: _)); refine G.w1 ?_ (by first | exact LT.rd (Rd.ixv i (hr)) rfl | fail)) | (show G _ _ _ _ (WL _ _ _ _ (⟨some _, .indexAddr _ _ _, _, _, _, some _⟩ :: _)); refine G.gC ?_ (by first | (refine gi ?_; intros; exact LT.rd (Rd.ixv i (hr)) rfl) | fail) rfl rfl) | (show GD _ _ _ _ _ _ _ _ _ _ (⟨some _, .indexAddr _ _ _, _, _, _, none⟩ :: _); refine GD.w1 ?_ (by first | exact LT.rd (Rd.ixv i (hr)) rfl | fail)) | (show GD _ _ _ _ _ _ _ _ _ _ (⟨some _, .indexAddr _ _ _, _, _, _, some _⟩ :: _); refine GD.gC ?_ (by first | (refine gi ?_; intros; exact LT.rd (Rd.ixv i (hr)) rfl) | fail) rfl rfl) | ((repeat (revert hK; revert K)); refine wk ?_; repeat intro K hK) | refine wkg ?_))
              refine G.loop (cz5 n L k i f) (fun z => f ≤ z.1 ∧ z.1 ≤ f + 2 ^ k ∧ ∀ j, z.2 j = true → (Cov L k j ∨ ∃ g : Nat, (g : Int) ∈ (L k).take i ∧ g ≤ j ∧ j < g + 2 ^ k) ∨ (f ≤ j ∧ j < z.1)) (fun z => f + 2 ^ k - z.1) ?_ ?_
              · exact G.at (f, p) [(0, 0), (1, 1)] ⟨Nat.le_refl _, Nat.le_add_right _ _, fun j hj => .inl (hp j hj)⟩ (by repeat (first | exact trivial | refine ⟨⟨rfl, rfl⟩, ?_⟩)) (by repeat (first | exact trivial | refine ⟨⟨rfl, by rw [renL_d]; rfl, kbL_d _ _⟩, ?_⟩ | refine ⟨⟨rfl, rfl, rfl⟩, ?_⟩ | refine ⟨rfl, ?_⟩)) (by decide)
              · rintro ⟨t, p⟩ ⟨ht1, ht2, hp⟩
                dsimp only at ht1 ht2 hp
                by_cases htl : t < f + 2 ^ k
                · have hpt : p t = false := by
                    cases e : p t with
                    | false => rfl
                    | true =>
                      exfalso
                      rcases hp t e with (⟨k', g1, g, g2, g3, g4⟩ | ⟨g, g2, g3, g4⟩) | ⟨g1, g2⟩
                      · have := (hz.d k' k (by omega) (by omega) g f t g2 hfm g3 g4 ht1 htl).1
                        omega
                      · have := (hz.d k k (by omega) (by omega) g f t (List.mem_of_mem_take g2) hfm g3 g4 ht1 htl).2
                        have := hfu g g2
                        omega
                      · omega
                  have ht256 : t < 256 := by omega
                  have hjt : t < (bR p).length := by unfold bR; simpa using ht256
                  have hrt := bR_get p t ht256
                  rw [hpt] at hrt
                  have hset := bR_set p t true
                  have hlt : decide ((t : Int) < (f : Int) + ((2 ^ k : Nat) : Int)) = true := by simp; exact_mod_cast htl
                  dsimp only [cz5, snB, frD]
                  (repeat (first | (show G _ _ _ _ (WL _ _ _ _ (⟨some _, .binOp .shl _ _ _ _, _, _, _, none⟩ :: _)); refine G.w1 ?_ (by first | exact LT.shl ((2 ^ k : Nat) : Int) | fail)) | (show G _ _ _ _ (WL _ _ _ _ (⟨some _, .binOp .shl _ _ _ _, _, _, _, some _⟩ :: _)); refine G.gC ?_ (by first | (refine gi ?_; intros; exact LT.shl ((2 ^ k : Nat) : Int)) | fail) rfl rfl) | (show GD _ _ _ _ _ _ _ _ _ _ (⟨some _, .binOp .shl _ _ _ _, _, _, _, none⟩ :: _); refine GD.w1 ?_ (by first | exact LT.shl ((2 ^ k : Nat) : Int) | fail)) | (show GD _ _ _ _ _ _ _ _ _ _ (⟨some _, .binOp .shl _ _ _ _, _, _, _, some _⟩ :: _); refine GD.gC ?_ (by first | (refine gi ?_; intros; exact LT.shl ((2 ^ k : Nat) : Int)) | fail) rfl rfl) | (show G _ _ _ _ (WL _ _ _ _ (⟨some _, .indexAddr _ _ _, _, _, _, none⟩ :: _)); refine G.w1 ?_ (by first | exact LT.rd (Rd.ixY t) rfl | fail)) | (show G _ _ _ _ (WL _ _ _ _ (⟨some _, .indexAddr _ _ _, _, _, _, some _⟩ :: _)); refine G.gC ?_ (by first | (refine gi ?_; intros; exact LT.rd (Rd.ixY t) rfl) | fail) rfl rfl) | (show GD _ _ _ _ _ _ _ _ _ _ (⟨some _, .indexAddr _ _ _, _, _, _, none⟩ :: _); refine GD.w1 ?_ (by first | exact LT.rd (Rd.ixY t) rfl | fail)) | (show GD _ _ _ _ _ _ _ _ _ _ (⟨some _, .indexAddr _ _ _, _, _, _, some _⟩ :: _); refine GD.gC ?_ (by first | (refine gi ?_; intros; exact LT.rd (Rd.ixY t) rfl) | fail) rfl rfl) | (show G _ _ _ _ (WL _ _ _ _ (⟨some _, .load _ _, _, _, _, none⟩ :: _)); refine G.w1 ?_ (by first | exact LT.rd (Rd.ldF t 0 (hrt) ((bR_row p))) rfl | fail)) | (show G _ _ _ _ (WL _ _ _ _ (⟨some _, .load _ _, _, _, _, some _⟩ :: _)); refine G.gC ?_ (by first | (refine gi ?_; intros; exact LT.rd (Rd.ldF t 0 (hrt) ((bR_row p))) rfl) | fail) rfl rfl) | (show GD _ _ _ _ _ _ _ _ _ _ (⟨some _, .load _ _, _, _, _, none⟩ :: _); refine GD.w1 ?_ (by first | exact LT.rd (Rd.ldF t 0 (hrt) ((bR_row p))) rfl | fail)) | (show GD _ _ _ _ _ _ _ _ _ _ (⟨some _, .load _ _, _, _, _, some _⟩ :: _); refine GD.gC ?_ (by first | (refine gi ?_; intros; exact LT.rd (Rd.ldF t 0 (hrt) ((bR_row p))) rfl) | fail) rfl rfl) | (show G _ _ _ _ (WL _ _ _ _ (⟨none, .store _ _ _, _, _, _, none⟩ :: _)); refine G.w0 ?_ (by first | exact LT.stF t 0 (hrt) ((bR_row p)) | fail)) | (show GD _ _ _ _ _ _ _ _ _ _ (⟨none, .store _ _ _, _, _, _, none⟩ :: _); refine GD.w0 ?_ (by first | exact LT.stF t 0 (hrt) ((bR_row p)) | fail)) | ((repeat (revert hK; revert K)); refine wk ?_; repeat intro K hK) | refine wkg ?_))
                  rw [show [D.s (Value.bool false)].set 0 (D.s (Value.bool true)) = [D.s (Value.bool true)] from rfl, hset]
                  refine G.at (t + 1, fun j => if j = t then true else p j) [(0, 0), (1, 1)] ⟨⟨by dsimp only; omega, by dsimp only; omega, fun j hj => ?_⟩, by dsimp only; omega⟩ (by repeat (first | exact trivial | refine ⟨⟨rfl, rfl⟩, ?_⟩)) (by repeat (first | exact trivial | refine ⟨⟨rfl, by rw [renL_d]; rfl, kbL_d _ _⟩, ?_⟩ | refine ⟨⟨rfl, rfl, rfl⟩, ?_⟩ | refine ⟨rfl, ?_⟩)) (by decide)
                  dsimp only at hj ⊢
                  by_cases e : j = t
                  · right; omega
                  · rw [if_neg e] at hj
                    rcases hp j hj with h | h
                    · exact .inl h
                    · right; omega
                · have e : t = f + 2 ^ k := by omega
                  subst e
                  have hlt : decide (((f + 2 ^ k : Nat) : Int) < (f : Int) + ((2 ^ k : Nat) : Int)) = false := by simp
                  dsimp only [cz5, snB, frD]
                  (repeat (first | (show G _ _ _ _ (WL _ _ _ _ (⟨some _, .binOp .shl _ _ _ _, _, _, _, none⟩ :: _)); refine G.w1 ?_ (by first | exact LT.shl ((2 ^ k : Nat) : Int) | fail)) | (show G _ _ _ _ (WL _ _ _ _ (⟨some _, .binOp .shl _ _ _ _, _, _, _, some _⟩ :: _)); refine G.gC ?_ (by first | (refine gi ?_; intros; exact LT.shl ((2 ^ k : Nat) : Int)) | fail) rfl rfl) | (show GD _ _ _ _ _ _ _ _ _ _ (⟨some _, .binOp .shl _ _ _ _, _, _, _, none⟩ :: _); refine GD.w1 ?_ (by first | exact LT.shl ((2 ^ k : Nat) : Int) | fail)) | (show GD _ _ _ _ _ _ _ _ _ _ (⟨some _, .binOp .shl _ _ _ _, _, _, _, some _⟩ :: _); refine GD.gC ?_ (by first | (refine gi ?_; intros; exact LT.shl ((2 ^ k : Nat) : Int)) | fail) rfl rfl) | ((repeat (revert hK; revert K)); refine wk ?_; repeat intro K hK) | refine wkg ?_))
                  refine G.at (i + 1, p) [(0, 0), (1, 1)] ⟨⟨by dsimp only; omega, fun j hj => ?_⟩, by dsimp only; omega⟩ (by repeat (first | exact trivial | refine ⟨⟨rfl, rfl⟩, ?_⟩)) (by repeat (first | exact trivial | refine ⟨⟨rfl, by rw [renL_d]; rfl, kbL_d _ _⟩, ?_⟩ | refine ⟨⟨rfl, rfl, rfl⟩, ?_⟩ | refine ⟨rfl, ?_⟩)) (by decide)
                  dsimp only at hj ⊢
                  rcases hp j hj with (h | ⟨g, g2, g3⟩) | h
                  · exact .inl h
                  · exact .inr ⟨g, List.take_subset_take_left _ (Nat.le_succ _) g2, g3⟩
                  · exact .inr ⟨f, hft, h⟩
            · have e : i = (L k).length := by omega
              subst e
              rw [List.take_length] at hp
              dsimp only [cz4, snB, frD]
              (repeat (first | ((repeat (revert hK; revert K)); refine wk ?_; repeat intro K hK) | refine wkg ?_))
              refine G.at (k + 1, p) [(0, 0), (1, 1)] ⟨⟨by dsimp only; omega, fun j hj => ?_⟩, by dsimp only; omega⟩ (by repeat (first | exact trivial | refine ⟨⟨rfl, rfl⟩, ?_⟩)) (by repeat (first | exact trivial | refine ⟨⟨rfl, by rw [renL_d]; rfl, kbL_d _ _⟩, ?_⟩ | refine ⟨⟨rfl, rfl, rfl⟩, ?_⟩ | refine ⟨rfl, ?_⟩)) (by decide)
              rcases hp j hj with ⟨k', g1, g2⟩ | h
              · exact ⟨k', by dsimp only; omega, g2⟩
              · exact ⟨k, by dsimp only; omega, h⟩
        · have e : k = 5 := by omega
          subst e
          dsimp only [cz3, snB, frD]
          (repeat (first | ((repeat (revert hK; revert K)); refine wk ?_; repeat intro K hK) | refine wkg ?_))
          refine G.loop (cz6 n L) (fun k => k ≤ 4) (fun k => 4 - k) ?_ ?_
          · exact G.at 0 [(0, 0)] (by decide) (by repeat (first | exact trivial | refine ⟨⟨rfl, rfl⟩, ?_⟩)) (by repeat (first | exact trivial | refine ⟨⟨rfl, rfl, rfl⟩, ?_⟩ | refine ⟨⟨rfl, by rw [renL_d]; rfl, kbL_d _ _⟩, ?_⟩ | refine ⟨rfl, ?_⟩)) (by decide)
          · intro k hk
            by_cases hk4 : k < 4
            · have hgt := zD_getA n L k (by omega)
              have hlen : ((il (L k)).length : Int) = (L k).length := by rw [il_len]
              have hll := hz.l k (by omega)
              have hsh := shl_pow k (by omega)
              have hk0 : (0 : Int) ≤ (k : Int) := Int.natCast_nonneg _
              dsimp only [cz6, czB]
              (repeat (first | (show G _ _ _ _ (WL _ _ _ _ (⟨some _, .indexAddr _ _ _, _, _, _, none⟩ :: _)); refine G.w1 ?_ (by first | exact LT.rd (Rd.ixY k) rfl | fail)) | (show G _ _ _ _ (WL _ _ _ _ (⟨some _, .indexAddr _ _ _, _, _, _, some _⟩ :: _)); refine G.gC ?_ (by first | (refine gi ?_; intros; exact LT.rd (Rd.ixY k) rfl) | fail) rfl rfl) | (show GD _ _ _ _ _ _ _ _ _ _ (⟨some _, .indexAddr _ _ _, _, _, _, none⟩ :: _); refine GD.w1 ?_ (by first | exact LT.rd (Rd.ixY k) rfl | fail)) | (show GD _ _ _ _ _ _ _ _ _ _ (⟨some _, .indexAddr _ _ _, _, _, _, some _⟩ :: _); refine GD.gC ?_ (by first | (refine gi ?_; intros; exact LT.rd (Rd.ixY k) rfl) | fail) rfl rfl) | (show G _ _ _ _ (WL _ _ _ _ (⟨some _, .load _ _, _, _, _, none⟩ :: _)); refine G.w1 ?_ (by first | exact LT.rd (Rd.ldp (hc := hgt)) rfl | fail)) | (show G _ _ _ _ (WL _ _ _ _ (⟨some _, .load _ _, _, _, _, some _⟩ :: _)); refine G.gC ?_ (by first | (refine gi ?_; intros; exact LT.rd (Rd.ldp (hc := hgt)) rfl) | fail) rfl rfl) | (show GD _ _ _ _ _ _ _ _ _ _ (⟨some _, .load _ _, _, _, _, none⟩ :: _); refine GD.w1 ?_ (by first | exact LT.rd (Rd.ldp (hc := hgt)) rfl | fail)) | (show GD _ _ _ _ _ _ _ _ _ _ (⟨some _, .load _ _, _, _, _, some _⟩ :: _); refine GD.gC ?_ (by first | (refine gi ?_; intros; exact LT.rd (Rd.ldp (hc := hgt)) rfl) | fail) rfl rfl) | ((repeat (revert hK; revert K)); refine wk ?_; repeat intro K hK) | refine wkg ?_))
              rw [hlen]
              refine G.loop (cz7 n L k) (fun i => i ≤ (L k).length) (fun i => (L k).length - i) ?_ ?_
              · exact G.at 0 [(0, 0)] (Nat.zero_le _) (by repeat (first | exact trivial | refine ⟨⟨rfl, rfl⟩, ?_⟩)) (by repeat (first | exact trivial | refine ⟨⟨rfl, rfl, rfl⟩, ?_⟩ | refine ⟨⟨rfl, by rw [renL_d]; rfl, kbL_d _ _⟩, ?_⟩ | refine ⟨rfl, ?_⟩)) (by decide)
              · intro i hi
                by_cases h : i < (L k).length
                · obtain ⟨f, hf, hfi⟩ := hz.i k (by omega) _ (List.getElem_mem h)
                  have hfm : (f : Int) ∈ L k := by rw [← hf]; exact List.getElem_mem h
                  have hr := il_get (L k) i h
                  rw [hf] at hr
                  have hfn : f + 2 ^ k ≤ n := by unfold insV at hfi; simp at hfi; exact hfi.2
                  have hpk : 0 < 2 ^ k := Nat.pow_pos (by decide)
                  have hb := bits_bud f k (by omega) (by omega)
                  have hbs := bs_F (L k) (bud f k : Nat) (by omega) (hz.s k (by omega))
                  rw [decide_eq_false (hz.b k hk4 f hfm)] at hbs
                  dsimp only [cz7, czB]
                  (repeat (first | refine GD.ctW (hbs) ?_ | refine G.cW (hbs) ?_ | refine G.cgW (hbs) ?_ | refine GD.cW (hbs) ?_ | refine GD.cgW (hbs) ?_ | (show G _ _ _ _ (WL _ _ _ _ (⟨some _, .binOp .shl _ _ _ _, _, _, _, none⟩ :: _)); refine G.w1 ?_ (by first | exact LT.shl ((2 ^ k : Nat) : Int) | fail)) | (show G _ _ _ _ (WL _ _ _ _ (⟨some _, .binOp .shl _ _ _ _, _, _, _, some _⟩ :: _)); refine G.gC ?_ (by first | (refine gi ?_; intros; exact LT.shl ((2 ^ k : Nat) : Int)) | fail) rfl rfl) | (show GD _ _ _ _ _ _ _ _ _ _ (⟨some _, .binOp .shl _ _ _ _, _, _, _, none⟩ :: _); refine GD.w1 ?_ (by first | exact LT.shl ((2 ^ k : Nat) : Int) | fail)) | (show GD _ _ _ _ _ _ _ _ _ _ (⟨some _, .binOp .shl _ _ _ _, _, _, _, some _⟩ :: _); refine GD.gC ?_ (by first | (refine gi ?_; intros; exact LT.shl ((2 ^ k : Nat) : Int)) | fail) rfl rfl) | (show G _ _ _ _ (WL _ _ _ _ (⟨some _, .binOp .xor _ _ _ _, _, _, _, none⟩ :: _)); refine G.w1 ?_ (by first | exact LT.xor ((bud f k : Nat) : Int) | fail)) | (show G _ _ _ _ (WL _ _ _ _ (⟨some _, .binOp .xor _ _ _ _, _, _, _, some _⟩ :: _)); refine G.gC ?_ (by first | (refine gi ?_; intros; exact LT.xor ((bud f k : Nat) : Int)) | fail) rfl rfl) | (show GD _ _ _ _ _ _ _ _ _ _ (⟨some _, .binOp .xor _ _ _ _, _, _, _, none⟩ :: _); refine GD.w1 ?_ (by first | exact LT.xor ((bud f k : Nat) : Int) | fail)) | (show GD _ _ _ _ _ _ _ _ _ _ (⟨some _, .binOp .xor _ _ _ _, _, _, _, some _⟩ :: _); refine GD.gC ?_ (by first | (refine gi ?_; intros; exact LT.xor ((bud f k : Nat) : Int)) | fail) rfl rfl) | (show G _ _ _ _ (WL _ _ _ _ (⟨some _, .indexAddr _ _ _, _, _, _, none⟩ :: _)); refine G.w1 ?_ (by first | exact LT.rd (Rd.ixY k) rfl | fail)) | (show G _ _ _ _ (WL _ _ _ _ (⟨some _, .indexAddr _ _ _, _, _, _, some _⟩ :: _)); refine G.gC ?_ (by first | (refine gi ?_; intros; exact LT.rd (Rd.ixY k) rfl) | fail) rfl rfl) | (show GD _ _ _ _ _ _ _ _ _ _ (⟨some _, .indexAddr _ _ _, _, _, _, none⟩ :: _); refine GD.w1 ?_ (by first | exact LT.rd (Rd.ixY k) rfl | fail)) | (show GD _ _ _ _ _ _ _ _ _ _ (⟨some _, .indexAddr _ _ _, _, _, _, some _⟩ :: _); refine GD.gC ?_ (by first | (refine gi ?_; intros; exact LT.rd (Rd.ixY k) rfl) | fail) rfl rfl) | (show G _ _ _ _ (WL _ _ _ _ (⟨some _, .load _ _, _, _, _, none⟩ :: _)); refine G.w1 ?_ (by first | exact LT.rd (Rd.ldp (hc := hgt)) rfl | fail)) | (show G _ _ _ _ (WL _ _ _ _ (⟨some _, .load _ _, _, _, _, some _⟩ :: _)); refine G.gC ?_ (by first | (refine gi ?_; intros; exact LT.rd (Rd.ldp (hc := hgt)) rfl) | fail) rfl rfl) | (show GD _ _ _ _ _ _ _ _ _ _ (⟨some _, .load _ _, _, _, _, none⟩ :: _); refine GD.w1 ?_ (by first | exact LT.rd (Rd.ldp (hc := hgt)) rfl | fail)) | (show GD _ _ _ _ _ _ _ _ _ _ (⟨some _, .load _ _, _, _, _, some _⟩ :: _); refine GD.gC ?_ (by first | (refine gi ?_; intros; exact LT.rd (Rd.ldp (hc := hgt)) rfl) | fail) rfl rfl) | (show G _ _ _ _ (WL _ _ _ _ (⟨some _, .indexAddr _ _ _, _, _, _, none⟩ :: _)); refine G.w1 ?_ (by first | exact LT.rd (Rd.ixv i (hr)) rfl | fail)) | (show G _ _ _ _ (WL _ _ _ _ (⟨some _, .indexAddr _ _ _, _, _, _, some _⟩ :: _)); refine G.gC ?_ (by first | (refine gi ?_; intros; exact LT.rd (Rd.ixv i (hr)) rfl) | fail) rfl rfl) | (show GD _ _ _ _ _ _ _ _ _ _ (⟨some _, .indexAddr _ _ _, _, _, _, none⟩ :: _); refine GD.w1 ?_ (by first | exact LT.rd (Rd.ixv i (hr)) rfl | fail)) | (show GD _ _ _ _ _ _ _ _ _ _ (⟨some _, .indexAddr _ _ _, _, _, _, some _⟩ :: _); refine GD.gC ?_ (by first | (refine gi ?_; intros; exact LT.rd (Rd.ixv i (hr)) rfl) | fail) rfl rfl) | ((repeat (revert hK; revert K)); refine wkG ?_; repeat intro K hK) | refine wkg ?_))
                  exact G.at (i + 1) [(0, 0)] ⟨by omega, by omega⟩ (by repeat (first | exact trivial | refine ⟨⟨rfl, rfl⟩, ?_⟩)) (by repeat (first | exact trivial | refine ⟨⟨rfl, rfl, rfl⟩, ?_⟩ | refine ⟨⟨rfl, by rw [renL_d]; rfl, kbL_d _ _⟩, ?_⟩ | refine ⟨rfl, ?_⟩)) (by decide)
                · have e : i = (L k).length := by omega
                  subst e
                  dsimp only [cz7, czB]
                  (repeat (first | ((repeat (revert hK; revert K)); refine wk ?_; repeat intro K hK) | refine wkg ?_))
                  exact G.at (k + 1) [(0, 0)] ⟨by omega, by omega⟩ (by repeat (first | exact trivial | refine ⟨⟨rfl, rfl⟩, ?_⟩)) (by repeat (first | exact trivial | refine ⟨⟨rfl, rfl, rfl⟩, ?_⟩ | refine ⟨⟨rfl, by rw [renL_d]; rfl, kbL_d _ _⟩, ?_⟩ | refine ⟨rfl, ?_⟩)) (by decide)
            · have e : k = 4 := by omega
              subst e
              dsimp only [cz6, czB]
              (repeat (first | ((repeat (revert hK; revert K)); refine wk ?_; repeat intro K hK) | refine wkg ?_))
              refine G.fin1 (by first | exact rvOk.tmp | exact rvOk.cellS | exact rvOk.cell1 | fail) rfl ?_
              rfl

end Go.Proofs.Ytohpbfcechbngaa
