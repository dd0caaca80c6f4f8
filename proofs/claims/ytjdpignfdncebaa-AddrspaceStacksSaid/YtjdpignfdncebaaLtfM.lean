/- The law AddrspaceStacks as a contract. -/
import Derived.Test.YtjdpignfdncebaaVtM
import Derived.Test.YtjdpignfdncebaaVbM
set_option linter.unusedSimpArgs false
set_option linter.unusedVariables false
namespace Go.Proofs.Ytjdpignfdncebaa
open Go.RowKit

/-- What growing at g the region x does. -/
structure GrowOK (l : List RV) (g : Int) (m : List RV) (x : RV) : Prop where
  g0 : 0 ≤ g
  gx : g < x.s
  xs : x.s + 1 ≤ 512
  fl : (grV x g).f / 2 % 2 = 1
  fb : 0 ≤ (grV x g).f ∧ (grV x g).f ≤ 15
  len : m.length = l.length
  fg : findV m g = (grV x g, true)
  s1 : ∀ q, g ≤ q → q < x.s → (findV l q).2 = false ∧ seenV m q = seenV m g
  s2 : ∀ q, q < g ∨ x.s ≤ q → seenV m q = seenV l q
  s3 : (findV l x.s).2 = true
  s4 : (findV m (g - 1)).2 = false
theorem grow_facts {p : PT} (hp : ASP p) {g : Int} (h : (growT p g).2 = 0) : ∃ x, GrowOK p.flat g (growT p g).1.flat x := by
  unfold growT at h ⊢
  by_cases h1 : g < 0 ∨ 512 ≤ g
  · rw [if_pos h1] at h; cases h
  · rw [if_neg h1] at h ⊢
    by_cases h2 : (nextV p.flat g).2 = true ∧ (nextV p.flat g).1.s ≤ g
    · rw [if_pos h2] at h; cases h
    · rw [if_neg h2] at h ⊢
      by_cases h3 : (nextV p.flat g).2 = false ∨ bits .and .i64 (nextV p.flat g).1.f 2 = 0 ∨ (findV p.flat (g - 1)).2 = true
      · rw [if_pos h3] at h; cases h
      · rw [if_neg h3] at h ⊢
        have hq : (nextV p.flat g).2 = true := by cases hq : (nextV p.flat g).2 with | true => rfl | false => exact absurd (.inl hq) h3
        have hgx : g < (nextV p.flat g).1.s := by have : ¬ (nextV p.flat g).1.s ≤ g := fun e => h2 ⟨hq, e⟩; omega
        have hfl : bits .and .i64 (nextV p.flat g).1.f 2 ≠ 0 := fun e => h3 (.inr (.inl e))
        have hno : (findV p.flat (g - 1)).2 = false := by
          rw [← Bool.not_eq_true]; exact fun e => h3 (.inr (.inr e))
        have hno' := (find_spec (g - 1) p.flat hp.l).2 hno
        obtain ⟨g1, g2, g3⟩ := growL_ok (by omega) p.flat hp.l hp.f hq hgx hfl (fun x hx e => hno' x hx e)
        obtain ⟨k1, k2, _⟩ := bldT_good _ g1.ord
        obtain ⟨j, j1, j2, j3⟩ := grow_at hq
        dsimp only
        rw [k2]
        generalize (nextV p.flat g).1 = x at *
        have hx := hp.l.c x (List.mem_of_getElem? j1)
        have bx := chkV_bd hx
        obtain ⟨n, hn⟩ := nat16 bx.2.2.2.2.1 bx.2.2.2.2.2.1
        have f10 := flag10 n (by rw [← hn]; exact hfl)
        rw [← hn] at f10
        have hi : x.i = -1 := Classical.byContradiction fun e => f10.1 (((chk_iff x).1 hx).2.2.2.2.2.1 e)
        have hjl := (List.getElem?_eq_some_iff.1 j1).1
        have hym : grV x g ∈ growL p.flat g := by
          rw [j3]
          exact List.mem_iff_getElem?.2 ⟨j, List.getElem?_set_self hjl⟩
        have hyq : ∀ q, inR (grV x g) q ↔ g ≤ q ∧ q < x.s + x.p := fun q => by unfold inR grV; dsimp only; omega
        have hys : ∀ q, seenR (grV x g) q = ⟨1, x.r, bits .andNot .i64 x.f 2, -1, 0⟩ := fun q => by
          unfold seenR grV; dsimp only; rw [hi]; rfl
        have hxs : ∀ q, seenR x q = ⟨1, x.r, bits .andNot .i64 x.f 2, -1, 0⟩ := fun q => by
          unfold seenR; rw [hi]; rfl
        have hmem : ∀ y ∈ growL p.flat g, y = grV x g ∨ y ∈ p.flat := fun y hy => by
          rw [j3] at hy
          exact (List.mem_or_eq_of_mem_set hy).elim .inr .inl
        have hold : ∀ z ∈ p.flat, z = x ∨ z ∈ growL p.flat g := fun z hz => by
          obtain ⟨i, hi⟩ := List.mem_iff_getElem?.1 hz
          by_cases e : i = j
          · subst e; rw [j1] at hi; cases hi; exact .inl rfl
          · refine .inr ?_
            rw [j3]
            exact List.mem_iff_getElem?.2 ⟨i, by rw [List.getElem?_set_ne (fun e' => e e'.symm)]; exact hi⟩
        have hgm : seenV (growL p.flat g) g = ⟨1, x.r, bits .andNot .i64 x.f 2, -1, 0⟩ := by
          rw [seen_in g1 hym ((hyq g).2 (by omega)), hys]
        refine ⟨x, ⟨by omega, hgx, by omega, f10.2, ⟨bx.2.2.2.2.1, bx.2.2.2.2.2.1⟩, growL_len g p.flat, find_yes g1 hym ((hyq g).2 (by omega)), fun q q1 q2 => ⟨?_, ?_⟩, fun q hq => ?_, ?_, ?_⟩⟩
        · rw [← Bool.not_eq_true, find_iff hp.l]
          rintro ⟨z, hz, hz2⟩
          obtain ⟨i, hi⟩ := List.mem_iff_getElem?.1 hz
          rcases Nat.lt_trichotomy i j with e | e | e
          · exact j2 i z e hi (by omega)
          · subst e; rw [j1] at hi; cases hi; omega
          · have := sorted_get hp.l j1 hi e; omega
        · rw [hgm, seen_in g1 hym ((hyq q).2 (by omega)), hys]
        · refine seen_same hp.l g1 (fun z hz hzq => ?_) (fun y hy hyq2 => ?_)
          · rcases hold z hz with rfl | hz2
            · refine ⟨_, hym, (hyq q).2 ?_, by rw [hys, hxs]⟩
              unfold inR at hzq
              omega
            · exact ⟨z, hz2, hzq, rfl⟩
          · rcases hmem y hy with rfl | hy2
            · have := (hyq q).1 hyq2
              refine ⟨x, List.mem_of_getElem? j1, ?_⟩
              unfold inR
              omega
            · exact ⟨y, hy2, hyq2⟩
        · rw [find_iff hp.l]
          exact ⟨x, List.mem_of_getElem? j1, by omega⟩
        · rw [← Bool.not_eq_true, find_iff g1]
          rintro ⟨y, hy, hy2⟩
          rcases hmem y hy with rfl | hy3
          · unfold grV at hy2; dsimp only at hy2; omega
          · exact hno' y hy3 hy2
theorem eq5_self' (s : S5) : eq5 s s = true := (eq5_iff s s).2 rfl

attribute [local irreducible] Wp WL WO fin finB rnd Exit.then Exit.inBlock G GD LT Rd Fn FnB FvB Iter
attribute [local go_sem] RV.row TD.row S5.row
def skI (p q : PT) (g : Int) (z : Nat × Bool) : List (Nat × AV) × Bs := ([(10, .d (.s (.int .i64 (z.1 : Int)))), (9, .d (.s (.bool z.2))), (5, .p 1 0), (2, .p 0 0), (1, .d (.s (.int .i64 g)))], [(0, some (26, p.td.row.map .d)), (1, some (26, q.td.row.map .d))])
set_option maxRecDepth 100000 in
set_option maxHeartbeats 2000000 in
theorem law_stacks (t : GT) (g : Int) : Fn Try.prog 9 [.st t.td.row, .s (.int .i64 g)] (· = .s (.bool true)) := by
  have hfw := few_F t (few_G t)
  cases hf : fewG t with
  | false =>
    rw [hf] at hfw
    refine Fn.of Try.func9 Try.ntmps9 rfl (by kernel_rfl) (fun w o => ?_)
    (repeat (first | refine G.cW (hfw) ?_ | refine G.cgW (hfw) ?_ | refine GD.cW (hfw) ?_ | refine GD.cgW (hfw) ?_ | refine G.cW (awake_F) ?_ | refine G.cgW (awake_F) ?_ | refine GD.cW (awake_F) ?_ | refine GD.cgW (awake_F) ?_ | ((repeat (revert hK; revert K)); refine wk ?_; repeat intro K hK) | refine wkg ?_))
    refine G.fin1 (by first | exact rvOk.tmp | exact rvOk.cellS | exact rvOk.cell1 | fail) rfl ?_
    rfl
  | true =>
    rw [hf] at hfw
    cases sok_of (tok_of t hf) with
    | bad e he h1 h2 =>
      have hb : (!true || e != 0) = true := by simp [he]
      refine Fn.of Try.func9 Try.ntmps9 rfl (by kernel_rfl) (fun w o => ?_)
      (repeat (first | refine G.cW (hfw) ?_ | refine G.cgW (hfw) ?_ | refine GD.cW (hfw) ?_ | refine GD.cgW (hfw) ?_ | refine G.cW (h2) ?_ | refine G.cgW (h2) ?_ | refine GD.cW (h2) ?_ | refine GD.cgW (h2) ?_ | refine G.cW (awake_F) ?_ | refine G.cgW (awake_F) ?_ | refine GD.cW (awake_F) ?_ | refine GD.cgW (awake_F) ?_ | ((repeat (revert hK; revert K)); refine wk ?_; repeat intro K hK) | refine wkg ?_))
      refine G.fin1 (by first | exact rvOk.tmp | exact rvOk.cellS | exact rvOk.cell1 | fail) rfl ?_
      rfl
    | ok p hp h =>
      rw [← h] at hfw ⊢
      have h2 := bcheck_P hp
      have hb : (!true || (0 : Int) != 0) = false := rfl
      have u := grow_P hp g
      have hfac := fun e => grow_facts (g := g) hp e
      have hasp := fun e => growT_asp (g := g) hp e
      unfold resD at u
      generalize growT p g = z at *
      obtain ⟨q, e⟩ := z
      dsimp only at u hfac hasp
      by_cases he : e = 0
      · subst he
        obtain ⟨x, gk⟩ := hfac rfl
        have hq := hasp rfl
        have sm1 := seen_P hq (g - 1)
        have sa1 := seenV_a q.flat (g - 1)
        rw [gk.s4, if_neg (by decide)] at sa1
        generalize seenV q.flat (g - 1) = s0 at *
        have hs0 : (s0.a == 1) = false := by simp [sa1]
        have hg0 := gk.g0
        have hgx := gk.gx
        have hxs := gk.xs
        have hb2 : (decide (g < 0) || decide (512 ≤ g) || (decide (0 < g) && s0.a == 1)) = false := by simp [hs0]; omega
        have fg := afind_P hq g
        rw [gk.fg] at fg
        dsimp only at fg
        have hfl := gk.fl
        have hb3 : ((!true || (grV x g).s != g) || (grV x g).f / 2 % 2 != 1) = false := by
          rw [hfl, show (grV x g).s = g from rfl]; simp
        have c1 := count_P hq
        have c2 := count_P hp
        have hbn := gk.fb
        generalize grV x g = y at *
        refine Fn.of Try.func9 Try.ntmps9 rfl (by kernel_rfl) (fun w o => ?_)
        (repeat (first | refine G.cW (hfw) ?_ | refine G.cgW (hfw) ?_ | refine GD.cW (hfw) ?_ | refine GD.cgW (hfw) ?_ | refine G.cW (h2) ?_ | refine G.cgW (h2) ?_ | refine GD.cW (h2) ?_ | refine GD.cgW (h2) ?_ | refine G.cW (u) ?_ | refine G.cgW (u) ?_ | refine GD.cW (u) ?_ | refine GD.cgW (u) ?_ | refine G.cW (sm1) ?_ | refine G.cgW (sm1) ?_ | refine GD.cW (sm1) ?_ | refine GD.cgW (sm1) ?_ | refine G.cW (fg) ?_ | refine G.cgW (fg) ?_ | refine GD.cW (fg) ?_ | refine GD.cgW (fg) ?_ | (show G _ _ _ _ (WL _ _ _ _ (⟨some _, .build _ _, _, _, _, none⟩ :: _)); refine G.w1 ?_ (by first | exact LT.arB | fail)) | (show G _ _ _ _ (WL _ _ _ _ (⟨some _, .build _ _, _, _, _, some _⟩ :: _)); refine G.gC ?_ (by first | (refine gi ?_; intros; exact LT.arB) | fail) rfl rfl) | (show GD _ _ _ _ _ _ _ _ _ _ (⟨some _, .build _ _, _, _, _, none⟩ :: _); refine GD.w1 ?_ (by first | exact LT.arB | fail)) | (show GD _ _ _ _ _ _ _ _ _ _ (⟨some _, .build _ _, _, _, _, some _⟩ :: _); refine GD.gC ?_ (by first | (refine gi ?_; intros; exact LT.arB) | fail) rfl rfl) | (show G _ _ _ _ (WL _ _ _ _ (⟨some _, .indexAddr _ _ _, _, _, _, none⟩ :: _)); refine G.w1 ?_ (by first | exact LT.arI | fail)) | (show G _ _ _ _ (WL _ _ _ _ (⟨some _, .indexAddr _ _ _, _, _, _, some _⟩ :: _)); refine G.gC ?_ (by first | (refine gi ?_; intros; exact LT.arI) | fail) rfl rfl) | (show GD _ _ _ _ _ _ _ _ _ _ (⟨some _, .indexAddr _ _ _, _, _, _, none⟩ :: _); refine GD.w1 ?_ (by first | exact LT.arI | fail)) | (show GD _ _ _ _ _ _ _ _ _ _ (⟨some _, .indexAddr _ _ _, _, _, _, some _⟩ :: _); refine GD.gC ?_ (by first | (refine gi ?_; intros; exact LT.arI) | fail) rfl rfl) | (show G _ _ _ _ (WL _ _ _ _ (⟨some _, .index _ _ _, _, _, _, none⟩ :: _)); refine G.w1 ?_ (by first | exact LT.arE | fail)) | (show G _ _ _ _ (WL _ _ _ _ (⟨some _, .index _ _ _, _, _, _, some _⟩ :: _)); refine G.gC ?_ (by first | (refine gi ?_; intros; exact LT.arE) | fail) rfl rfl) | (show GD _ _ _ _ _ _ _ _ _ _ (⟨some _, .index _ _ _, _, _, _, none⟩ :: _); refine GD.w1 ?_ (by first | exact LT.arE | fail)) | (show GD _ _ _ _ _ _ _ _ _ _ (⟨some _, .index _ _ _, _, _, _, some _⟩ :: _); refine GD.gC ?_ (by first | (refine gi ?_; intros; exact LT.arE) | fail) rfl rfl) | ((repeat (revert hK; revert K)); refine wk ?_; repeat intro K hK) | refine wkg ?_))
        refine G.loop (skI p q g) (fun z => z.1 ≤ 512 ∧ z.2 = decide (x.s < (z.1 : Int))) (fun z => 512 - z.1) ?_ ?_
        · exact G.at (0, false) [(0, 0), (1, 1)] ⟨Nat.zero_le _, by simp; omega⟩ (by repeat (first | exact trivial | refine ⟨⟨rfl, rfl⟩, ?_⟩)) (by repeat (first | exact trivial | refine ⟨⟨rfl, rfl, rfl⟩, ?_⟩ | refine ⟨⟨rfl, by rw [renL_d]; rfl, kbL_d _ _⟩, ?_⟩ | refine ⟨rfl, ?_⟩)) (by decide)
        · rintro ⟨k, ab⟩ ⟨hk, hab⟩
          dsimp only at hk hab
          dsimp only [skI]
          by_cases h : k < 512
          · have w1 := seen_P hp (k : Int)
            have w2 := seen_P hq (k : Int)
            have w3 := seen_P hq g
            have wa := seenV_a p.flat k
            have key : (ab || (decide (g < (k : Int)) && (seenV p.flat k).a == 1)) = decide (x.s < ((k + 1 : Nat) : Int)) ∧ (((decide (g ≤ (k : Int)) && !(ab || (decide (g < (k : Int)) && (seenV p.flat k).a == 1))) && ((seenV p.flat k).a == 1 || !(eq5 (seenV q.flat k) (seenV q.flat g)))) || (!(decide (g ≤ (k : Int)) && !(ab || (decide (g < (k : Int)) && (seenV p.flat k).a == 1))) && !(eq5 (seenV p.flat k) (seenV q.flat k)))) = false := by
              by_cases c1 : (k : Int) < g
              · have e1 : ab = false := by rw [hab, decide_eq_false_iff_not]; omega
                have e2 : decide (g < (k : Int)) = false := by rw [decide_eq_false_iff_not]; omega
                have e3 : decide (g ≤ (k : Int)) = false := by rw [decide_eq_false_iff_not]; omega
                have e4 : decide (x.s < ((k + 1 : Nat) : Int)) = false := by rw [decide_eq_false_iff_not]; omega
                rw [e1, e2, e3, e4, gk.s2 k (.inl c1)]
                simp [eq5_self']
              · have e3 : decide (g ≤ (k : Int)) = true := by rw [decide_eq_true_eq]; omega
                by_cases c2 : (k : Int) < x.s
                · obtain ⟨f1, f2⟩ := gk.s1 k (by omega) c2
                  rw [f1, if_neg (by decide)] at wa
                  have e1 : ab = false := by rw [hab, decide_eq_false_iff_not]; omega
                  have e4 : decide (x.s < ((k + 1 : Nat) : Int)) = false := by rw [decide_eq_false_iff_not]; omega
                  rw [e1, e3, e4, f2, wa]
                  simp [eq5_self']
                · have e4 : decide (x.s < ((k + 1 : Nat) : Int)) = true := by rw [decide_eq_true_eq]; omega
                  have e5 : (ab || (decide (g < (k : Int)) && (seenV p.flat k).a == 1)) = true := by
                    by_cases c3 : x.s < k
                    · rw [hab, decide_eq_true c3]; rfl
                    · have c4 : (k : Int) = x.s := by omega
                      rw [c4, gk.s3, if_pos rfl] at wa
                      have e6 : decide (g < (k : Int)) = true := by rw [decide_eq_true_eq]; omega
                      rw [e6, c4, wa]
                      simp
                  rw [e5, e3, e4, gk.s2 k (.inr (by omega))]
                  simp [eq5_self']
            generalize seenV p.flat k = s1 at *
            generalize seenV q.flat k = s2 at *
            generalize seenV q.flat g = s3 at *
            obtain ⟨key1, key2⟩ := key
            (repeat (first | refine G.cW (w1) ?_ | refine G.cgW (w1) ?_ | refine GD.cW (w1) ?_ | refine GD.cgW (w1) ?_ | refine G.cW (w2) ?_ | refine G.cgW (w2) ?_ | refine GD.cW (w2) ?_ | refine GD.cgW (w2) ?_ | refine G.cW (w3) ?_ | refine G.cgW (w3) ?_ | refine GD.cW (w3) ?_ | refine GD.cgW (w3) ?_ | (show G _ _ _ _ (WL _ _ _ _ (⟨some _, .build _ _, _, _, _, none⟩ :: _)); refine G.w1 ?_ (by first | exact LT.arB | fail)) | (show G _ _ _ _ (WL _ _ _ _ (⟨some _, .build _ _, _, _, _, some _⟩ :: _)); refine G.gC ?_ (by first | (refine gi ?_; intros; exact LT.arB) | fail) rfl rfl) | (show GD _ _ _ _ _ _ _ _ _ _ (⟨some _, .build _ _, _, _, _, none⟩ :: _); refine GD.w1 ?_ (by first | exact LT.arB | fail)) | (show GD _ _ _ _ _ _ _ _ _ _ (⟨some _, .build _ _, _, _, _, some _⟩ :: _); refine GD.gC ?_ (by first | (refine gi ?_; intros; exact LT.arB) | fail) rfl rfl) | (show G _ _ _ _ (WL _ _ _ _ (⟨some _, .indexAddr _ _ _, _, _, _, none⟩ :: _)); refine G.w1 ?_ (by first | exact LT.arI | fail)) | (show G _ _ _ _ (WL _ _ _ _ (⟨some _, .indexAddr _ _ _, _, _, _, some _⟩ :: _)); refine G.gC ?_ (by first | (refine gi ?_; intros; exact LT.arI) | fail) rfl rfl) | (show GD _ _ _ _ _ _ _ _ _ _ (⟨some _, .indexAddr _ _ _, _, _, _, none⟩ :: _); refine GD.w1 ?_ (by first | exact LT.arI | fail)) | (show GD _ _ _ _ _ _ _ _ _ _ (⟨some _, .indexAddr _ _ _, _, _, _, some _⟩ :: _); refine GD.gC ?_ (by first | (refine gi ?_; intros; exact LT.arI) | fail) rfl rfl) | (show G _ _ _ _ (WL _ _ _ _ (⟨some _, .index _ _ _, _, _, _, none⟩ :: _)); refine G.w1 ?_ (by first | exact LT.arE | fail)) | (show G _ _ _ _ (WL _ _ _ _ (⟨some _, .index _ _ _, _, _, _, some _⟩ :: _)); refine G.gC ?_ (by first | (refine gi ?_; intros; exact LT.arE) | fail) rfl rfl) | (show GD _ _ _ _ _ _ _ _ _ _ (⟨some _, .index _ _ _, _, _, _, none⟩ :: _); refine GD.w1 ?_ (by first | exact LT.arE | fail)) | (show GD _ _ _ _ _ _ _ _ _ _ (⟨some _, .index _ _ _, _, _, _, some _⟩ :: _); refine GD.gC ?_ (by first | (refine gi ?_; intros; exact LT.arE) | fail) rfl rfl) | (show G _ _ _ _ (WL _ _ _ _ (⟨some _, .binOp .neq _ _ _ _, _, _, _, none⟩ :: _)); refine G.w1 ?_ (by first | exact LT.neA (s2) (s3) | fail)) | (show G _ _ _ _ (WL _ _ _ _ (⟨some _, .binOp .neq _ _ _ _, _, _, _, some _⟩ :: _)); refine G.gC ?_ (by first | (refine gi ?_; intros; exact LT.neA (s2) (s3)) | fail) rfl rfl) | (show GD _ _ _ _ _ _ _ _ _ _ (⟨some _, .binOp .neq _ _ _ _, _, _, _, none⟩ :: _); refine GD.w1 ?_ (by first | exact LT.neA (s2) (s3) | fail)) | (show GD _ _ _ _ _ _ _ _ _ _ (⟨some _, .binOp .neq _ _ _ _, _, _, _, some _⟩ :: _); refine GD.gC ?_ (by first | (refine gi ?_; intros; exact LT.neA (s2) (s3)) | fail) rfl rfl) | (show G _ _ _ _ (WL _ _ _ _ (⟨some _, .binOp .neq _ _ _ _, _, _, _, none⟩ :: _)); refine G.w1 ?_ (by first | exact LT.neA (s1) (s2) | fail)) | (show G _ _ _ _ (WL _ _ _ _ (⟨some _, .binOp .neq _ _ _ _, _, _, _, some _⟩ :: _)); refine G.gC ?_ (by first | (refine gi ?_; intros; exact LT.neA (s1) (s2)) | fail) rfl rfl) | (show GD _ _ _ _ _ _ _ _ _ _ (⟨some _, .binOp .neq _ _ _ _, _, _, _, none⟩ :: _); refine GD.w1 ?_ (by first | exact LT.neA (s1) (s2) | fail)) | (show GD _ _ _ _ _ _ _ _ _ _ (⟨some _, .binOp .neq _ _ _ _, _, _, _, some _⟩ :: _); refine GD.gC ?_ (by first | (refine gi ?_; intros; exact LT.neA (s1) (s2)) | fail) rfl rfl) | ((repeat (revert hK; revert K)); refine wk ?_; repeat intro K hK) | refine wkg ?_))
            refine G.at (k + 1, (ab || (decide (g < (k : Int)) && s1.a == 1))) [(0, 0), (1, 1)] ⟨⟨by omega, key1⟩, by dsimp only; omega⟩ (by repeat (first | exact trivial | refine ⟨⟨rfl, rfl⟩, ?_⟩)) (by repeat (first | exact trivial | refine ⟨⟨rfl, rfl, rfl⟩, ?_⟩ | refine ⟨⟨rfl, by rw [renL_d]; rfl, kbL_d _ _⟩, ?_⟩ | refine ⟨rfl, ?_⟩)) (by decide)
          · (repeat (first | refine G.cW (c1) ?_ | refine G.cgW (c1) ?_ | refine GD.cW (c1) ?_ | refine GD.cgW (c1) ?_ | refine G.cW (c2) ?_ | refine G.cgW (c2) ?_ | refine GD.cW (c2) ?_ | refine GD.cgW (c2) ?_ | refine G.cW (awake_F) ?_ | refine G.cgW (awake_F) ?_ | refine GD.cW (awake_F) ?_ | refine GD.cgW (awake_F) ?_ | ((repeat (revert hK; revert K)); refine wk ?_; repeat intro K hK) | refine wkg ?_))
            refine G.fin1 (by first | exact rvOk.tmp | exact rvOk.cellS | exact rvOk.cell1 | fail) rfl ?_
            rw [gk.len]
            simp
      · have hbe : (e != 0) = true := by simpa using he
        refine Fn.of Try.func9 Try.ntmps9 rfl (by kernel_rfl) (fun w o => ?_)
        (repeat (first | refine G.cW (hfw) ?_ | refine G.cgW (hfw) ?_ | refine GD.cW (hfw) ?_ | refine GD.cgW (hfw) ?_ | refine G.cW (h2) ?_ | refine G.cgW (h2) ?_ | refine GD.cW (h2) ?_ | refine GD.cgW (h2) ?_ | refine G.cW (u) ?_ | refine G.cgW (u) ?_ | refine GD.cW (u) ?_ | refine GD.cgW (u) ?_ | refine G.cW (awake_F) ?_ | refine G.cgW (awake_F) ?_ | refine GD.cW (awake_F) ?_ | refine GD.cgW (awake_F) ?_ | ((repeat (revert hK; revert K)); refine wk ?_; repeat intro K hK) | refine wkg ?_))
        refine G.fin1 (by first | exact rvOk.tmp | exact rvOk.cellS | exact rvOk.cell1 | fail) rfl ?_
        rfl

end Go.Proofs.Ytjdpignfdncebaa
