/- Layer 02: the law IntervalMembers. -/
import Derived.Test.YtlboakmiopnifaaIwf
set_option linter.unusedSimpArgs false
set_option linter.unusedVariables false
namespace Go.Proofs.Ytlboakmiopnifaa
open Go.RowKit

theorem snd_v {l : List (Int × Int)} {x : Bool} (hx : sndI l = x) (v : Value) (w : World) (h : isSl w v 2 l.length (ivF l)) :
    Calls Try.prog 26 #[v] w fun e w' => e = .returned (.bool x) ∧ Ext w w' := by
  subst hx; exact snd_any l v w h
theorem lin_v {l : List (Int × Int)} {n : Int} {x : Bool} (hx : inI l n = x) (v : Value) (w : World) (h : isSl w v 2 l.length (ivF l)) :
    Calls Try.prog 27 #[v, .int .i64 n] w fun e w' => e = .returned (.bool x) ∧ Ext w w' := by
  subst hx; exact lin_any l n v w h
theorem cont_v {l : List (Int × Int)} {n : Int} {x : Bool} (hc : chkI l = 0) (hx : inI l n = x) (v : Value) (w : World) (h : isSl w v 2 l.length (ivF l)) :
    Calls Try.prog 15 #[v, .int .i64 n] w fun e w' => e = .returned (.bool x) ∧ Ext w w' := by
  subst hx
  have := cont_any l v n w h
  rw [hc] at this
  simpa using this
theorem snd_asc {l : List (Int × Int)} (h : Asc none l) : sndI l = true := by simpa [sndI] using (chkI_asc l).2 h

set_option maxRecDepth 100000 in
set_option maxHeartbeats 16000000 in
theorem members_ok (a b : List (Int × Int)) (ad bd : Option Addr) (c d : Nat) (n : Int) (w : World) (h : isSl w (.slice ad a.length c) 2 a.length (ivF a)) (h2 : isSl w (.slice bd b.length d) 2 b.length (ivF b)) :
    Calls Try.prog 8 #[.slice ad a.length c, .slice bd b.length d, .int .i64 n] w fun e w' => e = .returned (.bool true) ∧ Ext w w' := by
  have HV : Hid (isSl w (.slice ad a.length c) 2 a.length (ivF a)) := h
  have HU : Hid (isSl w (.slice bd b.length d) 2 b.length (ivF b)) := h2
  clear h h2
  by_cases hl : a.length ≤ 12 ∧ b.length ≤ 12
  case neg =>
    rcases Nat.lt_or_ge 12 a.length with h1 | h1
    · clear hl
      go_enter Try.func8, Try.ntmps8
      go_upto_region 9999 with (first | (go_at_call 11; refine (few_f (by first | omega | (simp; omega)) _).mono ?_; rintro e w1 ⟨rfl, osF, nF_, rfl⟩) | (go_at_call 12; refine (awake_ok _).mono ?_; rintro e w1 ⟨rfl, osW, nW, rfl⟩))
      all_goals go_ret
      all_goals exact ⟨rfl, by (exact Ext.of_below (by (repeat' (first | (with_reducible exact Below.refl _ _) | (with_reducible assumption) | (with_reducible refine Below.alloc ?_ ?_ _) | (with_reducible refine Below.wext ?_ ?_ _ _) | (with_reducible refine Below.drew ?_) | (with_reducible refine Below.setCell ?_ ?_ _) | (with_reducible exact Nat.le_refl _) | (with_reducible refine Below.drewN' ?_ _) | (simp; omega) | (simp; done)))))⟩
    · have h2' : 12 < b.length := by omega
      clear hl
      go_enter Try.func8, Try.ntmps8
      go_upto_region 9999 with (first | (go_at_call 11; refine (few_f (by first | omega | (simp; omega)) _).mono ?_; rintro e w1 ⟨rfl, osF, nF_, rfl⟩) | (go_at_call 12; refine (awake_ok _).mono ?_; rintro e w1 ⟨rfl, osW, nW, rfl⟩))
      all_goals go_ret
      all_goals exact ⟨rfl, by (exact Ext.of_below (by (repeat' (first | (with_reducible exact Below.refl _ _) | (with_reducible assumption) | (with_reducible refine Below.alloc ?_ ?_ _) | (with_reducible refine Below.wext ?_ ?_ _ _) | (with_reducible refine Below.drew ?_) | (with_reducible refine Below.setCell ?_ ?_ _) | (with_reducible exact Nat.le_refl _) | (with_reducible refine Below.drewN' ?_ _) | (simp; omega) | (simp; done)))))⟩
  obtain ⟨hl1, hl2⟩ := hl
  by_cases ha : chkI a = 0
  case neg =>
    have ha1 : Hid (sndI a = false) := by show sndI a = false; simpa [sndI] using ha
    clear ha
    go_enter Try.func8, Try.ntmps8
    go_upto_region 9999 with (first | (go_at_call 11; refine (few_t (by first | omega | (simp; omega)) (by first | omega | (simp; omega)) _).mono ?_; rintro e w1 ⟨rfl, osF, nF_, rfl⟩) | (go_at_call_of 26 (Value.slice ad a.length c); refine (snd_v ha1.out _ _ (HV.out.ext (by (exact Ext.of_below (by (repeat' (first | (with_reducible exact Below.refl _ _) | (with_reducible assumption) | (with_reducible refine Below.alloc ?_ ?_ _) | (with_reducible refine Below.wext ?_ ?_ _ _) | (with_reducible refine Below.drew ?_) | (with_reducible refine Below.setCell ?_ ?_ _) | (with_reducible exact Nat.le_refl _) | (with_reducible refine Below.drewN' ?_ _) | (simp; omega) | (simp; done)))))))).mono ?_; rintro e w1 ⟨rfl, os_v, n_v, rfl⟩) | (go_at_call 12; refine (awake_ok _).mono ?_; rintro e w1 ⟨rfl, osW, nW, rfl⟩))
    all_goals go_ret
    all_goals exact ⟨rfl, by (exact Ext.of_below (by (repeat' (first | (with_reducible exact Below.refl _ _) | (with_reducible assumption) | (with_reducible refine Below.alloc ?_ ?_ _) | (with_reducible refine Below.wext ?_ ?_ _ _) | (with_reducible refine Below.drew ?_) | (with_reducible refine Below.setCell ?_ ?_ _) | (with_reducible exact Nat.le_refl _) | (with_reducible refine Below.drewN' ?_ _) | (simp; omega) | (simp; done)))))⟩
  by_cases hb : chkI b = 0
  case neg =>
    have ha1 : Hid (sndI a = true) := by show sndI a = true; simpa [sndI] using ha
    have hb1 : Hid (sndI b = false) := by show sndI b = false; simpa [sndI] using hb
    clear ha hb
    go_enter Try.func8, Try.ntmps8
    go_upto_region 9999 with (first | (go_at_call 11; refine (few_t (by first | omega | (simp; omega)) (by first | omega | (simp; omega)) _).mono ?_; rintro e w1 ⟨rfl, osF, nF_, rfl⟩) | (go_at_call_of 26 (Value.slice ad a.length c); refine (snd_v ha1.out _ _ (HV.out.ext (by (exact Ext.of_below (by (repeat' (first | (with_reducible exact Below.refl _ _) | (with_reducible assumption) | (with_reducible refine Below.alloc ?_ ?_ _) | (with_reducible refine Below.wext ?_ ?_ _ _) | (with_reducible refine Below.drew ?_) | (with_reducible refine Below.setCell ?_ ?_ _) | (with_reducible exact Nat.le_refl _) | (with_reducible refine Below.drewN' ?_ _) | (simp; omega) | (simp; done)))))))).mono ?_; rintro e w1 ⟨rfl, os_v, n_v, rfl⟩) | (go_at_call_of 26 (Value.slice bd b.length d); refine (snd_v hb1.out _ _ (HU.out.ext (by (exact Ext.of_below (by (repeat' (first | (with_reducible exact Below.refl _ _) | (with_reducible assumption) | (with_reducible refine Below.alloc ?_ ?_ _) | (with_reducible refine Below.wext ?_ ?_ _ _) | (with_reducible refine Below.drew ?_) | (with_reducible refine Below.setCell ?_ ?_ _) | (with_reducible exact Nat.le_refl _) | (with_reducible refine Below.drewN' ?_ _) | (simp; omega) | (simp; done)))))))).mono ?_; rintro e w1 ⟨rfl, os_v, n_v, rfl⟩) | (go_at_call 12; refine (awake_ok _).mono ?_; rintro e w1 ⟨rfl, osW, nW, rfl⟩))
    all_goals go_ret
    all_goals exact ⟨rfl, by (exact Ext.of_below (by (repeat' (first | (with_reducible exact Below.refl _ _) | (with_reducible assumption) | (with_reducible refine Below.alloc ?_ ?_ _) | (with_reducible refine Below.wext ?_ ?_ _ _) | (with_reducible refine Below.drew ?_) | (with_reducible refine Below.setCell ?_ ?_ _) | (with_reducible exact Nat.le_refl _) | (with_reducible refine Below.drewN' ?_ _) | (simp; omega) | (simp; done)))))⟩
  have hl3 : a.length ≤ 60 := by omega
  have hl4 : b.length ≤ 60 := by omega
  have hx : Hid (bothI a b = 0) := by show bothI a b = 0; unfold bothI; rw [if_pos ha, hb]
  have ha1 : Hid (sndI a = true) := by show sndI a = true; simpa [sndI] using ha
  have hb1 : Hid (sndI b = true) := by show sndI b = true; simpa [sndI] using hb
  obtain ⟨u1, u2⟩ := uni_spec ((chkI_asc a).1 ha) ((chkI_asc b).1 hb)
  have i1 := (asc_int a b none none ((chkI_asc a).1 ha) ((chkI_asc b).1 hb)).1
  have i2 := in_int a b none none n ((chkI_asc a).1 ha) ((chkI_asc b).1 hb)
  obtain ⟨d1, d2⟩ := cut_spec a b none none ((chkI_asc a).1 ha) ((chkI_asc b).1 hb)
  replace u2 := u2 n
  replace d2 := d2 n
  obtain ⟨A, hA⟩ : ∃ A, uniL a b = A := ⟨_, rfl⟩
  obtain ⟨B, hB⟩ : ∃ B, intI a b = B := ⟨_, rfl⟩
  obtain ⟨C, hC⟩ : ∃ C, cutI a b = C := ⟨_, rfl⟩
  have HA : Hid ((if bothI a b = 0 then uniL a b else []) = A) := by show _ = _; rw [if_pos hx.out, hA]
  have HB : Hid ((if bothI a b = 0 then intI a b else []) = B) := by show _ = _; rw [if_pos hx.out, hB]
  have HC : Hid ((if bothI a b = 0 then cutI a b else []) = C) := by show _ = _; rw [if_pos hx.out, hC]
  rw [hA] at u1 u2
  rw [hB] at i1 i2
  rw [hC] at d1 d2
  have sA : Hid (sndI A = true) := snd_asc u1
  have sB : Hid (sndI B = true) := snd_asc i1
  have sC : Hid (sndI C = true) := snd_asc d1
  have cA : Hid (chkI A = 0) := (chkI_asc A).2 u1
  obtain ⟨x, hX⟩ : ∃ x, inI a n = x := ⟨_, rfl⟩
  obtain ⟨y, hY⟩ : ∃ y, inI b n = y := ⟨_, rfl⟩
  rw [hX, hY] at u2 i2 d2
  clear ha hb u1 i1 d1 hA hB hC
  have HX : Hid (inI a n = x) := hX
  have HY : Hid (inI b n = y) := hY
  clear hX hY
  cases x <;> cases y
  all_goals simp only [Bool.or_false, Bool.or_true, Bool.and_false, Bool.and_true, Bool.not_false, Bool.not_true, Bool.false_or, Bool.true_or, Bool.false_and, Bool.true_and] at u2 i2 d2
  all_goals (have U2 : Hid _ := u2; have I2 : Hid _ := i2; have D2 : Hid _ := d2; clear u2 i2 d2)
  all_goals
    go_enter Try.func8, Try.ntmps8
    go_upto_region 9999 with (first | (go_at_call 11; refine (few_t (by first | omega | (simp; omega)) (by first | omega | (simp; omega)) _).mono ?_; rintro e w1 ⟨rfl, osF, nF_, rfl⟩) | (go_at_call_of 26 (Value.slice ad a.length c); refine (snd_v ha1.out _ _ (HV.out.ext (by (exact Ext.of_below (by (repeat' (first | (with_reducible exact Below.refl _ _) | (with_reducible assumption) | (with_reducible refine Below.alloc ?_ ?_ _) | (with_reducible refine Below.wext ?_ ?_ _ _) | (with_reducible refine Below.drew ?_) | (with_reducible refine Below.setCell ?_ ?_ _) | (with_reducible exact Nat.le_refl _) | (with_reducible refine Below.drewN' ?_ _) | (simp; omega) | (simp; done)))))))).mono ?_; rintro e w1 ⟨rfl, os_v, n_v, rfl⟩) | (go_at_call_of 26 (Value.slice bd b.length d); refine (snd_v hb1.out _ _ (HU.out.ext (by (exact Ext.of_below (by (repeat' (first | (with_reducible exact Below.refl _ _) | (with_reducible assumption) | (with_reducible refine Below.alloc ?_ ?_ _) | (with_reducible refine Below.wext ?_ ?_ _ _) | (with_reducible refine Below.drew ?_) | (with_reducible refine Below.setCell ?_ ?_ _) | (with_reducible exact Nat.le_refl _) | (with_reducible refine Below.drewN' ?_ _) | (simp; omega) | (simp; done)))))))).mono ?_; rintro e w1 ⟨rfl, os_v, n_v, rfl⟩) | (go_at_call 28; refine (uni_v HA.out hx.out _ _ _ (HV.out.ext (by (exact Ext.of_below (by (repeat' (first | (with_reducible exact Below.refl _ _) | (with_reducible assumption) | (with_reducible refine Below.alloc ?_ ?_ _) | (with_reducible refine Below.wext ?_ ?_ _ _) | (with_reducible refine Below.drew ?_) | (with_reducible refine Below.setCell ?_ ?_ _) | (with_reducible exact Nat.le_refl _) | (with_reducible refine Below.drewN' ?_ _) | (simp; omega) | (simp; done))))))) (HU.out.ext (by (exact Ext.of_below (by (repeat' (first | (with_reducible exact Below.refl _ _) | (with_reducible assumption) | (with_reducible refine Below.alloc ?_ ?_ _) | (with_reducible refine Below.wext ?_ ?_ _ _) | (with_reducible refine Below.drew ?_) | (with_reducible refine Below.setCell ?_ ?_ _) | (with_reducible exact Nat.le_refl _) | (with_reducible refine Below.drewN' ?_ _) | (simp; omega) | (simp; done))))))) hl3 hl4).mono ?_; rintro e w1 ⟨r1, rfl, hown, hbel⟩; obtain ⟨os_r1, n_r1, rfl⟩ := Ext.of_below hbel; have Hr1 : Hid (isSl _ r1 2 (A : List (Int × Int)).length (ivF A)) := isSl_of_own hown; clear hown hbel) | (go_at_call 29; refine (int_v HB.out hx.out _ _ _ (HV.out.ext (by (exact Ext.of_below (by (repeat' (first | (with_reducible exact Below.refl _ _) | (with_reducible assumption) | (with_reducible refine Below.alloc ?_ ?_ _) | (with_reducible refine Below.wext ?_ ?_ _ _) | (with_reducible refine Below.drew ?_) | (with_reducible refine Below.setCell ?_ ?_ _) | (with_reducible exact Nat.le_refl _) | (with_reducible refine Below.drewN' ?_ _) | (simp; omega) | (simp; done))))))) (HU.out.ext (by (exact Ext.of_below (by (repeat' (first | (with_reducible exact Below.refl _ _) | (with_reducible assumption) | (with_reducible refine Below.alloc ?_ ?_ _) | (with_reducible refine Below.wext ?_ ?_ _ _) | (with_reducible refine Below.drew ?_) | (with_reducible refine Below.setCell ?_ ?_ _) | (with_reducible exact Nat.le_refl _) | (with_reducible refine Below.drewN' ?_ _) | (simp; omega) | (simp; done))))))) hl3 hl4).mono ?_; rintro e w1 ⟨r2, rfl, hown, hbel⟩; obtain ⟨os_r2, n_r2, rfl⟩ := Ext.of_below hbel; have Hr2 : Hid (isSl _ r2 2 (B : List (Int × Int)).length (ivF B)) := isSl_of_own hown; clear hown hbel) | (go_at_call 30; refine (sub_v HC.out hx.out _ _ _ (HV.out.ext (by (exact Ext.of_below (by (repeat' (first | (with_reducible exact Below.refl _ _) | (with_reducible assumption) | (with_reducible refine Below.alloc ?_ ?_ _) | (with_reducible refine Below.wext ?_ ?_ _ _) | (with_reducible refine Below.drew ?_) | (with_reducible refine Below.setCell ?_ ?_ _) | (with_reducible exact Nat.le_refl _) | (with_reducible refine Below.drewN' ?_ _) | (simp; omega) | (simp; done))))))) (HU.out.ext (by (exact Ext.of_below (by (repeat' (first | (with_reducible exact Below.refl _ _) | (with_reducible assumption) | (with_reducible refine Below.alloc ?_ ?_ _) | (with_reducible refine Below.wext ?_ ?_ _ _) | (with_reducible refine Below.drew ?_) | (with_reducible refine Below.setCell ?_ ?_ _) | (with_reducible exact Nat.le_refl _) | (with_reducible refine Below.drewN' ?_ _) | (simp; omega) | (simp; done))))))) hl3 hl4).mono ?_; rintro e w1 ⟨r3, rfl, hown, hbel⟩; obtain ⟨os_r3, n_r3, rfl⟩ := Ext.of_below hbel; have Hr3 : Hid (isSl _ r3 2 (C : List (Int × Int)).length (ivF C)) := isSl_of_own hown; clear hown hbel) | (go_at_call_of 26 r1; refine (snd_v sA.out _ _ (isSl.ext Hr1.out (by (exact Ext.of_below (by (repeat' (first | (with_reducible exact Below.refl _ _) | (with_reducible assumption) | (with_reducible refine Below.alloc ?_ ?_ _) | (with_reducible refine Below.wext ?_ ?_ _ _) | (with_reducible refine Below.drew ?_) | (with_reducible refine Below.setCell ?_ ?_ _) | (with_reducible exact Nat.le_refl _) | (with_reducible refine Below.drewN' ?_ _) | (simp; omega) | (simp; done)))))))).mono ?_; rintro e w1 ⟨rfl, os_v, n_v, rfl⟩) | (go_at_call_of 26 r2; refine (snd_v sB.out _ _ (isSl.ext Hr2.out (by (exact Ext.of_below (by (repeat' (first | (with_reducible exact Below.refl _ _) | (with_reducible assumption) | (with_reducible refine Below.alloc ?_ ?_ _) | (with_reducible refine Below.wext ?_ ?_ _ _) | (with_reducible refine Below.drew ?_) | (with_reducible refine Below.setCell ?_ ?_ _) | (with_reducible exact Nat.le_refl _) | (with_reducible refine Below.drewN' ?_ _) | (simp; omega) | (simp; done)))))))).mono ?_; rintro e w1 ⟨rfl, os_v, n_v, rfl⟩) | (go_at_call_of 26 r3; refine (snd_v sC.out _ _ (isSl.ext Hr3.out (by (exact Ext.of_below (by (repeat' (first | (with_reducible exact Below.refl _ _) | (with_reducible assumption) | (with_reducible refine Below.alloc ?_ ?_ _) | (with_reducible refine Below.wext ?_ ?_ _ _) | (with_reducible refine Below.drew ?_) | (with_reducible refine Below.setCell ?_ ?_ _) | (with_reducible exact Nat.le_refl _) | (with_reducible refine Below.drewN' ?_ _) | (simp; omega) | (simp; done)))))))).mono ?_; rintro e w1 ⟨rfl, os_v, n_v, rfl⟩) | (go_at_call_of 27 (Value.slice ad a.length c); refine (lin_v HX.out _ _ (HV.out.ext (by (exact Ext.of_below (by (repeat' (first | (with_reducible exact Below.refl _ _) | (with_reducible assumption) | (with_reducible refine Below.alloc ?_ ?_ _) | (with_reducible refine Below.wext ?_ ?_ _ _) | (with_reducible refine Below.drew ?_) | (with_reducible refine Below.setCell ?_ ?_ _) | (with_reducible exact Nat.le_refl _) | (with_reducible refine Below.drewN' ?_ _) | (simp; omega) | (simp; done)))))))).mono ?_; rintro e w1 ⟨rfl, os_v, n_v, rfl⟩) | (go_at_call_of 27 (Value.slice bd b.length d); refine (lin_v HY.out _ _ (HU.out.ext (by (exact Ext.of_below (by (repeat' (first | (with_reducible exact Below.refl _ _) | (with_reducible assumption) | (with_reducible refine Below.alloc ?_ ?_ _) | (with_reducible refine Below.wext ?_ ?_ _ _) | (with_reducible refine Below.drew ?_) | (with_reducible refine Below.setCell ?_ ?_ _) | (with_reducible exact Nat.le_refl _) | (with_reducible refine Below.drewN' ?_ _) | (simp; omega) | (simp; done)))))))).mono ?_; rintro e w1 ⟨rfl, os_v, n_v, rfl⟩) | (go_at_call_of 27 r1; refine (lin_v U2.out _ _ (isSl.ext Hr1.out (by (exact Ext.of_below (by (repeat' (first | (with_reducible exact Below.refl _ _) | (with_reducible assumption) | (with_reducible refine Below.alloc ?_ ?_ _) | (with_reducible refine Below.wext ?_ ?_ _ _) | (with_reducible refine Below.drew ?_) | (with_reducible refine Below.setCell ?_ ?_ _) | (with_reducible exact Nat.le_refl _) | (with_reducible refine Below.drewN' ?_ _) | (simp; omega) | (simp; done)))))))).mono ?_; rintro e w1 ⟨rfl, os_v, n_v, rfl⟩) | (go_at_call_of 27 r2; refine (lin_v I2.out _ _ (isSl.ext Hr2.out (by (exact Ext.of_below (by (repeat' (first | (with_reducible exact Below.refl _ _) | (with_reducible assumption) | (with_reducible refine Below.alloc ?_ ?_ _) | (with_reducible refine Below.wext ?_ ?_ _ _) | (with_reducible refine Below.drew ?_) | (with_reducible refine Below.setCell ?_ ?_ _) | (with_reducible exact Nat.le_refl _) | (with_reducible refine Below.drewN' ?_ _) | (simp; omega) | (simp; done)))))))).mono ?_; rintro e w1 ⟨rfl, os_v, n_v, rfl⟩) | (go_at_call_of 27 r3; refine (lin_v D2.out _ _ (isSl.ext Hr3.out (by (exact Ext.of_below (by (repeat' (first | (with_reducible exact Below.refl _ _) | (with_reducible assumption) | (with_reducible refine Below.alloc ?_ ?_ _) | (with_reducible refine Below.wext ?_ ?_ _ _) | (with_reducible refine Below.drew ?_) | (with_reducible refine Below.setCell ?_ ?_ _) | (with_reducible exact Nat.le_refl _) | (with_reducible refine Below.drewN' ?_ _) | (simp; omega) | (simp; done)))))))).mono ?_; rintro e w1 ⟨rfl, os_v, n_v, rfl⟩) | (go_at_call 15; refine (cont_v cA.out U2.out _ _ (isSl.ext Hr1.out (by (exact Ext.of_below (by (repeat' (first | (with_reducible exact Below.refl _ _) | (with_reducible assumption) | (with_reducible refine Below.alloc ?_ ?_ _) | (with_reducible refine Below.wext ?_ ?_ _ _) | (with_reducible refine Below.drew ?_) | (with_reducible refine Below.setCell ?_ ?_ _) | (with_reducible exact Nat.le_refl _) | (with_reducible refine Below.drewN' ?_ _) | (simp; omega) | (simp; done)))))))).mono ?_; rintro e w1 ⟨rfl, os_v, n_v, rfl⟩) | (go_at_call 12; refine (awake_ok _).mono ?_; rintro e w1 ⟨rfl, osW, nW, rfl⟩))
    all_goals go_ret
    all_goals exact ⟨rfl, by (exact Ext.of_below (by (repeat' (first | (with_reducible exact Below.refl _ _) | (with_reducible assumption) | (with_reducible refine Below.alloc ?_ ?_ _) | (with_reducible refine Below.wext ?_ ?_ _ _) | (with_reducible refine Below.drew ?_) | (with_reducible refine Below.setCell ?_ ?_ _) | (with_reducible exact Nat.le_refl _) | (with_reducible refine Below.drewN' ?_ _) | (simp; omega) | (simp; done)))))⟩

theorem law_members (rows rows2 : List (List Value)) (hr : ∀ x ∈ rows, flatOK [some .i64, some .i64] x) (hr2 : ∀ x ∈ rows2, flatOK [some .i64, some .i64] x) (v u : Value) (n : Int) (w : World) (h : inSl w v 2 rows.length rows.flatten) (h2 : inSl w u 2 rows2.length rows2.flatten) :
    Calls Try.prog 8 #[v, u, .int .i64 n] w fun e w' => e = .returned (.bool true) ∧ Ext w w' := by
  obtain ⟨l, hl⟩ := iv_arg hr h
  obtain ⟨a, c, rfl⟩ := sl_form hl
  obtain ⟨l2, hl2⟩ := iv_arg hr2 h2
  obtain ⟨a2, c2, rfl⟩ := sl_form hl2
  exact members_ok l l2 a a2 c c2 n w hl hl2

end Go.Proofs.Ytlboakmiopnifaa
