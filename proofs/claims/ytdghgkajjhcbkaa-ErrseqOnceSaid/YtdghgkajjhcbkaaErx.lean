/- The events: play, walked with its world in memory. -/
import Derived.Test.YtdghgkajjhcbkaaEry
import Derived.Deep.RegionHeld3
set_option linter.unusedSimpArgs false
set_option linter.unusedVariables false
namespace Go.Proofs.Ytdghgkajjhcbkaa
open Go.RowKit

theorem set_eq {c c' : Int} {s s' : Bool} {f : Int} (h : setR c s = (c', s', f)) (w : World) :
    Calls Try.prog 13 #[.agg #[.int .i64 c, .bool s]] w fun e w' => e = .returned (.tuple #[.agg #[.int .i64 c', .bool s'], .int .i64 f]) ∧ Ext w w' := by
  have := set_any c s w; rw [h] at this; exact this
theorem sam_eq {c p : Int} {s : Bool} {f : Int} (h : samR c s = (p, f)) (w : World) :
    Calls Try.prog 15 #[.agg #[.int .i64 c, .bool s]] w fun e w' => e = .returned (.tuple #[.int .i64 p, .int .i64 f]) ∧ Ext w w' := by
  have := sam_any c s w; rw [h] at this; exact this
theorem chk_eq {c p c' p' : Int} {s s' : Bool} {f : Int} (h : chkR c s p = (c', s', p', f)) (w : World) :
    Calls Try.prog 17 #[.agg #[.int .i64 c, .bool s], .int .i64 p] w fun e w' => e = .returned (.tuple #[.agg #[.int .i64 c', .bool s'], .int .i64 p', .int .i64 f]) ∧ Ext w w' := by
  have := chk_any c s p w; rw [h] at this; exact this
theorem valid_eq {c : Int} {s v : Bool} (h : validB c s = v) (w : World) :
    Calls Try.prog 9 #[.agg #[.int .i64 c, .bool s]] w fun e w' => e = .returned (.bool v) ∧ Ext w w' := by
  subst h; exact valid_any c s w

def playPost (w : World) (e : Ending) (w' : World) : Prop := ∃ v, e = .returned (.tuple #[v, .bool true]) ∧ Ext w w'

set_option maxRecDepth 100000 in
set_option maxHeartbeats 4000000 in
theorem play_some (l : List (Int × Int)) (b o cap : Nat) (w : World) (hl : l.length ≤ 60) (hb : b < w.heap.size)
    (hc : ∀ k (h : k < l.length), w.cell? ⟨b, o + k * 2, none⟩ = some (.int .i64 (l[k]).1) ∧ w.cell? ⟨b, o + k * 2 + 1, none⟩ = some (.int .i64 (l[k]).2)) :
    Calls Try.prog 19 #[.slice (some ⟨b, o, none⟩) l.length cap] w (playPost w) := by
  have HC : Hid _ := hc
  clear hc
  go_enter Try.func19, Try.ntmps19
  go_wp2_with (first | (go_at_call 11; refine (new_any _).mono ?_; rintro e w1 ⟨rfl, os1, n1, rfl⟩) | (go_at_call 21; refine (start_any _).mono ?_; intro e w1 hst; obtain ⟨bw, bk, bb, rfl, hm, g1, g2, g3, osS, nS, rfl⟩ := hst; have g4 := hm.rw.lt; have g5 := hm.rk.lt; have g6 := hm.rb.lt))
  generalize hba : w.heap.size + osS.size = ba
  generalize hbe : ba + 1 + os1.size = be
  have HPl : Hid (Places w (be + 1) bw bk bb be ba) := by
    simp at g4 g5 g6
    exact ⟨g1, g2, g3, by omega, by omega, by omega, by omega, by omega, by omega, by omega⟩
  have HM : Hid (MemW (wext w osS nS) bw bk bb 0 0 (fun _ => 0) fun _ => false) := hm
  have Hba : Hid (w.heap.size + osS.size = ba) := hba
  have Hbe : Hid (ba + 1 + os1.size = be) := hbe
  clear hm hba hbe g1 g2 g3 g4 g5 g6
  go_loopw [7, 8] (fun v i wr => ∃ (k : Nat) (c : Int) (s : Bool) (E S : Int) (K : Nat → Int) (B : Nat → Bool) (A : Nat → Int), i = .int .i64 k ∧ k ≤ l.length ∧ PlayInv w (be + 1) bw bk bb be ba k wr v c s E S K B A) (fun _ i _ => l.length - (intOf i).toNat)
  case atStart =>
    have z1 := Hba.out
    have z2 := Hbe.out
    refine ⟨0, 0, false, 0, 0, fun _ => 0, fun _ => false, fun _ => 0, rfl, Nat.zero_le _, OInv.start, ((HM.out.alloc _).wext _ _).alloc _, row_new _ _ _ _ (by simp; omega) (by simp) (by intro i hi; match i, hi with | 0, _ => rfl | 1, _ => rfl), (rowIs_wext (row_new _ _ _ _ (by simp; omega) (by simp) (by intro i hi; match i, hi with | 0, _ => rfl | 1, _ => rfl | 2, _ => rfl | 3, _ => rfl)) _ _).alloc _, ⟨0, [], by omega, World.ownsRow_nil _ _ _ _⟩, by (repeat' (first | (with_reducible exact Below.refl _ _) | (with_reducible assumption) | (with_reducible refine Below.alloc ?_ ?_ _) | (with_reducible refine Below.wext ?_ ?_ _ _) | (with_reducible refine Below.drew ?_) | (with_reducible refine Below.setCell ?_ ?_ _) | (with_reducible exact Nat.le_refl _) | (simp; omega) | (simp; done))), by simp; omega⟩
  case round =>
    obtain ⟨k, c, s, E, S, K, B, A, rfl, hk, hI⟩ := hrel
    by_cases hlt : k < l.length
    · obtain ⟨q1, q2⟩ := HC.out k hlt
      obtain ⟨kd, hkd⟩ : ∃ x, x = (l[k]).1 := ⟨_, rfl⟩
      obtain ⟨wh, hwh⟩ : ∃ x, x = (l[k]).2 := ⟨_, rfl⟩
      rw [← hkd] at q1
      rw [← hwh] at q2
      clear hkd hwh
      have r1 : wr.cell? ⟨b, o + k * 2, none⟩ = some (.int .i64 kd) := (hI.old.cell (p := ⟨b, _, none⟩) hb).trans q1
      have r2 : wr.cell? ⟨b, o + k * 2 + 1, none⟩ = some (.int .i64 wh) := (hI.old.cell (p := ⟨b, _, none⟩) hb).trans q2
      clear q1 q2
      obtain ⟨t1, t2, j, hj, hje, hje2⟩ := who_ok wh
      have e0 : wr.cell? ⟨be, 0, none⟩ = some (.int .i64 c) := hI.re.cell (by omega)
      have e1 : wr.cell? ⟨be, 1, none⟩ = some (.bool s) := hI.re.cell (by omega)
      have ef0 : wr.frozen? ⟨be, 0, none⟩ = false := hI.re.frozen 0
      have ef1 : wr.frozen? ⟨be, 1, none⟩ = false := hI.re.frozen 1
      have a0 : wr.cell? ⟨ba, j, none⟩ = some (.int .i64 (A j)) := hI.ra.cell hj
      have af0 : wr.frozen? ⟨ba, j, none⟩ = false := hI.ra.frozen j
      have zb : LtD b wr.heap.size := Nat.lt_of_lt_of_le hb hI.old.size
      have ze : LtD be wr.heap.size := hI.re.lt
      have za : LtD ba wr.heap.size := hI.ra.lt
      have zw : LtD bw wr.heap.size := hI.mem.rw.lt
      have zk : LtD bk wr.heap.size := hI.mem.rk.lt
      have zB : LtD bb wr.heap.size := hI.mem.rb.lt
      have w3 : wr.cell? ⟨bw, 3, none⟩ = some (.slice (some ⟨bb, 0, none⟩) 4 4) := hI.mem.rw.cell (by omega)
      have b0 : wr.cell? ⟨bb, j, none⟩ = some (.bool (B j)) := hI.mem.rb.cell hj
      have p1 : bw < ba ∧ bk < ba ∧ bb < ba ∧ ba < be := ⟨HPl.out.bw1, HPl.out.bk1, HPl.out.bb1, HPl.out.ba1⟩
      have x1 := fun (w : World) (i j : Nat) (v : Value) => cell_oth w (show bw ≠ be by omega) i j v
      have x2 := fun (w : World) (i j : Nat) (v : Value) => cell_oth w (show ba ≠ be by omega) i j v
      have iv1 : 0 ≤ E ∧ E ≤ 1000 := by have := hI.inv.s0; have := hI.inv.sE; have := hI.inv.ek; omega
      have HI : Hid _ := hI
      clear hI
      by_cases k0 : kd = 0
      · subst k0
        obtain ⟨c', s', hS, hI'⟩ := HI.out.inv.fail (by omega)
        have HS : Hid (setR c s = (c', s', 0)) := hS
        have HI2 : Hid _ := hI'
        clear hS hI'
        have HV : Hid (validB c' s' = true) := HI2.out.valid (by omega)
        go_wp2_with (first | (go_at_call 13; refine (set_eq HS.out _).mono ?_; rintro e w1 ⟨rfl, os1, n1, rfl⟩) | (go_at_call 9; refine (valid_eq HV.out _).mono ?_; rintro e w1 ⟨rfl, os1, n1, rfl⟩) | (go_at_call 22; refine (fail_any _ (E := E) (S := S) (K := K) (B := B) (bk := bk) (bb := bb) (by repeat (first | (with_reducible exact HI.out.mem) | (with_reducible refine MemW.wext ?_ _ _) | (with_reducible refine MemW.alloc ?_ _) | (with_reducible refine MemW.drew ?_) | (with_reducible refine MemW.setOther ?_ (by omega) (by omega) (by omega) _))) (by omega) (by omega)).mono ?_; rintro e w1 ⟨rfl, rfl⟩))
        go_roundw
        case rel =>
          exact ⟨k + 1, c', s', E + 1, S, K, B, A, by go_num, by omega, (((step_fail HI.out HPl.out HI2.out).ext ⟨_, _, rfl⟩).ext (by (exact Ext.of_below (by (repeat' (first | (with_reducible exact Below.refl _ _) | (with_reducible assumption) | (with_reducible refine Below.alloc ?_ ?_ _) | (with_reducible refine Below.wext ?_ ?_ _ _) | (with_reducible refine Below.drew ?_) | (with_reducible refine Below.setCell ?_ ?_ _) | (with_reducible exact Nat.le_refl _) | (simp; omega) | (simp; done))))))).ext ⟨_, _, rfl⟩⟩
        case measure => simp [intOf]; omega
      · by_cases k1 : kd = 1
        · subst k1
          obtain ⟨p, hS, hI'⟩ := HI.out.inv.begin (by omega) j
          have HS : Hid (samR c s = (p, 0)) := hS
          have HI2 : Hid _ := hI'
          have HV : Hid (validB c s = true) := HI.out.inv.valid (by omega)
          clear hS hI'
          go_wp2_with (first | (go_at_call 15; refine (sam_eq HS.out _).mono ?_; rintro e w1 ⟨rfl, os1, n1, rfl⟩) | (go_at_call 9; refine (valid_eq HV.out _).mono ?_; rintro e w1 ⟨rfl, os1, n1, rfl⟩) | (go_at_call 23; refine (begin_any _ (E := E) (S := S) (K := K) (B := B) (bk := bk) (bb := bb) (by repeat (first | (with_reducible exact HI.out.mem) | (with_reducible refine MemW.wext ?_ _ _) | (with_reducible refine MemW.alloc ?_ _) | (with_reducible refine MemW.drew ?_) | (with_reducible refine MemW.setOther ?_ (by omega) (by omega) (by omega) _))) j hj).mono ?_; rintro e w1 ⟨rfl, osB, nB, rfl⟩))
          go_roundw
          case rel =>
            exact ⟨k + 1, c, s, E, S, _, _, _, by go_num, by omega, (step_begin HI.out HPl.out HI2.out).ext (by (exact Ext.of_below (by (repeat' (first | (with_reducible exact Below.refl _ _) | (with_reducible assumption) | (with_reducible refine Below.alloc ?_ ?_ _) | (with_reducible refine Below.wext ?_ ?_ _ _) | (with_reducible refine Below.drew ?_) | (with_reducible refine Below.setCell ?_ ?_ _) | (with_reducible exact Nat.le_refl _) | (simp; omega) | (simp; done))))))⟩
          case measure => simp [intOf]; omega
        · by_cases k2 : kd = 2
          · subst k2
            by_cases hB : B j = true
            · rw [hB] at b0
              by_cases hK : K j < E
              · obtain ⟨hS, hI'⟩ := HI.out.inv.told (by omega) j hj hB hK
                have HS : Hid (chkR c s (A j) = (c, true, c, 15)) := hS
                have HI2 : Hid _ := hI'
                have HV : Hid (validB c true = true) := HI2.out.valid (by omega)
                have HK : Hid (K j < E) := hK
                obtain ⟨m, xs, hm, ho⟩ := HI.out.own
                obtain ⟨i0, hi0, hz0, hs0, hy0⟩ := info_parts Try.info_bool
                clear hS hI' hK hB
                have j0 : (0 : Int) ≤ (j : Int) := Int.natCast_nonneg _
                have j1 : (j : Int) < 4 := by omega
                go_wp2_with fail
                go_region_held3 (fun w2 => w2.cell? ⟨be, 0, none⟩ = some (.int .i64 c) ∧ w2.cell? ⟨be, 1, none⟩ = some (.bool s) ∧ w2.cell? ⟨ba, j, none⟩ = some (.int .i64 (A j))) (first | go_keep | (refine ⟨?_, ?_, ?_⟩ <;> simp [go_sem, ze, za, e0, e1, a0])) (first | (go_at_call 17; refine (chk_eq HS.out _).mono ?_; rintro e w1 ⟨rfl, os1, n1, rfl⟩))
                all_goals go_wp2_with (first | (go_at_call 24; refine (ask_told _ (E := E) (S := S) (K := K) (B := B) (bk := bk) (bb := bb) (by repeat (first | (with_reducible exact HI.out.mem) | (with_reducible refine MemW.wext ?_ _ _) | (with_reducible refine MemW.alloc ?_ _) | (with_reducible refine MemW.drew ?_) | (with_reducible refine MemW.setOther ?_ (by omega) (by omega) (by omega) _))) j hj HK.out).mono ?_; rintro e w1 ⟨rfl, osB, nB, rfl⟩) | (go_at_call 9; refine (valid_eq HV.out _).mono ?_; rintro e w1 ⟨rfl, os1, n1, rfl⟩) | (at_builtin; refine wpList_append_own _ rfl _ _ 35 rfl (be + 1) 4 i0 (.bool false) 1 1 Try.underlying35 hi0 hz0 hs0 hy0 rfl (by decide) u7 m xs rfl (by repeat (first | (with_reducible exact ho) | (with_reducible refine World.ownsRow.alloc ?_ _) | (with_reducible refine own_wext ?_ _ _) | (with_reducible refine own_set ?_ (by omega) _ _))) ⟨_, 0, none⟩ 1 1 [.bool true] rfl rfl (cells_new2 _ _ _ _ (by simp)) (by simp [Value.oneCell']) (by unfold maxLen; omega) (by omega) (by simp; have := HI.out.sz; omega) ?_; intro v1 w1 hown1 hgr1 _; have hP := (PlayInv.grown ((step_told HI.out HPl.out HI2.out).ext (by (exact Ext.of_below (by (repeat' (first | (with_reducible exact Below.refl _ _) | (with_reducible assumption) | (with_reducible refine Below.alloc ?_ ?_ _) | (with_reducible refine Below.wext ?_ ?_ _ _) | (with_reducible refine Below.drew ?_) | (with_reducible refine Below.setCell ?_ ?_ _) | (with_reducible exact Nat.le_refl _) | (simp; omega) | (simp; done))))))) HPl.out hgr1 (fun x hx => (((by repeat (first | (with_reducible exact ho) | (with_reducible refine World.ownsRow.alloc ?_ _) | (with_reducible refine own_wext ?_ _ _) | (with_reducible refine own_set ?_ (by omega) _ _))) : World.ownsRow _ (be + 1) 4 1 u7 m xs).lt x hx).1) (by omega) hown1); have HP : Hid _ := hP; have g0 : w1.cell? ⟨be, 0, none⟩ = some (.int .i64 c) := hP.re.cell (by omega); have g1 : w1.cell? ⟨be, 1, none⟩ = some (.bool true) := hP.re.cell (by omega); clear hP hgr1 hown1))
                all_goals go_roundw
                case rel => exact ⟨k + 1, c, true, E, E, _, _, _, by go_num, by omega, HP.out.ext (by (exact Ext.of_below (by (repeat' (first | (with_reducible exact Below.refl _ _) | (with_reducible assumption) | (with_reducible refine Below.alloc ?_ ?_ _) | (with_reducible refine Below.wext ?_ ?_ _ _) | (with_reducible refine Below.drew ?_) | (with_reducible refine Below.setCell ?_ ?_ _) | (with_reducible exact Nat.le_refl _) | (simp; omega) | (simp; done))))))⟩
                case measure => simp [intOf]; omega
                case rel => exact ⟨k + 1, c, true, E, E, _, _, _, by go_num, by omega, HP.out.ext (by (exact Ext.of_below (by (repeat' (first | (with_reducible exact Below.refl _ _) | (with_reducible assumption) | (with_reducible refine Below.alloc ?_ ?_ _) | (with_reducible refine Below.wext ?_ ?_ _ _) | (with_reducible refine Below.drew ?_) | (with_reducible refine Below.setCell ?_ ?_ _) | (with_reducible exact Nat.le_refl _) | (simp; omega) | (simp; done))))))⟩
                case measure => simp [intOf]; omega
              · obtain ⟨hS, hI'⟩ := HI.out.inv.none (by omega) j hj hB hK
                have HS : Hid (chkR c s (A j) = (c, s, A j, 0)) := hS
                have HI2 : Hid _ := hI'
                have HV : Hid (validB c s = true) := HI2.out.valid (by omega)
                have HK : Hid (E ≤ K j) := Int.not_lt.1 hK
                obtain ⟨m, xs, hm, ho⟩ := HI.out.own
                obtain ⟨i0, hi0, hz0, hs0, hy0⟩ := info_parts Try.info_bool
                clear hS hI' hK hB
                have j0 : (0 : Int) ≤ (j : Int) := Int.natCast_nonneg _
                have j1 : (j : Int) < 4 := by omega
                go_wp2_with fail
                go_region_held3 (fun w2 => w2.cell? ⟨be, 0, none⟩ = some (.int .i64 c) ∧ w2.cell? ⟨be, 1, none⟩ = some (.bool s) ∧ w2.cell? ⟨ba, j, none⟩ = some (.int .i64 (A j))) (first | go_keep | (refine ⟨?_, ?_, ?_⟩ <;> simp [go_sem, ze, za, e0, e1, a0])) (first | (go_at_call 17; refine (chk_eq HS.out _).mono ?_; rintro e w1 ⟨rfl, os1, n1, rfl⟩))
                all_goals go_wp2_with (first | (go_at_call 24; refine (ask_none _ (E := E) (S := S) (K := K) (B := B) (bk := bk) (bb := bb) (by repeat (first | (with_reducible exact HI.out.mem) | (with_reducible refine MemW.wext ?_ _ _) | (with_reducible refine MemW.alloc ?_ _) | (with_reducible refine MemW.drew ?_) | (with_reducible refine MemW.setOther ?_ (by omega) (by omega) (by omega) _))) j hj HK.out).mono ?_; rintro e w1 ⟨rfl, osB, nB, rfl⟩) | (go_at_call 9; refine (valid_eq HV.out _).mono ?_; rintro e w1 ⟨rfl, os1, n1, rfl⟩) | (at_builtin; refine wpList_append_own _ rfl _ _ 35 rfl (be + 1) 4 i0 (.bool false) 1 1 Try.underlying35 hi0 hz0 hs0 hy0 rfl (by decide) u7 m xs rfl (by repeat (first | (with_reducible exact ho) | (with_reducible refine World.ownsRow.alloc ?_ _) | (with_reducible refine own_wext ?_ _ _) | (with_reducible refine own_set ?_ (by omega) _ _))) ⟨_, 0, none⟩ 1 1 [.bool false] rfl rfl (cells_new2 _ _ _ _ (by simp)) (by simp [Value.oneCell']) (by unfold maxLen; omega) (by omega) (by simp; have := HI.out.sz; omega) ?_; intro v1 w1 hown1 hgr1 _; have hP := (PlayInv.grown ((step_quiet HI.out HPl.out HI2.out).ext (by (exact Ext.of_below (by (repeat' (first | (with_reducible exact Below.refl _ _) | (with_reducible assumption) | (with_reducible refine Below.alloc ?_ ?_ _) | (with_reducible refine Below.wext ?_ ?_ _ _) | (with_reducible refine Below.drew ?_) | (with_reducible refine Below.setCell ?_ ?_ _) | (with_reducible exact Nat.le_refl _) | (simp; omega) | (simp; done))))))) HPl.out hgr1 (fun x hx => (((by repeat (first | (with_reducible exact ho) | (with_reducible refine World.ownsRow.alloc ?_ _) | (with_reducible refine own_wext ?_ _ _) | (with_reducible refine own_set ?_ (by omega) _ _))) : World.ownsRow _ (be + 1) 4 1 u7 m xs).lt x hx).1) (by omega) hown1); have HP : Hid _ := hP; have g0 : w1.cell? ⟨be, 0, none⟩ = some (.int .i64 c) := hP.re.cell (by omega); have g1 : w1.cell? ⟨be, 1, none⟩ = some (.bool s) := hP.re.cell (by omega); clear hP hgr1 hown1))
                all_goals go_roundw
                case rel => exact ⟨k + 1, c, s, E, S, _, _, _, by go_num, by omega, HP.out.ext (by (exact Ext.of_below (by (repeat' (first | (with_reducible exact Below.refl _ _) | (with_reducible assumption) | (with_reducible refine Below.alloc ?_ ?_ _) | (with_reducible refine Below.wext ?_ ?_ _ _) | (with_reducible refine Below.drew ?_) | (with_reducible refine Below.setCell ?_ ?_ _) | (with_reducible exact Nat.le_refl _) | (simp; omega) | (simp; done))))))⟩
                case measure => simp [intOf]; omega
                case rel => exact ⟨k + 1, c, s, E, S, _, _, _, by go_num, by omega, HP.out.ext (by (exact Ext.of_below (by (repeat' (first | (with_reducible exact Below.refl _ _) | (with_reducible assumption) | (with_reducible refine Below.alloc ?_ ?_ _) | (with_reducible refine Below.wext ?_ ?_ _ _) | (with_reducible refine Below.drew ?_) | (with_reducible refine Below.setCell ?_ ?_ _) | (with_reducible exact Nat.le_refl _) | (simp; omega) | (simp; done))))))⟩
                case measure => simp [intOf]; omega
            · have hB' : B j = false := by simpa using hB
              rw [hB'] at b0
              clear hB hB'
              go_wp2_with fail
              go_roundw
              case rel => exact ⟨k + 1, c, s, E, S, K, B, A, by go_num, by omega, (step_skip HI.out).ext (by (exact Ext.of_below (by (repeat' (first | (with_reducible exact Below.refl _ _) | (with_reducible assumption) | (with_reducible refine Below.alloc ?_ ?_ _) | (with_reducible refine Below.wext ?_ ?_ _ _) | (with_reducible refine Below.drew ?_) | (with_reducible refine Below.setCell ?_ ?_ _) | (with_reducible exact Nat.le_refl _) | (simp; omega) | (simp; done))))))⟩
              case measure => simp [intOf]; omega
          · have HV : Hid (validB c s = true) := HI.out.inv.valid (by omega)
            have kb0 : (kd == 0) = false := by simp [k0]
            have kb1 : (kd == 1) = false := by simp [k1]
            have kb2 : (kd == 2) = false := by simp [k2]
            clear k0 k1 k2
            go_wp2_with (first | (go_at_call 9; refine (valid_eq HV.out _).mono ?_; rintro e w1 ⟨rfl, os1, n1, rfl⟩))
            go_roundw
            case rel => exact ⟨k + 1, c, s, E, S, K, B, A, by go_num, by omega, (step_skip HI.out).ext (by (exact Ext.of_below (by (repeat' (first | (with_reducible exact Below.refl _ _) | (with_reducible assumption) | (with_reducible refine Below.alloc ?_ ?_ _) | (with_reducible refine Below.wext ?_ ?_ _ _) | (with_reducible refine Below.drew ?_) | (with_reducible refine Below.setCell ?_ ?_ _) | (with_reducible exact Nat.le_refl _) | (simp; omega) | (simp; done))))))⟩
            case measure => simp [intOf]; omega
    · have HI : Hid _ := hI
      clear hI
      go_wp2_with fail
      go_returns
      exact ⟨_, rfl, Ext.of_below HI.out.old⟩

set_option maxRecDepth 100000 in
set_option maxHeartbeats 1000000 in
theorem play_nil (a : Option Addr) (cap : Nat) (w : World) :
    Calls Try.prog 19 #[.slice a 0 cap] w (playPost w) := by
  go_enter Try.func19, Try.ntmps19
  go_wp2_with (first | (go_at_call 11; refine (new_any _).mono ?_; rintro e w1 ⟨rfl, os1, n1, rfl⟩) | (go_at_call 21; refine (start_any _).mono ?_; intro e w1 hst; obtain ⟨bw, bk, bb, rfl, hm, g1, g2, g3, osS, nS, rfl⟩ := hst))
  refine wp_loop_rounds 1 ?_
  rw [rounds_succ]
  go_wp2_with fail
  go_returns
  exact ⟨_, rfl, by (exact Ext.of_below (by (repeat' (first | (with_reducible exact Below.refl _ _) | (with_reducible assumption) | (with_reducible refine Below.alloc ?_ ?_ _) | (with_reducible refine Below.wext ?_ ?_ _ _) | (with_reducible refine Below.drew ?_) | (with_reducible refine Below.setCell ?_ ?_ _) | (with_reducible exact Nat.le_refl _) | (simp; omega) | (simp; done)))))⟩

/-- The events as they lie in memory. -/
def opL : List (Int × Int) → List Value
  | [] => []
  | x :: l => .int .i64 x.1 :: .int .i64 x.2 :: opL l
theorem opL_get : ∀ (l : List (Int × Int)) (k : Nat) (h : k < l.length), (opL l)[k * 2]? = some (.int .i64 (l[k]).1) ∧ (opL l)[k * 2 + 1]? = some (.int .i64 (l[k]).2)
  | x :: l, 0, _ => ⟨rfl, rfl⟩
  | x :: l, k + 1, h => by
    have e1 : (k + 1) * 2 = k * 2 + 1 + 1 := by omega
    rw [e1]
    exact opL_get l k (by simpa using h)
end Go.Proofs.Ytdghgkajjhcbkaa
