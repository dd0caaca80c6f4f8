/- Rangetree: the reference: listed. -/
import Derived.Test.YtnbohogkfdeddaaRui
import Derived.Test.YtnbohogkfdeddaaRue
set_option linter.unusedSimpArgs false
set_option linter.unusedVariables false
namespace Go.Proofs.Ytnbohogkfdeddaa
open Go.RowKit

theorem bldF_2 : ∀ (l : List RV) (p q : PT) (last : Int), (bldF p last l).2 = (bldF q last l).2
  | [], p, q, last => rfl
  | x :: l, p, q, last => by
    unfold bldF
    split
    · rfl
    · exact bldF_2 l _ _ _

set_option maxRecDepth 100000 in
set_option maxHeartbeats 4000000 in
theorem rlisted_any (l : List RV) (s : Value) (w : World) (hs : isSl w s 6 l.length (rF l)) (hlen : l.length ≤ 1000) :
    Calls Try.prog 32 #[s] w fun e w' => e = .returned (.int .i64 (BuildF l).2) ∧ Ext w w' := by
  obtain ⟨ad, c, rfl⟩ := sl_shape hs
  have HS : Hid (isSl w (.slice ad l.length c) 6 l.length (rF l)) := hs
  clear hs
  go_enter Try.func32, Try.ntmps32
  go_upto_region 1 with fail
  refine name_wX (fun W1 hW => ?_)
  have hE : Ext w W1 := by rw [hW]; exact Ext.refl w
  clear hW
  go_upto_region 2 with fail
  go_loopw [3] (fun vi wr => ∃ k : Nat, vi = .int .i64 k ∧ k ≤ l.length ∧ (∀ x ∈ l.take k, vld x) ∧ Ext w wr) (fun vi _ => l.length - (intOf vi).toNat)
  case atStart => exact ⟨0, rfl, by omega, by simp, hE⟩
  case round =>
    clear hE
    obtain ⟨k, rfl, hk, hv, hE⟩ := hrel
    obtain ⟨W0, rfl⟩ : ∃ W0, W0 = wr := ⟨_, rfl⟩
    by_cases hlt : k < l.length
    · obtain ⟨b, o, rfl, hc1, hc2, hbw0, hra⟩ := sl_at HS.out hlt
      have hbw : b < W0.heap.size := Nat.lt_of_lt_of_le hbw0 hE.below.size
      replace hra := rangeAt.ext hra hbw0 hE
      cases hcv : vldB l[k] with
      | false =>
        go_upto_region 4 with fail
        refine wp_region_lit ?_
        iterate 3 (refine wpList_plain rfl (fun K hK => ?_); go_simp; (try dsimp only); refine hK _ _ ?_; clear hK K; (try simp only [Act.put, Zs, Zz, Zc]))
        refine wpList_plain rfl (fun K hK => ?_); (first | (refine wp_ld 25 _ (hra) (by rfl) (by rfl) Try.underlying25 rfl (by exact Try.infoR) ?_)); (try dsimp only); refine hK _ _ ?_; clear hK K; (try simp only [Act.put, Zs, Zz, Zc])
        refine wpList_plain rfl (fun K hK => ?_); go_simp; (go_at_call 38; refine (rvalid_is _ _ false hcv).mono ?_; intro e W101 hpp; obtain ⟨rfl, hx⟩ := hpp); (try dsimp only); refine hK _ _ ?_; clear hK K; (try simp only [Act.put, Zs, Zz, Zc])
        replace hra := rangeAt.ext hra hbw hx
        replace hbw := Nat.lt_of_lt_of_le hbw hx.below.size
        replace hE := hE.trans hx
        clear hx
        refine wpList_plain rfl (fun K hK => ?_); go_simp; (try dsimp only); refine hK _ _ ?_; clear hK K; (try simp only [Act.put, Zs, Zz, Zc])
        refine wpList_nil ?_
        go_upto_region 5 with fail
        refine wp_region_lit ?_
        refine wpList_plain rfl (fun K hK => ?_); go_simp; (try dsimp only); refine hK _ _ ?_; clear hK K; (try simp only [Act.put, Zs, Zz, Zc])
        refine wpList_nil ?_
        have hF : BuildF l = (.E, 2) := by
          unfold BuildF
          rw [if_neg]
          intro h
          have := List.all_eq_true.1 h l[k] (List.getElem_mem hlt)
          rw [hcv] at this
          cases this
        go_wp2_with fail
        go_ret
        exact ⟨by rw [hF]; rfl, hE⟩
      | true =>
        go_upto_region 4 with fail
        refine wp_region_lit ?_
        iterate 3 (refine wpList_plain rfl (fun K hK => ?_); go_simp; (try dsimp only); refine hK _ _ ?_; clear hK K; (try simp only [Act.put, Zs, Zz, Zc]))
        refine wpList_plain rfl (fun K hK => ?_); (first | (refine wp_ld 25 _ (hra) (by rfl) (by rfl) Try.underlying25 rfl (by exact Try.infoR) ?_)); (try dsimp only); refine hK _ _ ?_; clear hK K; (try simp only [Act.put, Zs, Zz, Zc])
        refine wpList_plain rfl (fun K hK => ?_); go_simp; (go_at_call 38; refine (rvalid_is _ _ true hcv).mono ?_; intro e W201 hpp; obtain ⟨rfl, hx⟩ := hpp); (try dsimp only); refine hK _ _ ?_; clear hK K; (try simp only [Act.put, Zs, Zz, Zc])
        replace hra := rangeAt.ext hra hbw hx
        replace hbw := Nat.lt_of_lt_of_le hbw hx.below.size
        replace hE := hE.trans hx
        clear hx
        refine wpList_plain rfl (fun K hK => ?_); go_simp; (try dsimp only); refine hK _ _ ?_; clear hK K; (try simp only [Act.put, Zs, Zz, Zc])
        refine wpList_nil ?_
        go_upto_region 3 with fail
        refine wp_region_lit ?_
        refine wpList_plain rfl (fun K hK => ?_); go_simp; (try dsimp only); refine hK _ _ ?_; clear hK K; (try simp only [Act.put, Zs, Zz, Zc])
        refine wpList_plain rfl (fun K hK => ?_); go_simp; (try simp (disch := omega) only [Yq, Yr]); (try dsimp only); refine hK _ _ ?_; clear hK K; (try simp only [Act.put, Zs, Zz, Zc])
        refine wpList_plain rfl (fun K hK => ?_); go_simp; (try dsimp only); refine hK _ _ ?_; clear hK K; (try simp only [Act.put, Zs, Zz, Zc])
        refine wpList_nil ?_
        go_wp2_with fail
        go_roundw
        case rel =>
          refine ⟨k + 1, by go_num, by omega, ?_, hE⟩
          intro x hx
          rw [List.take_succ_eq_append_getElem hlt] at hx
          rcases List.mem_append.1 hx with h | h
          · exact hv x h
          · rw [List.mem_singleton.1 h]; exact (vldB_iff _).1 hcv
        case measure => simp [intOf]; omega
    · have hva : ∀ x ∈ l, vld x := fun x hx => hv x (by rw [List.take_of_length_le (by omega)]; exact hx)
      have hF : BuildF l = bldF .E 0 l := by
        unfold BuildF
        rw [if_pos]
        exact List.all_eq_true.2 (fun x hx => (vldB_iff x).2 (hva x hx))
      have h0 : 0 < l.length → ∃ q, bldF .E 0 l = bldF q (l.getD 0 RV.z).e (l.drop 1) := by
        intro h
        cases l with
        | nil => simp at h
        | cons y l =>
          have hy := hva y (by simp)
          refine ⟨insP .E y, ?_⟩
          rw [bldF, if_neg (by have := hy.1; omega)]
          rfl
      replace hva : Hid _ := hva
      clear hv
      replace hF : Hid _ := hF
      replace h0 : Hid _ := h0
      go_upto_region 6 with fail
      refine wp_region_lit ?_
      refine wpList_plain rfl (fun K hK => ?_); go_simp; (try dsimp only); refine hK _ _ ?_; clear hK K; (try simp only [Act.put, Zs, Zz, Zc])
      refine wpList_nil ?_
      go_upto_region 7 with fail
      go_loopw [4] (fun vi wr => ∃ j : Nat, vi = .int .i64 ((j : Int) + 1) ∧ (0 < l.length → j < l.length ∧ ∃ q, bldF .E 0 l = bldF q (l.getD j RV.z).e (l.drop (j + 1))) ∧ (l.length = 0 → j = 0) ∧ Ext w wr) (fun vi _ => l.length + 1 - (intOf vi).toNat)
      case atStart => exact ⟨0, rfl, fun h => ⟨h, h0.out h⟩, fun _ => rfl, hE⟩
      case round =>
        clear hE
        obtain ⟨j, rfl, hj, hj0, hE⟩ := hrel
        obtain ⟨W0, rfl⟩ : ∃ W0, W0 = wr := ⟨_, rfl⟩
        replace hj : Hid _ := hj
        by_cases hlt : j + 1 < l.length
        · obtain ⟨b, o, rfl, hc1, hc2, hbw0, hra⟩ := sl_at HS.out (show j < l.length by omega)
          obtain ⟨b', o', hbo, _, _, _, hrb⟩ := sl_at HS.out hlt
          cases hbo
          have hbw : b < W0.heap.size := Nat.lt_of_lt_of_le hbw0 hE.below.size
          replace hra := rangeAt.ext hra hbw0 hE
          replace hrb := rangeAt.ext hrb hbw0 hE
          have cw : W0.cell? ⟨b, o + (j + 1) * 6, none⟩ = some (.int .i64 (l[j + 1]).s) := hrb 0 _ rfl
          have hgd : l.getD j RV.z = l[j] := by simp [List.getD_eq_getElem?_getD, List.getElem?_eq_getElem (show j < l.length by omega)]
          have hvj := hva.out _ (List.getElem_mem (show j < l.length by omega))
          obtain ⟨q, hq⟩ := (hj.out (by omega)).2
          rw [hgd, List.drop_eq_getElem_cons hlt, bldF] at hq
          replace hq : Hid _ := hq
          have hy1 := hbw
          have y1 := hra
          have hjp : (0 : Int) ≤ (j : Int) + 1 := by omega
          have hjl : j < l.length := by omega
          clear hrb hgd
          by_cases hcs : (l[j + 1]).s < (l[j]).e
          · have hcb : decide ((l[j + 1]).s < (l[j]).e) = true := decide_eq_true hcs
            go_upto_region 9 with fail
            have hS : GrownX W0 [] W0 := GrownX.refl _ _
            refine wp_region_S (GrownX W0 []) (by kernel_rfl) ?_
            refine name_wd (fun W401 hW => ?_)
            have hx : Ext W0 W401 := by rw [hW]; exact ext_drew _
            clear hW
            replace hS := hS.ext hx
            replace hra := rangeAt.ext hra hbw hx
            replace hbw := Nat.lt_of_lt_of_le hbw hx.below.size
            replace hE := hE.trans hx
            clear hx
            refine wpAnyD_takeSL (i := 0) rfl (by kernel_rfl) (fun _ _ _ _ h => h) hS ?_
            apply Exists.intro
            refine ⟨Or.inl ⟨by rfl, ?_⟩, ?_⟩
            (focus (intro wz hz; go_simp; (try with_reducible rfl); done))
            (try simp only [Act.put, Zs, Zz, Zc])
            refine wpAnyD_takeSL (i := 1) rfl (by kernel_rfl) (fun _ _ _ _ h => h) hS ?_
            apply Exists.intro
            refine ⟨Or.inl ⟨by rfl, ?_⟩, ?_⟩
            (focus (intro wz hz; go_simp; (try with_reducible rfl); done))
            (try simp only [Act.put, Zs, Zz, Zc])
            refine wpAnyD_takeSL (i := 2) rfl (by kernel_rfl) (fun _ _ _ _ h => h) hS ?_
            apply Exists.intro
            refine ⟨Or.inl ⟨by rfl, ?_⟩, ?_⟩
            (focus (intro wz hz; go_simp; (try with_reducible rfl); done))
            (try simp only [Act.put, Zs, Zz, Zc])
            refine wpAnyD_takeSL (i := 3) rfl (by kernel_rfl) (fun _ _ _ _ h => h) hS ?_
            apply Exists.intro
            refine ⟨Or.inl ⟨by rfl, ?_⟩, ?_⟩
            (focus (intro wz hz; go_simp; (try with_reducible rfl); done))
            (try simp only [Act.put, Zs, Zz, Zc])
            refine wpAnyD_takeSL (i := 4) rfl (by kernel_rfl) (fun _ _ _ _ h => h) hS ?_
            apply Exists.intro
            refine ⟨Or.inl ⟨by rfl, ?_⟩, ?_⟩
            (focus (intro wz hz; have zc0 := GrownX.cell hz cw hy1 (by first | decide | (simp; done) | (simp; omega) | omega); go_simp; (try with_reducible rfl); done))
            (try simp only [Act.put, Zs, Zz, Zc])
            refine wpAnyD_takeSL (i := 5) rfl (by kernel_rfl) (fun _ _ _ _ h => h) hS ?_
            apply Exists.intro
            refine ⟨Or.inl ⟨by rfl, ?_⟩, ?_⟩
            (focus (intro wz hz; go_simp; (try with_reducible rfl); done))
            (try simp only [Act.put, Zs, Zz, Zc])
            refine wpAnyD_takeSL (i := 6) rfl (by kernel_rfl) (fun _ _ _ _ h => h) hS ?_
            apply Exists.intro
            refine ⟨Or.inl ⟨by rfl, ?_⟩, ?_⟩
            (focus (intro wz hz; go_simp; (try with_reducible rfl); done))
            (try simp only [Act.put, Zs, Zz, Zc])
            refine wpAnyD_takeSL (i := 7) rfl (by kernel_rfl) (fun _ _ _ _ h => h) hS ?_
            apply Exists.intro
            refine ⟨Or.inl ⟨by rfl, ?_⟩, ?_⟩
            (focus (intro wz hz; go_simp; (try simp (disch := omega) only [Yq, Yr]); (try simp only [hcb]); (try with_reducible rfl); done))
            (try simp only [Act.put, Zs, Zz, Zc])
            refine wpAnyD_takeSL (i := 8) rfl (by kernel_rfl) (fun _ _ _ _ h => h) hS ?_
            apply Exists.intro
            refine ⟨Or.inl ⟨by rfl, ?_⟩, ?_⟩
            (focus (intro wz hz; go_simp; (try with_reducible rfl); done))
            (try simp only [Act.put, Zs, Zz, Zc])
            refine wpAnyD_takeSL (i := 9) rfl (by kernel_rfl) (fun _ _ _ _ h => h) hS ?_
            apply Exists.intro
            refine ⟨Or.inl ⟨by rfl, ?_⟩, ?_⟩
            (focus (intro wz hz; (first | exact exec_ld 25 _ rfl rfl (GrownX.range hz (y1) (hy1) (by first | decide | (simp; done) | (simp; omega) | omega)) Try.underlying25 rfl (by exact Try.infoR))))
            (try simp only [Act.put, Zs, Zz, Zc])
            refine wpAnyD_oneL (i := 10) rfl (by kernel_rfl) (fun K hK => ?_)
            rw [if_pos (by rfl)]
            go_simp
            (go_at_call 54; refine (rend_any _ _ hvj).mono ?_; intro e W402 hpp; obtain ⟨rfl, hx⟩ := hpp)
            replace hS := hS.ext hx; (try dsimp only); refine hK.out _ _ (fun _ => hS) ?_; clear hK K; (try simp only [Act.put, Zs, Zz, Zc])
            replace hra := rangeAt.ext hra hbw hx
            replace hbw := Nat.lt_of_lt_of_le hbw hx.below.size
            replace hE := hE.trans hx
            clear hx
            refine wpAnyD_takeSL (i := 11) rfl (by kernel_rfl) (fun _ _ _ _ h => h) hS ?_
            apply Exists.intro
            refine ⟨Or.inl ⟨by rfl, ?_⟩, ?_⟩
            (focus (intro wz hz; go_simp; (try simp (disch := omega) only [Yq, Yr]); (try simp only [hcb]); (try with_reducible rfl); done))
            (try simp only [Act.put, Zs, Zz, Zc])
            refine wpAnyD_done (by kernel_rfl) ?_ _
            clear hS 
            go_upto_region 10 with fail
            refine wp_region_lit ?_
            refine wpList_plain rfl (fun K hK => ?_); go_simp; (try dsimp only); refine hK _ _ ?_; clear hK K; (try simp only [Act.put, Zs, Zz, Zc])
            refine wpList_nil ?_
            go_wp2_with fail
            go_ret
            exact ⟨by rw [hF.out, hq.out, if_pos hcs]; rfl, hE⟩
          · have hcb : decide ((l[j + 1]).s < (l[j]).e) = false := decide_eq_false hcs
            go_upto_region 9 with fail
            have hS : GrownX W0 [] W0 := GrownX.refl _ _
            refine wp_region_S (GrownX W0 []) (by kernel_rfl) ?_
            refine name_wd (fun W501 hW => ?_)
            have hx : Ext W0 W501 := by rw [hW]; exact ext_drew _
            clear hW
            replace hS := hS.ext hx
            replace hra := rangeAt.ext hra hbw hx
            replace hbw := Nat.lt_of_lt_of_le hbw hx.below.size
            replace hE := hE.trans hx
            clear hx
            refine wpAnyD_takeSL (i := 0) rfl (by kernel_rfl) (fun _ _ _ _ h => h) hS ?_
            apply Exists.intro
            refine ⟨Or.inl ⟨by rfl, ?_⟩, ?_⟩
            (focus (intro wz hz; go_simp; (try with_reducible rfl); done))
            (try simp only [Act.put, Zs, Zz, Zc])
            refine wpAnyD_takeSL (i := 1) rfl (by kernel_rfl) (fun _ _ _ _ h => h) hS ?_
            apply Exists.intro
            refine ⟨Or.inl ⟨by rfl, ?_⟩, ?_⟩
            (focus (intro wz hz; go_simp; (try with_reducible rfl); done))
            (try simp only [Act.put, Zs, Zz, Zc])
            refine wpAnyD_takeSL (i := 2) rfl (by kernel_rfl) (fun _ _ _ _ h => h) hS ?_
            apply Exists.intro
            refine ⟨Or.inl ⟨by rfl, ?_⟩, ?_⟩
            (focus (intro wz hz; go_simp; (try with_reducible rfl); done))
            (try simp only [Act.put, Zs, Zz, Zc])
            refine wpAnyD_takeSL (i := 3) rfl (by kernel_rfl) (fun _ _ _ _ h => h) hS ?_
            apply Exists.intro
            refine ⟨Or.inl ⟨by rfl, ?_⟩, ?_⟩
            (focus (intro wz hz; go_simp; (try with_reducible rfl); done))
            (try simp only [Act.put, Zs, Zz, Zc])
            refine wpAnyD_takeSL (i := 4) rfl (by kernel_rfl) (fun _ _ _ _ h => h) hS ?_
            apply Exists.intro
            refine ⟨Or.inl ⟨by rfl, ?_⟩, ?_⟩
            (focus (intro wz hz; have zc0 := GrownX.cell hz cw hy1 (by first | decide | (simp; done) | (simp; omega) | omega); go_simp; (try with_reducible rfl); done))
            (try simp only [Act.put, Zs, Zz, Zc])
            refine wpAnyD_takeSL (i := 5) rfl (by kernel_rfl) (fun _ _ _ _ h => h) hS ?_
            apply Exists.intro
            refine ⟨Or.inl ⟨by rfl, ?_⟩, ?_⟩
            (focus (intro wz hz; go_simp; (try with_reducible rfl); done))
            (try simp only [Act.put, Zs, Zz, Zc])
            refine wpAnyD_takeSL (i := 6) rfl (by kernel_rfl) (fun _ _ _ _ h => h) hS ?_
            apply Exists.intro
            refine ⟨Or.inl ⟨by rfl, ?_⟩, ?_⟩
            (focus (intro wz hz; go_simp; (try with_reducible rfl); done))
            (try simp only [Act.put, Zs, Zz, Zc])
            refine wpAnyD_takeSL (i := 7) rfl (by kernel_rfl) (fun _ _ _ _ h => h) hS ?_
            apply Exists.intro
            refine ⟨Or.inl ⟨by rfl, ?_⟩, ?_⟩
            (focus (intro wz hz; go_simp; (try simp (disch := omega) only [Yq, Yr]); (try simp only [hcb]); (try with_reducible rfl); done))
            (try simp only [Act.put, Zs, Zz, Zc])
            refine wpAnyD_takeSL (i := 8) rfl (by kernel_rfl) (fun _ _ _ _ h => h) hS ?_
            apply Exists.intro
            refine ⟨Or.inl ⟨by rfl, ?_⟩, ?_⟩
            (focus (intro wz hz; go_simp; (try with_reducible rfl); done))
            (try simp only [Act.put, Zs, Zz, Zc])
            refine wpAnyD_takeSL (i := 9) rfl (by kernel_rfl) (fun _ _ _ _ h => h) hS ?_
            apply Exists.intro
            refine ⟨Or.inl ⟨by rfl, ?_⟩, ?_⟩
            (focus (intro wz hz; (first | exact exec_ld 25 _ rfl rfl (GrownX.range hz (y1) (hy1) (by first | decide | (simp; done) | (simp; omega) | omega)) Try.underlying25 rfl (by exact Try.infoR))))
            (try simp only [Act.put, Zs, Zz, Zc])
            refine wpAnyD_oneL (i := 10) rfl (by kernel_rfl) (fun K hK => ?_)
            rw [if_pos (by rfl)]
            go_simp
            (go_at_call 54; refine (rend_any _ _ hvj).mono ?_; intro e W502 hpp; obtain ⟨rfl, hx⟩ := hpp)
            replace hS := hS.ext hx; (try dsimp only); refine hK.out _ _ (fun _ => hS) ?_; clear hK K; (try simp only [Act.put, Zs, Zz, Zc])
            replace hra := rangeAt.ext hra hbw hx
            replace hbw := Nat.lt_of_lt_of_le hbw hx.below.size
            replace hE := hE.trans hx
            clear hx
            refine wpAnyD_takeSL (i := 11) rfl (by kernel_rfl) (fun _ _ _ _ h => h) hS ?_
            apply Exists.intro
            refine ⟨Or.inl ⟨by rfl, ?_⟩, ?_⟩
            (focus (intro wz hz; go_simp; (try simp (disch := omega) only [Yq, Yr]); (try simp only [hcb]); (try with_reducible rfl); done))
            (try simp only [Act.put, Zs, Zz, Zc])
            refine wpAnyD_done (by kernel_rfl) ?_ _
            clear hS 
            go_upto_region 8 with fail
            refine wp_region_lit ?_
            refine wpList_plain rfl (fun K hK => ?_); go_simp; (try dsimp only); refine hK _ _ ?_; clear hK K; (try simp only [Act.put, Zs, Zz, Zc])
            refine wpList_plain rfl (fun K hK => ?_); go_simp; (try simp (disch := omega) only [Yq, Yr]); (try dsimp only); refine hK _ _ ?_; clear hK K; (try simp only [Act.put, Zs, Zz, Zc])
            refine wpList_plain rfl (fun K hK => ?_); go_simp; (try dsimp only); refine hK _ _ ?_; clear hK K; (try simp only [Act.put, Zs, Zz, Zc])
            refine wpList_nil ?_
            go_wp2_with fail
            go_roundw
            case rel =>
              refine ⟨j + 1, by go_num, fun _ => ⟨hlt, insP q l[j + 1], ?_⟩, fun h => by omega, hE⟩
              rw [hq.out, if_neg hcs]
              simp [List.getD_eq_getElem?_getD, List.getElem?_eq_getElem hlt]
            case measure => simp [intOf]; omega
        · go_upto_region 11 with fail
          refine wp_region_lit ?_
          refine wpList_plain rfl (fun K hK => ?_); go_simp; (try dsimp only); refine hK _ _ ?_; clear hK K; (try simp only [Act.put, Zs, Zz, Zc])
          refine wpList_nil ?_
          go_wp2_with fail
          go_ret
          refine ⟨?_, hE⟩
          have h2 : (bldF .E 0 l).2 = 0 := by
            by_cases h : 0 < l.length
            · obtain ⟨q, hq⟩ := (hj.out h).2
              rw [hq, List.drop_of_length_le (by omega)]
              rfl
            · rw [List.length_eq_zero_iff.1 (show l.length = 0 by omega)]
              rfl
          rw [hF.out, h2]
          rfl

end Go.Proofs.Ytnbohogkfdeddaa
