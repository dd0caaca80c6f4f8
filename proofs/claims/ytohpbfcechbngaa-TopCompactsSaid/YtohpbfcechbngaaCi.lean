/- slices.Clone of ints; Apply. -/
import Derived.Test.YtohpbfcechbngaaCh
import Derived.Test.YtohpbfcechbngaaAvs
set_option linter.unusedSimpArgs false
set_option linter.unusedVariables false
namespace Go.Proofs.Ytohpbfcechbngaa
open Go.RowKit

theorem il_flat_cells (l : List Int) : (il l).flatten.all D.cell = true := il_flat_cell l
def apS (l : List Int) (ms : List (Nat × Nat)) (z : Nat × List Int) : List (Nat × AV) × Bs := ([(21, .d (.s (.int .i64 (z.1 : Nat)))), (20, .d (.s (.int .i64 ms.length))), (19, .d (.l (mvR ms))), (8, .fn 25 [.p 100 0]), (7, .p 100 0), (5, .d (.s (.int .i64 0)))], [(100, some (24, [.o 102 (il z.2).length])), (102, some (3, (il z.2).flatten.map .d))])
attribute [local irreducible] Wp WL WO fin finB rnd Exit.then Exit.inBlock G GD LT Rd Fn FnB FvB Iter
attribute [local go_sem] iD
theorem clone_I (l : List Int) (hl : l.length ≤ 1000) (hne : l ≠ []) : FnB Try.prog CT 24 [.d (.l (il l))] [(101, none)] (.o 101 (il l).length) [(101, some (3, (il l).flatten.map .d))] := by
  have hl2 : (0 : Nat) + (il l).length ≤ 100000 := by rw [il_len]; omega
  have hne2 : il l ≠ [] := fun e => hne (List.map_eq_nil_iff.1 e)
  refine FnB.of (ks := []) CT.c Try.func24 Try.ntmps24 rfl (by kernel_rfl) (fun w o m E0 hCX => ?_) (hks := kns_eq (l := [101]) rfl (by decide)); (try dsimp only [Is])
  (repeat (first | (show G _ _ _ _ (WL _ _ _ _ (⟨some _, .buildSlice _ 0 _, _, _, _, none⟩ :: _)); refine G.w2 ?_ (by first | exact LT.bs0 | fail)) | (show G _ _ _ _ (WL _ _ _ _ (⟨some _, .binOp .eql _ _ _ _, _, _, _, none⟩ :: _)); refine G.w1 ?_ (by first | exact LT.eqN hne2 | fail)) | (show G _ _ _ _ (WL _ _ _ _ (⟨some _, .binOp .eql _ _ _ _, _, _, _, some _⟩ :: _)); refine G.gC ?_ (by first | (refine gi ?_; intros; exact LT.eqN hne2) | fail) rfl rfl) | (show GD _ _ _ _ _ _ _ _ _ _ (⟨some _, .binOp .eql _ _ _ _, _, _, _, none⟩ :: _); refine GD.w1 ?_ (by first | exact LT.eqN hne2 | fail)) | (show GD _ _ _ _ _ _ _ _ _ _ (⟨some _, .binOp .eql _ _ _ _, _, _, _, some _⟩ :: _); refine GD.gC ?_ (by first | (refine gi ?_; intros; exact LT.eqN hne2) | fail) rfl rfl) | (show G _ _ _ _ (WL _ _ _ _ (⟨some _, .call _, _, _, _, none⟩ :: _)); refine G.w3 ?_ (by first | exact LT.ap (il_row l) (il_flat_cell l) hl2 | fail)) | (show GD _ _ _ _ _ _ _ _ _ _ (⟨some _, .call _, _, _, _, none⟩ :: _); refine GD.w3 ?_ (by first | exact LT.ap (il_row l) (il_flat_cell l) hl2 | fail)) | ((repeat (revert hK; revert K)); refine wk ?_; repeat intro K hK) | refine wkg ?_))
  rw [Nat.zero_add]
  refine G.ren (al' := [(2, .o 101 (il l).length)]) (bs' := [(101, some (3, (il l).flatten.map .d))]) [(101, 2)] ?_ (by repeat (first | exact trivial | refine ⟨⟨rfl, rfl⟩, ?_⟩)) (by repeat (first | exact trivial | refine ⟨⟨rfl, rfl, rfl⟩, ?_⟩ | refine ⟨⟨rfl, by rw [renL_d]; rfl, kbL_d _ _⟩, ?_⟩ | refine ⟨rfl, ?_⟩)) (by decide) (by rfl)
  refine G.finB1 rfl rfl (by rfl) (by first | ((repeat (first | exact trivial | refine ⟨.inl rfl, ?_⟩ | refine ⟨.inr rfl, ?_⟩)); done) | fail) (by first | exact Is.cl (hcl _) | exact Is.cl6 (hcl _) | ((repeat (first | exact trivial | refine ⟨ClE.some rfl, ?_⟩ | (with_reducible refine ClB.d ?_) | (with_reducible refine ⟨ClE.some (numsL_d _ _), ?_⟩) | refine ⟨ClE.none, ?_⟩)); done) | fail) (by rfl)
theorem apply1_O (l : List Int) (i : Nat) (hi : i < l.length) : FnB Try.prog CT 25 ([.d (.s (.int .i64 i))] ++ [.p 100 0]) [(100, some (24, [.o 102 (il l).length])), (102, some (3, (il l).flatten.map .d))] (.d (.s (.bool true))) [(100, some (24, [.o 102 (il l).length])), (102, some (3, (il l).flatten.map .d))] := by
  have hlen : ((il l).length : Int) = l.length := by rw [il_len]
  have h1 : decide ((0 : Int) ≤ (i : Int)) = true := by simp
  have h2 : decide ((i : Int) < ((il l).length : Int)) = true := by rw [hlen]; simp; exact hi
  show FnB _ _ _ [.d (.s (.int .i64 i)), .p 100 0] _ _ _
  refine FnB.of (ks := [100, 102]) CT.c Try.func25 Try.ntmps25 rfl (by kernel_rfl) (fun w o m E0 hCX => ?_) (hks := kns_eq (l := [100, 102]) rfl (by decide)); (try dsimp only [Is])
  (repeat (first | ((repeat (revert hK; revert K)); refine wk ?_; repeat intro K hK) | refine wkg ?_))
  refine G.le 3 (x := .s (.bool (decide ((0 : Int) ≤ (i : Int)) && decide ((i : Int) < ((il l).length : Int))))) (.s (.bool true)) (by rw [h1, h2]; exact D.le.refl _) ?_
  refine G.finB1 rfl rfl (by rfl) (by first | ((repeat (first | exact trivial | refine ⟨.inl rfl, ?_⟩ | refine ⟨.inr rfl, ?_⟩)); done) | fail) (by first | exact Is.cl (hcl _) | exact Is.cl6 (hcl _) | ((repeat (first | exact trivial | refine ⟨ClE.some rfl, ?_⟩ | (with_reducible refine ClB.d ?_) | (with_reducible refine ⟨ClE.some (numsL_d _ _), ?_⟩) | refine ⟨ClE.none, ?_⟩)); done) | fail) (by rfl)
set_option maxHeartbeats 4000000 in
theorem apply_F (l g : List Int) (hl : l.length ≤ 64) (hne : l ≠ []) (hc : cOk l) (ms : List (Nat × Nat)) (hm : appF l ms = some g) (hml : ms.length ≤ 64) : Fn Try.prog 11 [.l (il l), .l (mvR ms)] (· = .tup [.l (il g), .s (.int .i64 0)]) := by
  have hlen : ∀ l, ((il l).length : Int) = l.length := fun l => by rw [il_len]
  have hch := ccheck_F l (by omega) hc
  have hcl := clone_I l (by omega) hne
  refine Fn.of Try.func11 Try.ntmps11 rfl (by kernel_rfl) (fun w o => ?_)
  (repeat (first | refine G.cW (hch) ?_ | refine G.cgW (hch) ?_ | refine GD.cW (hch) ?_ | refine GD.cgW (hch) ?_ | (show G _ _ _ _ (WL _ _ _ _ (⟨some _, .call _, _, _, _, none⟩ :: _)); refine G.w2 ?_ (by first | exact LT.cvK (hcl) (by first | ((repeat (first | exact EvL.nil | (apply EvL.cons; exact ⟨_, rfl, by (try (apply Und.gd; assumption; try (apply Und.gd; assumption; try (apply Und.gd; assumption)))); exact Und.refl _⟩))); done) | fail) inferInstance (by simp only [List.length_cons, List.length_nil, Nat.reduceAdd]; rfl) (by rfl) (by (simp only [AV.ren, AV.renL, lk_self, Option.getD_some] <;> rfl)) (by rfl) (by rfl) rfl | fail)) | (show GD _ _ _ _ _ _ _ _ _ _ (⟨some _, .call _, _, _, _, none⟩ :: _); refine GD.w2 ?_ (by first | exact LT.cvK (hcl) (by first | ((repeat (first | exact EvL.nil | (apply EvL.cons; exact ⟨_, rfl, by (try (apply Und.gd; assumption; try (apply Und.gd; assumption; try (apply Und.gd; assumption)))); exact Und.refl _⟩))); done) | fail) inferInstance (by simp only [List.length_cons, List.length_nil, Nat.reduceAdd]; rfl) (by rfl) (by (simp only [AV.ren, AV.renL, lk_self, Option.getD_some] <;> rfl)) (by rfl) (by rfl) rfl | fail)) | ((repeat (revert hK; revert K)); refine wk ?_; repeat intro K hK) | refine wkg ?_))
  have hml2 : ((mvR ms).length : Int) = ms.length := by rw [mvR_len]
  rw [hml2]
  refine G.loop (apS l ms) (fun z => z.1 ≤ ms.length ∧ z.2.length = l.length ∧ appF z.2 (ms.drop z.1) = some g) (fun z => ms.length - z.1) ?_ ?_
  · exact G.at (0, l) [(100, 1), (102, 0)] ⟨Nat.zero_le _, rfl, hm⟩ (by repeat (first | exact trivial | refine ⟨⟨rfl, rfl⟩, ?_⟩)) (by repeat (first | exact trivial | refine ⟨⟨rfl, rfl, rfl⟩, ?_⟩ | refine ⟨⟨rfl, by rw [renL_d]; rfl, kbL_d _ _⟩, ?_⟩ | refine ⟨rfl, ?_⟩)) (by decide)
  · rintro ⟨i, out⟩ ⟨hi, ho, hap⟩
    dsimp only at hi ho hap
    by_cases h : i < ms.length
    · have hr := mvR_get ms i h
      rw [List.drop_eq_getElem_cons h] at hap
      generalize ms[i] = q at hr hap
      obtain ⟨f, t⟩ := q
      dsimp only at hr
      unfold appF at hap
      cases hft : isC out 1 f && isC out 0 t with
      | false => rw [hft] at hap; cases hap
      | true =>
        rw [hft, cond_true] at hap
        rw [Bool.and_eq_true] at hft
        obtain ⟨gf, ef⟩ := isC_iff.1 hft.1
        obtain ⟨gt, et⟩ := isC_iff.1 hft.2
        have hne2 : f ≠ t := fun e => by subst e; rw [ef] at et; cases et
        have hcf := (apply1_O out f gf).v
        have hct := (apply1_O out t gt).v
        have hjf : f < (il out).length := by rw [il_len]; exact gf
        have hjt : t < (il out).length := by rw [il_len]; exact gt
        have hrf : (il out)[f]? = some [iD 1] := by rw [il_get out f gf, ef]
        have hrt : (il out)[t]? = some [iD 0] := by rw [il_get out t gt, et]
        have hrt2 : ((il out).set f ([iD 1].set 0 (.s (.int .i64 0))))[t]? = some [iD 0] := by rw [List.getElem?_set_ne hne2]; exact hrt
        have hm2 : ∀ r ∈ (il out).set f ([iD 1].set 0 (.s (.int .i64 0))), r.length = 1 := fun r hr => by
          rcases List.mem_or_eq_of_mem_set hr with h | rfl
          · exact il_row out r h
          · rfl
        have hil : ((il out).set f ([iD 1].set 0 (.s (.int .i64 0)))).set t ([iD 0].set 0 (.s (.int .i64 1))) = il ((out.set f 0).set t 1) := by rw [il_set, il_set]; rfl
        have hll : (il ((out.set f 0).set t 1)).length = (il out).length := by rw [il_len, il_len, List.length_set, List.length_set]
        dsimp only [apS]
        (repeat (first | (show G _ _ _ _ (WL _ _ _ _ (⟨some _, .indexAddr _ _ _, _, _, _, none⟩ :: _)); refine G.w1 ?_ (by first | exact LT.rd (Rd.ixv i (hr)) rfl | fail)) | (show G _ _ _ _ (WL _ _ _ _ (⟨some _, .indexAddr _ _ _, _, _, _, some _⟩ :: _)); refine G.gC ?_ (by first | (refine gi ?_; intros; exact LT.rd (Rd.ixv i (hr)) rfl) | fail) rfl rfl) | (show GD _ _ _ _ _ _ _ _ _ _ (⟨some _, .indexAddr _ _ _, _, _, _, none⟩ :: _); refine GD.w1 ?_ (by first | exact LT.rd (Rd.ixv i (hr)) rfl | fail)) | (show GD _ _ _ _ _ _ _ _ _ _ (⟨some _, .indexAddr _ _ _, _, _, _, some _⟩ :: _); refine GD.gC ?_ (by first | (refine gi ?_; intros; exact LT.rd (Rd.ixv i (hr)) rfl) | fail) rfl rfl) | (show G _ _ _ _ (WL _ _ _ _ (⟨some _, .indexAddr _ _ _, _, _, _, none⟩ :: _)); refine G.w1 ?_ (by first | exact LT.rd (Rd.ixov f (hjf)) rfl | fail)) | (show G _ _ _ _ (WL _ _ _ _ (⟨some _, .indexAddr _ _ _, _, _, _, some _⟩ :: _)); refine G.gC ?_ (by first | (refine gi ?_; intros; exact LT.rd (Rd.ixov f (hjf)) rfl) | fail) rfl rfl) | (show GD _ _ _ _ _ _ _ _ _ _ (⟨some _, .indexAddr _ _ _, _, _, _, none⟩ :: _); refine GD.w1 ?_ (by first | exact LT.rd (Rd.ixov f (hjf)) rfl | fail)) | (show GD _ _ _ _ _ _ _ _ _ _ (⟨some _, .indexAddr _ _ _, _, _, _, some _⟩ :: _); refine GD.gC ?_ (by first | (refine gi ?_; intros; exact LT.rd (Rd.ixov f (hjf)) rfl) | fail) rfl rfl) | (show G _ _ _ _ (WL _ _ _ _ (⟨some _, .indexAddr _ _ _, _, _, _, none⟩ :: _)); refine G.w1 ?_ (by first | exact LT.rd (Rd.ixov t (hjt)) rfl | fail)) | (show G _ _ _ _ (WL _ _ _ _ (⟨some _, .indexAddr _ _ _, _, _, _, some _⟩ :: _)); refine G.gC ?_ (by first | (refine gi ?_; intros; exact LT.rd (Rd.ixov t (hjt)) rfl) | fail) rfl rfl) | (show GD _ _ _ _ _ _ _ _ _ _ (⟨some _, .indexAddr _ _ _, _, _, _, none⟩ :: _); refine GD.w1 ?_ (by first | exact LT.rd (Rd.ixov t (hjt)) rfl | fail)) | (show GD _ _ _ _ _ _ _ _ _ _ (⟨some _, .indexAddr _ _ _, _, _, _, some _⟩ :: _); refine GD.gC ?_ (by first | (refine gi ?_; intros; exact LT.rd (Rd.ixov t (hjt)) rfl) | fail) rfl rfl) | (show G _ _ _ _ (WL _ _ _ _ (⟨some _, .load _ _, _, _, _, none⟩ :: _)); refine G.w1 ?_ (by first | exact LT.rd (Rd.ldF f 0 (hrf) ((il_row out))) rfl | fail)) | (show G _ _ _ _ (WL _ _ _ _ (⟨some _, .load _ _, _, _, _, some _⟩ :: _)); refine G.gC ?_ (by first | (refine gi ?_; intros; exact LT.rd (Rd.ldF f 0 (hrf) ((il_row out))) rfl) | fail) rfl rfl) | (show GD _ _ _ _ _ _ _ _ _ _ (⟨some _, .load _ _, _, _, _, none⟩ :: _); refine GD.w1 ?_ (by first | exact LT.rd (Rd.ldF f 0 (hrf) ((il_row out))) rfl | fail)) | (show GD _ _ _ _ _ _ _ _ _ _ (⟨some _, .load _ _, _, _, _, some _⟩ :: _); refine GD.gC ?_ (by first | (refine gi ?_; intros; exact LT.rd (Rd.ldF f 0 (hrf) ((il_row out))) rfl) | fail) rfl rfl) | (show G _ _ _ _ (WL _ _ _ _ (⟨some _, .load _ _, _, _, _, none⟩ :: _)); refine G.w1 ?_ (by first | exact LT.rd (Rd.ldF t 0 (hrt) ((il_row out))) rfl | fail)) | (show G _ _ _ _ (WL _ _ _ _ (⟨some _, .load _ _, _, _, _, some _⟩ :: _)); refine G.gC ?_ (by first | (refine gi ?_; intros; exact LT.rd (Rd.ldF t 0 (hrt) ((il_row out))) rfl) | fail) rfl rfl) | (show GD _ _ _ _ _ _ _ _ _ _ (⟨some _, .load _ _, _, _, _, none⟩ :: _); refine GD.w1 ?_ (by first | exact LT.rd (Rd.ldF t 0 (hrt) ((il_row out))) rfl | fail)) | (show GD _ _ _ _ _ _ _ _ _ _ (⟨some _, .load _ _, _, _, _, some _⟩ :: _); refine GD.gC ?_ (by first | (refine gi ?_; intros; exact LT.rd (Rd.ldF t 0 (hrt) ((il_row out))) rfl) | fail) rfl rfl) | (show G _ _ _ _ (WL _ _ _ _ (⟨none, .store _ _ _, _, _, _, none⟩ :: _)); refine G.w0 ?_ (by first | exact LT.stF f 0 (hrf) ((il_row out)) | fail)) | (show GD _ _ _ _ _ _ _ _ _ _ (⟨none, .store _ _ _, _, _, _, none⟩ :: _); refine GD.w0 ?_ (by first | exact LT.stF f 0 (hrf) ((il_row out)) | fail)) | (show G _ _ _ _ (WL _ _ _ _ (⟨none, .store _ _ _, _, _, _, none⟩ :: _)); refine G.w0 ?_ (by first | exact LT.stF t 0 (hrt2) (hm2) | fail)) | (show GD _ _ _ _ _ _ _ _ _ _ (⟨none, .store _ _ _, _, _, _, none⟩ :: _); refine GD.w0 ?_ (by first | exact LT.stF t 0 (hrt2) (hm2) | fail)) | (show G _ _ _ _ (WL _ _ _ _ (⟨some _, .call _, _, _, _, none⟩ :: _)); refine G.cvW (hcf) ?_) | (show G _ _ _ _ (WL _ _ _ _ (⟨some _, .call _, _, _, _, none⟩ :: _)); refine G.cvW (hct) ?_) | ((repeat (revert hK; revert K)); refine wkT ?_; repeat intro K hK) | refine wkg ?_))
        rw [hil]
        refine G.at (i + 1, (out.set f 0).set t 1) [(100, 100), (102, 102)] ⟨⟨by dsimp only; omega, by dsimp only; rw [List.length_set, List.length_set]; exact ho, hap⟩, by dsimp only; omega⟩ (by repeat (first | exact trivial | refine ⟨⟨rfl, rfl⟩, ?_⟩)) ?_ (by decide)
        dsimp only [apS]
        rw [hll]
        exact (by repeat (first | exact trivial | refine ⟨⟨rfl, rfl, rfl⟩, ?_⟩ | refine ⟨⟨rfl, by rw [renL_d]; rfl, kbL_d _ _⟩, ?_⟩ | refine ⟨rfl, ?_⟩))
    · have e : i = ms.length := by omega
      subst e
      rw [List.drop_length] at hap
      unfold appF at hap
      cases hap
      dsimp only [apS]
      (repeat (first | ((repeat (revert hK; revert K)); refine wk ?_; repeat intro K hK) | refine wkg ?_))
      refine G.frz (T := 3) (rows := il g) 4 ?_ (il_row _) rfl
      refine G.fin2 (by first | exact rvOk.tmp | exact rvOk.cellS | exact rvOk.cell1 | fail) (by first | exact rvOk.tmp | exact rvOk.cellS | exact rvOk.cell1 | fail) rfl ?_
      rfl

end Go.Proofs.Ytohpbfcechbngaa
