/- Device: New, Durable, Submit. -/
import Derived.Test.YtohkigillmlinaaDvb
set_option linter.unusedSimpArgs false
set_option linter.unusedVariables false
namespace Go.Proofs.Ytohkigillmlinaa
open Go.RowKit

theorem DV.ok.sm {d : DV} (h : d.ok) : d.sm := by
  refine ⟨h.nb.2, h.nc, ?_, fun i hi => by have := h.bs i hi; omega, fun i hi => by have := (h.ch i hi).2.2; omega, fun i hi => ?_⟩
  · have := h.nq; have := h.dep; omega
  · have := (h.q i hi).1
    unfold QV.ok at this
    rcases this with h | h
    · have := h.2.2.2; omega
    · rw [h.2.2]; simp
theorem bsR_row (l : List (List Int)) : ∀ r ∈ bsR l, r.length = 1 := by
  intro r hr
  obtain ⟨v, _, rfl⟩ := List.mem_map.1 hr
  rfl
theorem chR_row (l : List CV) : ∀ r ∈ chR l, r.length = 2 := by
  intro r hr
  obtain ⟨v, _, rfl⟩ := List.mem_map.1 hr
  rfl
theorem qR_row (l : List QV) : ∀ r ∈ qR l, r.length = 4 := by
  intro r hr
  obtain ⟨v, _, rfl⟩ := List.mem_map.1 hr
  rfl
def newD (dep : Int) (bs : List (List Int)) : DV := ⟨dep, 0, bs, [], []⟩
theorem le_new (dep : Int) (bs : List (List Int)) : DL.le [.s (.int .i64 dep), .s (.int .i64 0), .l (bsR bs), .s (.slice none 0 0), .s (.slice none 0 0)] (newD dep bs).row :=
  .cons (.refl _) (.cons (.refl _) (.cons (.refl _) (.cons .nil (.cons .nil (fun _ _ _ h => h)))))
def DV.z : DV := ⟨0, 0, [], [], []⟩
theorem le_z : DL.le zDev DV.z.row :=
  .cons (.refl _) (.cons (.refl _) (.cons .nil (.cons .nil (.cons .nil (fun _ _ _ h => h)))))

attribute [local irreducible] Wp WL WO fin finB rnd Exit.then Exit.inBlock G GD LT Rd Fn FnB FvB Iter
attribute [local go_sem] DV.row QV.row CV.row
theorem new_F (dep : Int) (bs : List (List Int)) (h : (newD dep bs).ok) : Fn Try.prog 7 [.s (.int .i64 dep), .l (bsR bs)] (· = .tup [.st (newD dep bs).row, .s (.int .i64 0)]) := by
  have hc := dcheck_F _ h
  have hcl := FnB.v0 (clone_O _ h.sm)
  refine Fn.of Try.func7 Try.ntmps7 rfl (by kernel_rfl) (fun w o => ?_)
  (repeat (first | ((repeat (revert hK; revert K)); refine wk ?_; repeat intro K hK) | refine wkg ?_))
  refine G.le 11 (.st (newD dep bs).row) (D.le.st (le_new dep bs)) ?_
  refine G.leB 1 _ (le_new dep bs) ?_
  (repeat (first | refine G.cW (hc) ?_ | refine G.cgW (hc) ?_ | refine GD.cW (hc) ?_ | refine GD.cgW (hc) ?_ | (show G _ _ _ _ (WL _ _ _ _ (⟨some _, .call _, _, _, _, none⟩ :: _)); refine G.cvW (hcl) ?_) | ((repeat (revert hK; revert K)); refine wkT ?_; repeat intro K hK) | refine wkg ?_))
  refine G.frzAt (T := 25) 0 2 101 ?_ (by rfl) (bsR_row _) rfl; refine G.frzAt (T := 64) 0 3 103 ?_ (by rfl) (chR_row _) rfl; refine G.frzAt (T := 43) 0 4 105 ?_ (by rfl) (qR_row _) rfl
  refine G.fin2 (by first | exact rvOk.tmp | exact rvOk.cellS | exact rvOk.cell1 | fail) (by first | exact rvOk.tmp | exact rvOk.cellS | exact rvOk.cell1 | fail) rfl ?_
  rfl
theorem dur_F (d : DV) (h : d.ok) (k : Nat) (hk : k < d.bs.length) : Fn Try.prog 12 [.st d.row, .s (.int .i64 k)] (· = byD d.bs[k]) := by
  have hc := dcheck_F _ h
  have hl : ((bsR d.bs).length : Int) = d.bs.length := by rw [bsR_len]
  have hr := bsR_get d.bs k hk
  have hp := bclone_F d.bs[k] (h.sm.bs k hk)
  have h1 : decide ((k : Int) < 0) = false := by simp
  have h2 : decide (((bsR d.bs).length : Int) ≤ (k : Int)) = false := by rw [hl]; simp; omega
  refine Fn.of Try.func12 Try.ntmps12 rfl (by kernel_rfl) (fun w o => ?_)
  (repeat (first | refine GD.ctW (hc) ?_ | refine G.cW (hc) ?_ | refine G.cgW (hc) ?_ | refine GD.cW (hc) ?_ | refine GD.cgW (hc) ?_ | refine GD.ctW (hp) ?_ | refine G.cW (hp) ?_ | refine G.cgW (hp) ?_ | refine GD.cW (hp) ?_ | refine GD.cgW (hp) ?_ | (show G _ _ _ _ (WL _ _ _ _ (⟨some _, .indexAddr _ _ _, _, _, _, none⟩ :: _)); refine G.w1 ?_ (by first | exact LT.rd (Rd.ixv k (hr)) rfl | fail)) | (show G _ _ _ _ (WL _ _ _ _ (⟨some _, .indexAddr _ _ _, _, _, _, some _⟩ :: _)); refine G.gC ?_ (by first | (refine gi ?_; intros; exact LT.rd (Rd.ixv k (hr)) rfl) | fail) rfl rfl) | (show GD _ _ _ _ _ _ _ _ _ _ (⟨some _, .indexAddr _ _ _, _, _, _, none⟩ :: _); refine GD.w1 ?_ (by first | exact LT.rd (Rd.ixv k (hr)) rfl | fail)) | (show GD _ _ _ _ _ _ _ _ _ _ (⟨some _, .indexAddr _ _ _, _, _, _, some _⟩ :: _); refine GD.gC ?_ (by first | (refine gi ?_; intros; exact LT.rd (Rd.ixv k (hr)) rfl) | fail) rfl rfl) | ((repeat (revert hK; revert K)); refine wkG ?_; repeat intro K hK) | refine wkg ?_))
  refine G.fin1 (by first | exact rvOk.tmp | exact rvOk.cellS | exact rvOk.cell1 | fail) rfl ?_
  rfl

/-- What a device is behind a request more. -/
def subV (d : DV) (k b : Int) (p : List Int) : DV := { d with nxt := d.nxt + 1, q := d.q ++ [⟨d.nxt, k, b, p⟩] }
theorem qR_app (l : List QV) (x : QV) : qR (l ++ [x]) = qR l ++ [x.row] := by simp [qR]
theorem subW_F (d : DV) (h : d.ok) (b : Int) (p : List Int) (hb : 0 ≤ b ∧ b < d.bs.length) (hp : p.length = 32) (hn : d.nxt < 100000) (hq : (d.q.length : Int) < d.dep) :
    Fn Try.prog 8 [.st d.row, .s (.int .i64 2), .s (.int .i64 b), byD p] (· = .tup [.st (subV d 2 b p).row, .s (.int .i64 d.nxt), .s (.int .i64 0)]) := by
  have hc := dcheck_F _ h
  have hcl := FnB.v0 (clone_O _ h.sm)
  have hbc := bclone_F p (by omega)
  have hr := request_F d ⟨d.nxt, 2, b, p⟩ h.nb.2 (.inl ⟨rfl, hb.1, hb.2, hp⟩)
  have hl3 : ((qR d.q).length : Int) = d.q.length := by rw [qR_len]
  have hlp : ((byR p).length : Int) = 32 := by rw [byR_len, hp]; rfl
  have hdep := h.dep
  have hnx := h.nxt
  have h63 : (qR d.q).length ≤ 16 := by rw [qR_len]; omega
  have hbL : (d.nxt == 1099511627776) = false := by simp; omega
  have hbF : (((qR d.q).length : Int) == d.dep) = false := by rw [hl3]; simp; omega
  have hb0 : (((byR p).length : Int) == 0) = false := by rw [hlp]; rfl
  refine Fn.of Try.func8 Try.ntmps8 rfl (by kernel_rfl) (fun w o => ?_)
  (repeat (first | refine G.cW (hbc) ?_ | refine G.cgW (hbc) ?_ | refine GD.cW (hbc) ?_ | refine GD.cgW (hbc) ?_ | refine G.cW (hc) ?_ | refine G.cgW (hc) ?_ | refine GD.cW (hc) ?_ | refine GD.cgW (hc) ?_ | refine G.cW (hr) ?_ | refine G.cgW (hr) ?_ | refine GD.cW (hr) ?_ | refine GD.cgW (hr) ?_ | (show G _ _ _ _ (WL _ _ _ _ (⟨some _, .call _, _, _, _, none⟩ :: _)); refine G.cvW (hcl) ?_) | ((repeat (revert hK; revert K)); refine wkT ?_; repeat intro K hK) | refine wkg ?_))
  refine G.frzAt (T := 25) 1 2 101 ?_ (by rfl) (bsR_row _) rfl
  refine G.frzAt (T := 64) 1 3 103 ?_ (by rfl) (chR_row _) rfl
  refine G.frzAt (T := 43) (rows := qR d.q ++ [(⟨d.nxt, 2, b, p⟩ : QV).row]) (k := (qR d.q).length + 1) 1 4 9 ?_ (by rfl) (by rw [← qR_app]; exact qR_row _) (by simp)
  refine G.fin3 (by first | exact rvOk.tmp | exact rvOk.cellS | exact rvOk.cell1 | fail) (by first | exact rvOk.tmp | exact rvOk.cellS | exact rvOk.cell1 | fail) (by first | exact rvOk.tmp | exact rvOk.cellS | exact rvOk.cell1 | fail) rfl ?_
  rw [show subV d 2 b p = { d with nxt := d.nxt + 1, q := d.q ++ [⟨d.nxt, 2, b, p⟩] } from rfl]
  simp only [DV.row, qR_app]

theorem DL.le.app {xs ys : List D} (h : DL.le xs ys) : ∀ A : List D, DL.le (A ++ xs) (A ++ ys)
  | [] => h
  | a :: A => .cons (.refl _) (DL.le.app h A)
theorem bcloneN_F : Fn Try.prog 18 [.s (.slice none 0 0)] (· = .s (.slice none 0 0)) := by
  refine Fn.of Try.func18 Try.ntmps18 rfl (by kernel_rfl) (fun w o => ?_)
  (repeat (first | (show G _ _ _ _ (WL _ _ _ _ (⟨some _, .binOp .eql _ _ _ _, _, _, _, none⟩ :: _)); refine G.w1 ?_ (by first | exact LT.eqNN | fail)) | (show G _ _ _ _ (WL _ _ _ _ (⟨some _, .binOp .eql _ _ _ _, _, _, _, some _⟩ :: _)); refine G.gC ?_ (by first | (refine gi ?_; intros; exact LT.eqNN) | fail) rfl rfl) | (show GD _ _ _ _ _ _ _ _ _ _ (⟨some _, .binOp .eql _ _ _ _, _, _, _, none⟩ :: _); refine GD.w1 ?_ (by first | exact LT.eqNN | fail)) | (show GD _ _ _ _ _ _ _ _ _ _ (⟨some _, .binOp .eql _ _ _ _, _, _, _, some _⟩ :: _); refine GD.gC ?_ (by first | (refine gi ?_; intros; exact LT.eqNN) | fail) rfl rfl) | ((repeat (revert hK; revert K)); refine wk ?_; repeat intro K hK) | refine wkg ?_))
  refine G.fin1 (by first | exact rvOk.tmp | exact rvOk.cellS | exact rvOk.cell1 | fail) rfl ?_
  rfl
theorem le_q (n : Int) : DL.le [.s (.int .i64 n), .s (.int .i64 3), .s (.int .i64 0), .s (.slice none 0 0)] (⟨n, 3, 0, []⟩ : QV).row :=
  .cons (.refl _) (.cons (.refl _) (.cons (.refl _) (.cons .nil (fun _ _ _ h => h))))
set_option maxHeartbeats 1000000 in
theorem subF_F (d : DV) (h : d.ok) (hn : d.nxt < 100000) (hq : (d.q.length : Int) < d.dep) :
    Fn Try.prog 8 [.st d.row, .s (.int .i64 3), .s (.int .i64 0), .s (.slice none 0 0)] (· = .tup [.st (subV d 3 0 []).row, .s (.int .i64 d.nxt), .s (.int .i64 0)]) := by
  have hc := dcheck_F _ h
  have hcl := FnB.v0 (clone_O _ h.sm)
  have hbc := bcloneN_F
  have hr := request_F d ⟨d.nxt, 3, 0, []⟩ h.nb.2 (.inr ⟨rfl, rfl, rfl⟩)
  have hl3 : ((qR d.q).length : Int) = d.q.length := by rw [qR_len]
  have hdep := h.dep
  have hnx := h.nxt
  have h63 : (qR d.q).length ≤ 16 := by rw [qR_len]; omega
  have hbL : (d.nxt == 1099511627776) = false := by simp; omega
  have hbF : (((qR d.q).length : Int) == d.dep) = false := by rw [hl3]; simp; omega
  refine Fn.of Try.func8 Try.ntmps8 rfl (by kernel_rfl) (fun w o => ?_)
  (repeat (first | refine G.cW (hbc) ?_ | refine G.cgW (hbc) ?_ | refine GD.cW (hbc) ?_ | refine GD.cgW (hbc) ?_ | refine G.cW (hc) ?_ | refine G.cgW (hc) ?_ | refine GD.cW (hc) ?_ | refine GD.cgW (hc) ?_ | (show G _ _ _ _ (WL _ _ _ _ (⟨some _, .call _, _, _, _, none⟩ :: _)); refine G.cvW (hcl) ?_) | ((repeat (revert hK; revert K)); refine wkT ?_; repeat intro K hK) | refine wkg ?_))
  refine G.le 26 (.st (⟨d.nxt, 3, 0, []⟩ : QV).row) (D.le.st (le_q _)) ?_
  refine G.leB 2 _ (le_q _) ?_
  (repeat (first | refine G.cW (hbc) ?_ | refine G.cgW (hbc) ?_ | refine GD.cW (hbc) ?_ | refine GD.cgW (hbc) ?_ | refine G.cW (hc) ?_ | refine G.cgW (hc) ?_ | refine GD.cW (hc) ?_ | refine GD.cgW (hc) ?_ | refine G.cW (hr) ?_ | refine G.cgW (hr) ?_ | refine GD.cW (hr) ?_ | refine GD.cgW (hr) ?_ | (show G _ _ _ _ (WL _ _ _ _ (⟨some _, .call _, _, _, _, none⟩ :: _)); refine G.cvW (hcl) ?_) | ((repeat (revert hK; revert K)); refine wkT ?_; repeat intro K hK) | refine wkg ?_))
  refine G.leB 11 (ds := (qR d.q ++ [[D.s (.int .i64 d.nxt), D.s (.int .i64 3), D.s (.int .i64 0), D.s (.slice none 0 0)]]).flatten) (qR d.q ++ [(⟨d.nxt, 3, 0, []⟩ : QV).row]).flatten (by rw [List.flatten_append, List.flatten_append]; exact DL.le.app (by simpa using le_q d.nxt) _) ?_
  refine G.frzAt (T := 25) 1 2 101 ?_ (by rfl) (bsR_row _) rfl
  refine G.frzAt (T := 64) 1 3 103 ?_ (by rfl) (chR_row _) rfl
  refine G.frzAt (T := 43) (rows := qR d.q ++ [(⟨d.nxt, 3, 0, []⟩ : QV).row]) (k := (qR d.q).length + 1) 1 4 11 ?_ (by rfl) (by rw [← qR_app]; exact qR_row _) (by simp)
  refine G.fin3 (by first | exact rvOk.tmp | exact rvOk.cellS | exact rvOk.cell1 | fail) (by first | exact rvOk.tmp | exact rvOk.cellS | exact rvOk.cell1 | fail) (by first | exact rvOk.tmp | exact rvOk.cellS | exact rvOk.cell1 | fail) rfl ?_
  rw [show subV d 3 0 [] = { d with nxt := d.nxt + 1, q := d.q ++ [⟨d.nxt, 3, 0, []⟩] } from rfl]
  simp only [DV.row, qR_app]

theorem subWfull_F (d : DV) (h : d.ok) (b : Int) (p : List Int) (hb : 0 ≤ b ∧ b < d.bs.length) (hp : p.length = 32) (hn : d.nxt < 100000) (hq : (d.q.length : Int) = d.dep) :
    Fn Try.prog 8 [.st d.row, .s (.int .i64 2), .s (.int .i64 b), byD p] (· = .tup [.st DV.z.row, .s (.int .i64 0), .s (.int .i64 8)]) := by
  have hc := dcheck_F _ h
  have hbc := bclone_F p (by omega)
  have hr := request_F d ⟨d.nxt, 2, b, p⟩ h.nb.2 (.inl ⟨rfl, hb.1, hb.2, hp⟩)
  have hl3 : ((qR d.q).length : Int) = d.q.length := by rw [qR_len]
  have hdep := h.dep
  have hnx := h.nxt
  have hbL : (d.nxt == 1099511627776) = false := by simp; omega
  have hbF : (((qR d.q).length : Int) == d.dep) = true := by rw [hl3]; simp; omega
  refine Fn.of Try.func8 Try.ntmps8 rfl (by kernel_rfl) (fun w o => ?_)
  (repeat (first | refine G.cW (hbc) ?_ | refine G.cgW (hbc) ?_ | refine GD.cW (hbc) ?_ | refine GD.cgW (hbc) ?_ | refine G.cW (hc) ?_ | refine G.cgW (hc) ?_ | refine GD.cW (hc) ?_ | refine GD.cgW (hc) ?_ | refine G.cW (hr) ?_ | refine G.cgW (hr) ?_ | refine GD.cW (hr) ?_ | refine GD.cgW (hr) ?_ | ((repeat (revert hK; revert K)); refine wk ?_; repeat intro K hK) | refine wkg ?_))
  refine G.leB 1 _ le_z ?_
  refine G.fin3 (by first | exact rvOk.tmp | exact rvOk.cellS | exact rvOk.cell1 | fail) (by first | exact rvOk.tmp | exact rvOk.cellS | exact rvOk.cell1 | fail) (by first | exact rvOk.tmp | exact rvOk.cellS | exact rvOk.cell1 | fail) rfl ?_
  rfl
theorem subFfull_F (d : DV) (h : d.ok) (hn : d.nxt < 100000) (hq : (d.q.length : Int) = d.dep) :
    Fn Try.prog 8 [.st d.row, .s (.int .i64 3), .s (.int .i64 0), .s (.slice none 0 0)] (· = .tup [.st DV.z.row, .s (.int .i64 0), .s (.int .i64 8)]) := by
  have hc := dcheck_F _ h
  have hbc := bcloneN_F
  have hr := request_F d ⟨d.nxt, 3, 0, []⟩ h.nb.2 (.inr ⟨rfl, rfl, rfl⟩)
  have hl3 : ((qR d.q).length : Int) = d.q.length := by rw [qR_len]
  have hdep := h.dep
  have hnx := h.nxt
  have hbL : (d.nxt == 1099511627776) = false := by simp; omega
  have hbF : (((qR d.q).length : Int) == d.dep) = true := by rw [hl3]; simp; omega
  refine Fn.of Try.func8 Try.ntmps8 rfl (by kernel_rfl) (fun w o => ?_)
  (repeat (first | refine G.cW (hbc) ?_ | refine G.cgW (hbc) ?_ | refine GD.cW (hbc) ?_ | refine GD.cgW (hbc) ?_ | refine G.cW (hc) ?_ | refine G.cgW (hc) ?_ | refine GD.cW (hc) ?_ | refine GD.cgW (hc) ?_ | ((repeat (revert hK; revert K)); refine wk ?_; repeat intro K hK) | refine wkg ?_))
  refine G.le 26 (.st (⟨d.nxt, 3, 0, []⟩ : QV).row) (D.le.st (le_q _)) ?_
  refine G.leB 2 _ (le_q _) ?_
  (repeat (first | refine G.cW (hbc) ?_ | refine G.cgW (hbc) ?_ | refine GD.cW (hbc) ?_ | refine GD.cgW (hbc) ?_ | refine G.cW (hc) ?_ | refine G.cgW (hc) ?_ | refine GD.cW (hc) ?_ | refine GD.cgW (hc) ?_ | refine G.cW (hr) ?_ | refine G.cgW (hr) ?_ | refine GD.cW (hr) ?_ | refine GD.cgW (hr) ?_ | ((repeat (revert hK; revert K)); refine wk ?_; repeat intro K hK) | refine wkg ?_))
  refine G.leB 1 _ le_z ?_
  refine G.fin3 (by first | exact rvOk.tmp | exact rvOk.cellS | exact rvOk.cell1 | fail) (by first | exact rvOk.tmp | exact rvOk.cellS | exact rvOk.cell1 | fail) (by first | exact rvOk.tmp | exact rvOk.cellS | exact rvOk.cell1 | fail) rfl ?_
  rfl

end Go.Proofs.Ytohkigillmlinaa
