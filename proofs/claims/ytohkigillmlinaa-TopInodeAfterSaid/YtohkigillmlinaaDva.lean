/- Device: what a valid device is; page, request, Check. -/
import Derived.Test.YtohkigillmlinaaAvp
set_option linter.unusedSimpArgs false
set_option linter.unusedVariables false
namespace Go.Proofs.Ytohkigillmlinaa
open Go.RowKit

def byD (b : List Int) : D := .l (b.map fun v => [.s (.int .u8 v)])
structure CV where
  b : Int
  p : List Int
structure QV where
  id : Int
  k : Int
  b : Int
  p : List Int
structure DV where
  dep : Int
  nxt : Int
  bs : List (List Int)
  ch : List CV
  q : List QV
def CV.row (c : CV) : List D := [.s (.int .i64 c.b), byD c.p]
def QV.row (x : QV) : List D := [.s (.int .i64 x.id), .s (.int .i64 x.k), .s (.int .i64 x.b), byD x.p]
def bsR (l : List (List Int)) : List (List D) := l.map fun p => [byD p]
def chR (l : List CV) : List (List D) := l.map CV.row
def qR (l : List QV) : List (List D) := l.map QV.row
def DV.row (d : DV) : List D := [.s (.int .i64 d.dep), .s (.int .i64 d.nxt), .l (bsR d.bs), .l (chR d.ch), .l (qR d.q)]
theorem bsR_len (l : List (List Int)) : (bsR l).length = l.length := by simp [bsR]
theorem chR_len (l : List CV) : (chR l).length = l.length := by simp [chR]
theorem qR_len (l : List QV) : (qR l).length = l.length := by simp [qR]
theorem bsR_get (l : List (List Int)) (i : Nat) (h : i < l.length) : (bsR l)[i]? = some [byD l[i]] := by simp [bsR, h]
theorem chR_get (l : List CV) (i : Nat) (h : i < l.length) : (chR l)[i]? = some l[i].row := by simp [chR, h]
theorem qR_get (l : List QV) (i : Nat) (h : i < l.length) : (qR l)[i]? = some l[i].row := by simp [qR, h]
/-- A request that a device of n blocks takes: a write or a flush. -/
def QV.ok (n : Nat) (x : QV) : Prop := (x.k = 2 ∧ 0 ≤ x.b ∧ x.b < n ∧ x.p.length = 32) ∨ (x.k = 3 ∧ x.b = 0 ∧ x.p = [])
/-- The number ahead of place i. -/
def lastC (l : List CV) : Nat → Int
  | 0 => -1
  | i + 1 => ((l[i]?).map CV.b).getD (-1)
def lastQ (l : List QV) : Nat → Int
  | 0 => -1
  | i + 1 => ((l[i]?).map QV.id).getD (-1)
structure DV.ok (d : DV) : Prop where
  dep : 1 ≤ d.dep ∧ d.dep ≤ 16
  nxt : 0 ≤ d.nxt ∧ d.nxt ≤ 1099511627776
  nb : 1 ≤ d.bs.length ∧ d.bs.length ≤ 256
  bs : ∀ (i : Nat) (h : i < d.bs.length), d.bs[i].length = 32
  ch : ∀ (i : Nat) (h : i < d.ch.length), lastC d.ch i < d.ch[i].b ∧ d.ch[i].b < d.bs.length ∧ d.ch[i].p.length = 32
  nc : d.ch.length ≤ 256
  nq : (d.q.length : Int) ≤ d.dep
  q : ∀ (i : Nat) (h : i < d.q.length), d.q[i].ok d.bs.length ∧ lastQ d.q i < d.q[i].id ∧ d.q[i].id < d.nxt
theorem lastC_s (l : List CV) (i : Nat) (h : i < l.length) : lastC l (i + 1) = l[i].b := by simp [lastC, h]
theorem lastQ_s (l : List QV) (i : Nat) (h : i < l.length) : lastQ l (i + 1) = l[i].id := by simp [lastQ, h]

attribute [local irreducible] Wp WL WO fin finB rnd Exit.then Exit.inBlock G GD LT Rd Fn FnB FvB Iter
attribute [local go_sem] DV.row QV.row CV.row
theorem page_F (b : List Int) : Fn Try.prog 29 [byD b] (· = .s (.bool ((b.length : Int) == 32))) := by
  have e : ((b.map fun v => [D.s (.int .u8 v)]).length : Int) = b.length := by simp
  refine Fn.of Try.func29 Try.ntmps29 rfl (by kernel_rfl) (fun w o => ?_)
  (repeat (first | ((repeat (revert hK; revert K)); refine wk ?_; repeat intro K hK) | refine wkg ?_))
  refine G.fin1 (by first | exact rvOk.tmp | exact rvOk.cellS | exact rvOk.cell1 | fail) rfl ?_
  rw [e]
theorem page_t {b : List Int} (h : b.length = 32) : Fn Try.prog 29 [byD b] (· = .s (.bool true)) := by
  have := page_F b
  rwa [h] at this
theorem request_F (d : DV) (x : QV) (hn : d.bs.length ≤ 256) (h : x.ok d.bs.length) : Fn Try.prog 19 [.st d.row, .st x.row] (· = .s (.int .i64 0)) := by
  have hl : ((bsR d.bs).length : Int) = d.bs.length := by rw [bsR_len]
  rcases h with ⟨hk, h1, h2, h3⟩ | ⟨hk, h1, h2⟩
  · have hp := page_t h3
    refine Fn.of Try.func19 Try.ntmps19 rfl (by kernel_rfl) (fun w o => ?_)
    (repeat (first | refine G.cW (hp) ?_ | refine G.cgW (hp) ?_ | refine GD.cW (hp) ?_ | refine GD.cgW (hp) ?_ | ((repeat (revert hK; revert K)); refine wk ?_; repeat intro K hK) | refine wkg ?_))
    refine G.fin1 (by first | exact rvOk.tmp | exact rvOk.cellS | exact rvOk.cell1 | fail) rfl ?_
    rfl
  · have hne : (x.k != 2) = true := by simp [hk]
    have e0 : ((x.p.map fun v => [D.s (.int .u8 v)]).length : Int) = 0 := by simp [h2]
    have e1 : (x.k != 2 && ((x.p.map fun v => [D.s (.int .u8 v)]).length : Int) != 0) = false := by rw [e0, Bool.and_eq_false_iff]; exact .inr rfl
    refine Fn.of Try.func19 Try.ntmps19 rfl (by kernel_rfl) (fun w o => ?_)
    (repeat (first | ((repeat (revert hK; revert K)); refine wkG ?_; repeat intro K hK) | refine wkg ?_))
    refine G.fin1 (by first | exact rvOk.tmp | exact rvOk.cellS | exact rvOk.cell1 | fail) rfl ?_
    rfl
def dk1 (d : DV) (i : Nat) : List (Nat × AV) × Bs := ([(46, .d (.s (.int .i64 (i : Int)))), (45, .d (.s (.int .i64 (bsR d.bs).length))), (44, .d (.l (bsR d.bs))), (2, .d (.s (.int .i64 0))), (1, .p 0 0)], [(0, some (33, d.row.map .d))])
def dk2 (d : DV) (i : Nat) : List (Nat × AV) × Bs := ([(57, .d (.s (.int .i64 (i : Int)))), (56, .d (.s (.int .i64 (chR d.ch).length))), (55, .d (.l (chR d.ch))), (5, .d (.s (.int .i64 (lastC d.ch i)))), (2, .d (.s (.int .i64 0))), (1, .p 0 0)], [(0, some (33, d.row.map .d))])
def dk3 (d : DV) (i : Nat) : List (Nat × AV) × Bs := ([(79, .d (.s (.int .i64 (i : Int)))), (78, .d (.s (.int .i64 (chR d.ch).length))), (77, .d (.l (chR d.ch))), (2, .d (.s (.int .i64 0))), (1, .p 0 0)], [(0, some (33, d.row.map .d))])
def dk4 (d : DV) (i : Nat) : List (Nat × AV) × Bs := ([(97, .d (.s (.int .i64 (i : Int)))), (96, .d (.s (.int .i64 (qR d.q).length))), (95, .d (.l (qR d.q))), (5, .d (.s (.int .i64 (lastQ d.q i)))), (2, .d (.s (.int .i64 0))), (1, .p 0 0)], [(0, some (33, d.row.map .d))])
set_option maxHeartbeats 4000000 in
theorem dcheck_F (d : DV) (h : d.ok) : Fn Try.prog 16 [.st d.row] (· = .s (.int .i64 0)) := by
  obtain ⟨hdep, hnxt, hnb, hbs, hch, hnc, hnq, hq⟩ := h
  have hl : ((bsR d.bs).length : Int) = d.bs.length := by rw [bsR_len]
  have hl2 : ((chR d.ch).length : Int) = d.ch.length := by rw [chR_len]
  have hl3 : ((qR d.q).length : Int) = d.q.length := by rw [qR_len]
  refine Fn.of Try.func16 Try.ntmps16 rfl (by kernel_rfl) (fun w o => ?_)
  (repeat (first | ((repeat (revert hK; revert K)); refine wk ?_; repeat intro K hK) | refine wkg ?_))
  refine G.loop (dk1 d) (fun i => i ≤ d.bs.length) (fun i => d.bs.length - i) ?_ ?_
  · exact G.at 0 [(0, 0)] (Nat.zero_le _) (by repeat (first | exact trivial | refine ⟨⟨rfl, rfl⟩, ?_⟩)) (by repeat (first | exact trivial | refine ⟨⟨rfl, rfl, rfl⟩, ?_⟩ | refine ⟨⟨rfl, by rw [renL_d]; rfl, kbL_d _ _⟩, ?_⟩ | refine ⟨rfl, ?_⟩)) (by decide)
  · intro i hi
    unfold dk1
    by_cases h : i < d.bs.length
    · have hr := bsR_get d.bs i h
      have hp := page_t (hbs i h)
      (repeat (first | refine G.cW (hp) ?_ | refine G.cgW (hp) ?_ | refine GD.cW (hp) ?_ | refine GD.cgW (hp) ?_ | (show G _ _ _ _ (WL _ _ _ _ (⟨some _, .indexAddr _ _ _, _, _, _, none⟩ :: _)); refine G.w1 ?_ (by first | exact LT.rd (Rd.ixv i (hr)) rfl | fail)) | (show G _ _ _ _ (WL _ _ _ _ (⟨some _, .indexAddr _ _ _, _, _, _, some _⟩ :: _)); refine G.gC ?_ (by first | (refine gi ?_; intros; exact LT.rd (Rd.ixv i (hr)) rfl) | fail) rfl rfl) | (show GD _ _ _ _ _ _ _ _ _ _ (⟨some _, .indexAddr _ _ _, _, _, _, none⟩ :: _); refine GD.w1 ?_ (by first | exact LT.rd (Rd.ixv i (hr)) rfl | fail)) | (show GD _ _ _ _ _ _ _ _ _ _ (⟨some _, .indexAddr _ _ _, _, _, _, some _⟩ :: _); refine GD.gC ?_ (by first | (refine gi ?_; intros; exact LT.rd (Rd.ixv i (hr)) rfl) | fail) rfl rfl) | ((repeat (revert hK; revert K)); refine wk ?_; repeat intro K hK) | refine wkg ?_))
      refine G.at (i + 1) [(0, 0)] ⟨by omega, by omega⟩ (by repeat (first | exact trivial | refine ⟨⟨rfl, rfl⟩, ?_⟩)) (by repeat (first | exact trivial | refine ⟨⟨rfl, rfl, rfl⟩, ?_⟩ | refine ⟨⟨rfl, by rw [renL_d]; rfl, kbL_d _ _⟩, ?_⟩ | refine ⟨rfl, ?_⟩)) (by decide)
    · (repeat (first | ((repeat (revert hK; revert K)); refine wk ?_; repeat intro K hK) | refine wkg ?_))
      refine G.loop (dk2 d) (fun i => i ≤ d.ch.length) (fun i => d.ch.length - i) ?_ ?_
      · exact G.at 0 [(0, 0)] (Nat.zero_le _) (by repeat (first | exact trivial | refine ⟨⟨rfl, rfl⟩, ?_⟩)) (by repeat (first | exact trivial | refine ⟨⟨rfl, rfl, rfl⟩, ?_⟩ | refine ⟨⟨rfl, by rw [renL_d]; rfl, kbL_d _ _⟩, ?_⟩ | refine ⟨rfl, ?_⟩)) (by decide)
      · intro i hi
        unfold dk2
        by_cases h : i < d.ch.length
        · have hr := chR_get d.ch i h
          have hc := hch i h
          have hs := lastC_s d.ch i h
          (repeat (first | (show G _ _ _ _ (WL _ _ _ _ (⟨some _, .indexAddr _ _ _, _, _, _, none⟩ :: _)); refine G.w1 ?_ (by first | exact LT.rd (Rd.ixv i (hr)) rfl | fail)) | (show G _ _ _ _ (WL _ _ _ _ (⟨some _, .indexAddr _ _ _, _, _, _, some _⟩ :: _)); refine G.gC ?_ (by first | (refine gi ?_; intros; exact LT.rd (Rd.ixv i (hr)) rfl) | fail) rfl rfl) | (show GD _ _ _ _ _ _ _ _ _ _ (⟨some _, .indexAddr _ _ _, _, _, _, none⟩ :: _); refine GD.w1 ?_ (by first | exact LT.rd (Rd.ixv i (hr)) rfl | fail)) | (show GD _ _ _ _ _ _ _ _ _ _ (⟨some _, .indexAddr _ _ _, _, _, _, some _⟩ :: _); refine GD.gC ?_ (by first | (refine gi ?_; intros; exact LT.rd (Rd.ixv i (hr)) rfl) | fail) rfl rfl) | ((repeat (revert hK; revert K)); refine wk ?_; repeat intro K hK) | refine wkg ?_))
          rw [← hs]
          refine G.at (i + 1) [(0, 0)] ⟨by omega, by omega⟩ (by repeat (first | exact trivial | refine ⟨⟨rfl, rfl⟩, ?_⟩)) (by repeat (first | exact trivial | refine ⟨⟨rfl, rfl, rfl⟩, ?_⟩ | refine ⟨⟨rfl, by rw [renL_d]; rfl, kbL_d _ _⟩, ?_⟩ | refine ⟨rfl, ?_⟩)) (by decide)
        · (repeat (first | ((repeat (revert hK; revert K)); refine wk ?_; repeat intro K hK) | refine wkg ?_))
          refine G.loop (dk3 d) (fun i => i ≤ d.ch.length) (fun i => d.ch.length - i) ?_ ?_
          · exact G.at 0 [(0, 0)] (Nat.zero_le _) (by repeat (first | exact trivial | refine ⟨⟨rfl, rfl⟩, ?_⟩)) (by repeat (first | exact trivial | refine ⟨⟨rfl, rfl, rfl⟩, ?_⟩ | refine ⟨⟨rfl, by rw [renL_d]; rfl, kbL_d _ _⟩, ?_⟩ | refine ⟨rfl, ?_⟩)) (by decide)
          · intro i hi
            unfold dk3
            by_cases h : i < d.ch.length
            · have hr := chR_get d.ch i h
              have hp := page_t (hch i h).2.2
              (repeat (first | refine G.cW (hp) ?_ | refine G.cgW (hp) ?_ | refine GD.cW (hp) ?_ | refine GD.cgW (hp) ?_ | (show G _ _ _ _ (WL _ _ _ _ (⟨some _, .indexAddr _ _ _, _, _, _, none⟩ :: _)); refine G.w1 ?_ (by first | exact LT.rd (Rd.ixv i (hr)) rfl | fail)) | (show G _ _ _ _ (WL _ _ _ _ (⟨some _, .indexAddr _ _ _, _, _, _, some _⟩ :: _)); refine G.gC ?_ (by first | (refine gi ?_; intros; exact LT.rd (Rd.ixv i (hr)) rfl) | fail) rfl rfl) | (show GD _ _ _ _ _ _ _ _ _ _ (⟨some _, .indexAddr _ _ _, _, _, _, none⟩ :: _); refine GD.w1 ?_ (by first | exact LT.rd (Rd.ixv i (hr)) rfl | fail)) | (show GD _ _ _ _ _ _ _ _ _ _ (⟨some _, .indexAddr _ _ _, _, _, _, some _⟩ :: _); refine GD.gC ?_ (by first | (refine gi ?_; intros; exact LT.rd (Rd.ixv i (hr)) rfl) | fail) rfl rfl) | ((repeat (revert hK; revert K)); refine wk ?_; repeat intro K hK) | refine wkg ?_))
              refine G.at (i + 1) [(0, 0)] ⟨by omega, by omega⟩ (by repeat (first | exact trivial | refine ⟨⟨rfl, rfl⟩, ?_⟩)) (by repeat (first | exact trivial | refine ⟨⟨rfl, rfl, rfl⟩, ?_⟩ | refine ⟨⟨rfl, by rw [renL_d]; rfl, kbL_d _ _⟩, ?_⟩ | refine ⟨rfl, ?_⟩)) (by decide)
            · (repeat (first | ((repeat (revert hK; revert K)); refine wk ?_; repeat intro K hK) | refine wkg ?_))
              refine G.loop (dk4 d) (fun i => i ≤ d.q.length) (fun i => d.q.length - i) ?_ ?_
              · exact G.at 0 [(0, 0)] (Nat.zero_le _) (by repeat (first | exact trivial | refine ⟨⟨rfl, rfl⟩, ?_⟩)) (by repeat (first | exact trivial | refine ⟨⟨rfl, rfl, rfl⟩, ?_⟩ | refine ⟨⟨rfl, by rw [renL_d]; rfl, kbL_d _ _⟩, ?_⟩ | refine ⟨rfl, ?_⟩)) (by decide)
              · intro i hi
                unfold dk4
                by_cases h : i < d.q.length
                · have hr := qR_get d.q i h
                  have hc := hq i h
                  have hs := lastQ_s d.q i h
                  have hf := request_F d _ hnb.2 hc.1
                  (repeat (first | refine G.cW (hf) ?_ | refine G.cgW (hf) ?_ | refine GD.cW (hf) ?_ | refine GD.cgW (hf) ?_ | (show G _ _ _ _ (WL _ _ _ _ (⟨some _, .indexAddr _ _ _, _, _, _, none⟩ :: _)); refine G.w1 ?_ (by first | exact LT.rd (Rd.ixv i (hr)) rfl | fail)) | (show G _ _ _ _ (WL _ _ _ _ (⟨some _, .indexAddr _ _ _, _, _, _, some _⟩ :: _)); refine G.gC ?_ (by first | (refine gi ?_; intros; exact LT.rd (Rd.ixv i (hr)) rfl) | fail) rfl rfl) | (show GD _ _ _ _ _ _ _ _ _ _ (⟨some _, .indexAddr _ _ _, _, _, _, none⟩ :: _); refine GD.w1 ?_ (by first | exact LT.rd (Rd.ixv i (hr)) rfl | fail)) | (show GD _ _ _ _ _ _ _ _ _ _ (⟨some _, .indexAddr _ _ _, _, _, _, some _⟩ :: _); refine GD.gC ?_ (by first | (refine gi ?_; intros; exact LT.rd (Rd.ixv i (hr)) rfl) | fail) rfl rfl) | ((repeat (revert hK; revert K)); refine wk ?_; repeat intro K hK) | refine wkg ?_))
                  rw [← hs]
                  refine G.at (i + 1) [(0, 0)] ⟨by omega, by omega⟩ (by repeat (first | exact trivial | refine ⟨⟨rfl, rfl⟩, ?_⟩)) (by repeat (first | exact trivial | refine ⟨⟨rfl, rfl, rfl⟩, ?_⟩ | refine ⟨⟨rfl, by rw [renL_d]; rfl, kbL_d _ _⟩, ?_⟩ | refine ⟨rfl, ?_⟩)) (by decide)
                · (repeat (first | ((repeat (revert hK; revert K)); refine wk ?_; repeat intro K hK) | refine wkg ?_))
                  refine G.fin1 (by first | exact rvOk.tmp | exact rvOk.cellS | exact rvOk.cell1 | fail) rfl ?_
                  rfl

end Go.Proofs.Ytohkigillmlinaa
