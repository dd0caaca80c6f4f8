/- Any tree: formed, on both sides; how many trees it has. -/
/- Any tree, the reference's side: Few. -/
/- Trees with any numbers, the reference's side: regions, listed, Node, numbered, Check, List. -/
import Derived.Test.YtmajkjkakciaiaaQf
set_option linter.unusedSimpArgs false
set_option linter.unusedVariables false
namespace Go.Proofs.Ytmajkjkakciaiaa
open Go.RowKit

/-- A tree with any kids. -/
inductive GT where
  | mk (h f l g : Int) (x : RV) (k : List GT)
mutual
def GT.td : GT → TD
  | .mk h f l g x k => ⟨h, f, l, g, x, GT.rows k⟩
def GT.rows : List GT → List (List D)
  | [] => []
  | t :: ts => t.td.row :: GT.rows ts
end
mutual
/-- All trees in it. -/
def GT.count : GT → Nat
  | .mk _ _ _ _ _ k => 1 + GT.counts k
def GT.counts : List GT → Nat
  | [] => 0
  | t :: ts => t.count + GT.counts ts
end
def zeT (t : TD) : Bool := t.h == 0 && t.f == 0 && t.l == 0 && t.g == 0 && eqR t.x RV.z && ((t.k.length : Int) == 0)
def fmG : GT → Bool
  | .mk h f l g x [a, b] => if h = 0 then false else fmG a && fmG b
  | .mk h f l g x k => if h = 0 then zeT (GT.mk h f l g x k).td else false
theorem rows_len : ∀ k : List GT, (GT.rows k).length = k.length
  | [] => rfl
  | t :: ts => by simp [GT.rows, rows_len ts]

attribute [local irreducible] Wp WL WO fin finB rnd Exit.then Exit.inBlock G GD LT Rd Fn FnB FvB Iter
attribute [local go_sem] RV.row TD.row
theorem none_F (t : TD) : Fn Try.prog 80 [.st t.row] (· = .s (.bool (zeT t))) := by
  refine Fn.of Try.func80 Try.ntmps80 rfl (by kernel_rfl) (fun w o => ?_)
  (repeat (first | (show G _ _ _ _ (WL _ _ _ _ (⟨some _, .binOp .eql _ _ _ _, _, _, _, none⟩ :: _)); refine G.w1 ?_ (by first | exact LT.eqW (t.x) (RV.z) | fail)) | (show G _ _ _ _ (WL _ _ _ _ (⟨some _, .binOp .eql _ _ _ _, _, _, _, some _⟩ :: _)); refine G.gC ?_ (by first | (refine gi ?_; intros; exact LT.eqW (t.x) (RV.z)) | fail) rfl rfl) | (show GD _ _ _ _ _ _ _ _ _ _ (⟨some _, .binOp .eql _ _ _ _, _, _, _, none⟩ :: _); refine GD.w1 ?_ (by first | exact LT.eqW (t.x) (RV.z) | fail)) | (show GD _ _ _ _ _ _ _ _ _ _ (⟨some _, .binOp .eql _ _ _ _, _, _, _, some _⟩ :: _); refine GD.gC ?_ (by first | (refine gi ?_; intros; exact LT.eqW (t.x) (RV.z)) | fail) rfl rfl) | (show G _ _ _ _ (WL _ _ _ _ (⟨some _, .binOp .neq _ _ _ _, _, _, _, none⟩ :: _)); refine G.w1 ?_ (by first | exact LT.neW (t.x) (RV.z) | fail)) | (show G _ _ _ _ (WL _ _ _ _ (⟨some _, .binOp .neq _ _ _ _, _, _, _, some _⟩ :: _)); refine G.gC ?_ (by first | (refine gi ?_; intros; exact LT.neW (t.x) (RV.z)) | fail) rfl rfl) | (show GD _ _ _ _ _ _ _ _ _ _ (⟨some _, .binOp .neq _ _ _ _, _, _, _, none⟩ :: _); refine GD.w1 ?_ (by first | exact LT.neW (t.x) (RV.z) | fail)) | (show GD _ _ _ _ _ _ _ _ _ _ (⟨some _, .binOp .neq _ _ _ _, _, _, _, some _⟩ :: _); refine GD.gC ?_ (by first | (refine gi ?_; intros; exact LT.neW (t.x) (RV.z)) | fail) rfl rfl) | ((repeat (revert hK; revert K)); refine wk ?_; repeat intro K hK) | refine wkg ?_))
  refine G.fin1 (by first | exact rvOk.tmp | exact rvOk.cellS | exact rvOk.cell1 | fail) rfl ?_
  simp only [zeT, Bool.cond_false_right]
theorem empty_F (t : TD) : Fn Try.prog 70 [.st t.row] (· = .s (.bool (zeT t))) := by
  refine Fn.of Try.func70 Try.ntmps70 rfl (by kernel_rfl) (fun w o => ?_)
  (repeat (first | (show G _ _ _ _ (WL _ _ _ _ (⟨some _, .binOp .eql _ _ _ _, _, _, _, none⟩ :: _)); refine G.w1 ?_ (by first | exact LT.eqW (t.x) (RV.z) | fail)) | (show G _ _ _ _ (WL _ _ _ _ (⟨some _, .binOp .eql _ _ _ _, _, _, _, some _⟩ :: _)); refine G.gC ?_ (by first | (refine gi ?_; intros; exact LT.eqW (t.x) (RV.z)) | fail) rfl rfl) | (show GD _ _ _ _ _ _ _ _ _ _ (⟨some _, .binOp .eql _ _ _ _, _, _, _, none⟩ :: _); refine GD.w1 ?_ (by first | exact LT.eqW (t.x) (RV.z) | fail)) | (show GD _ _ _ _ _ _ _ _ _ _ (⟨some _, .binOp .eql _ _ _ _, _, _, _, some _⟩ :: _); refine GD.gC ?_ (by first | (refine gi ?_; intros; exact LT.eqW (t.x) (RV.z)) | fail) rfl rfl) | (show G _ _ _ _ (WL _ _ _ _ (⟨some _, .binOp .neq _ _ _ _, _, _, _, none⟩ :: _)); refine G.w1 ?_ (by first | exact LT.neW (t.x) (RV.z) | fail)) | (show G _ _ _ _ (WL _ _ _ _ (⟨some _, .binOp .neq _ _ _ _, _, _, _, some _⟩ :: _)); refine G.gC ?_ (by first | (refine gi ?_; intros; exact LT.neW (t.x) (RV.z)) | fail) rfl rfl) | (show GD _ _ _ _ _ _ _ _ _ _ (⟨some _, .binOp .neq _ _ _ _, _, _, _, none⟩ :: _); refine GD.w1 ?_ (by first | exact LT.neW (t.x) (RV.z) | fail)) | (show GD _ _ _ _ _ _ _ _ _ _ (⟨some _, .binOp .neq _ _ _ _, _, _, _, some _⟩ :: _); refine GD.gC ?_ (by first | (refine gi ?_; intros; exact LT.neW (t.x) (RV.z)) | fail) rfl rfl) | ((repeat (revert hK; revert K)); refine wk ?_; repeat intro K hK) | refine wkg ?_))
  refine G.fin1 (by first | exact rvOk.tmp | exact rvOk.cellS | exact rvOk.cell1 | fail) rfl ?_
  simp only [zeT, Bool.cond_false_right]
theorem formed_z (t : TD) (h : t.h = 0) : Fn Try.prog 71 [.st t.row] (· = .s (.bool (zeT t))) := by
  have hb : (t.h == 0) = true := by simpa using h
  refine Fn.of Try.func71 Try.ntmps71 rfl (by kernel_rfl) (fun w o => ?_)
  (repeat (first | refine G.cW (none_F t) ?_ | refine G.cgW (none_F t) ?_ | refine GD.cW (none_F t) ?_ | refine GD.cgW (none_F t) ?_ | ((repeat (revert hK; revert K)); refine wk ?_; repeat intro K hK) | refine wkg ?_))
  refine G.fin1 (by first | exact rvOk.tmp | exact rvOk.cellS | exact rvOk.cell1 | fail) rfl ?_
  rfl
theorem formed_n (t : TD) (h : t.h ≠ 0) (hl : t.k.length ≠ 2) : Fn Try.prog 71 [.st t.row] (· = .s (.bool false)) := by
  have hb : (t.h == 0) = false := by simpa using h
  have hc : ((t.k.length : Int) == 2) = false := by simp; omega
  refine Fn.of Try.func71 Try.ntmps71 rfl (by kernel_rfl) (fun w o => ?_)
  (repeat (first | ((repeat (revert hK; revert K)); refine wk ?_; repeat intro K hK) | refine wkg ?_))
  refine G.fin1 (by first | exact rvOk.tmp | exact rvOk.cellS | exact rvOk.cell1 | fail) rfl ?_
  rfl
theorem formed_2 (t a b : TD) (x y : Bool) (h : t.h ≠ 0) (hk : t.k = [a.row, b.row]) (ha : Fn Try.prog 71 [.st a.row] (· = .s (.bool x))) (hb : Fn Try.prog 71 [.st b.row] (· = .s (.bool y))) : Fn Try.prog 71 [.st t.row] (· = .s (.bool (x && y))) := by
  have h0 : (t.h == 0) = false := by simpa using h
  obtain ⟨th, tf, tl, tg, tx, tk⟩ := t
  dsimp only at hk
  subst hk
  refine Fn.of Try.func71 Try.ntmps71 rfl (by kernel_rfl) (fun w o => ?_)
  (repeat (first | refine G.cW (ha) ?_ | refine G.cgW (ha) ?_ | refine GD.cW (ha) ?_ | refine GD.cgW (ha) ?_ | refine G.cW (hb) ?_ | refine G.cgW (hb) ?_ | refine GD.cW (hb) ?_ | refine GD.cgW (hb) ?_ | ((repeat (revert hK; revert K)); refine wk ?_; repeat intro K hK) | refine wkg ?_))
  refine G.fin1 (by first | exact rvOk.tmp | exact rvOk.cellS | exact rvOk.cell1 | fail) rfl ?_
  cases x <;> rfl
theorem formed_o (h f l g : Int) (x : RV) (k : List GT) (hf : fmG (.mk h f l g x k) = if h = 0 then zeT (GT.mk h f l g x k).td else false) (hk : k.length ≠ 2) : Fn Try.prog 71 [.st (GT.mk h f l g x k).td.row] (· = .s (.bool (fmG (.mk h f l g x k)))) := by
  rw [hf]
  by_cases h0 : h = 0
  · rw [if_pos h0]
    exact formed_z _ h0
  · rw [if_neg h0]
    exact formed_n _ h0 (by simp only [GT.td, rows_len]; exact hk)
theorem formed_G : ∀ t : GT, Fn Try.prog 71 [.st t.td.row] (· = .s (.bool (fmG t)))
  | .mk h f l g x [a, b] => by
    by_cases h0 : h = 0
    · rw [show fmG (.mk h f l g x [a, b]) = zeT (GT.mk h f l g x [a, b]).td by simp [fmG, h0, zeT, GT.td, GT.rows]]
      exact formed_z _ h0
    · rw [show fmG (.mk h f l g x [a, b]) = (fmG a && fmG b) by simp [fmG, h0]]
      exact formed_2 _ a.td b.td _ _ h0 rfl (formed_G a) (formed_G b)
  | .mk h f l g x [] => formed_o h f l g x [] (by simp [fmG]) (by simp)
  | .mk h f l g x [a] => formed_o h f l g x [a] (by simp [fmG]) (by simp)
  | .mk h f l g x (a :: b :: c :: r) => formed_o h f l g x (a :: b :: c :: r) (by simp [fmG]) (by simp)
theorem rformed_z (t : TD) (h : t.h = 0) : Fn Try.prog 44 [.st t.row] (· = .s (.bool (zeT t))) := by
  have hb : (t.h == 0) = true := by simpa using h
  refine Fn.of Try.func44 Try.ntmps44 rfl (by kernel_rfl) (fun w o => ?_)
  (repeat (first | refine G.cW (empty_F t) ?_ | refine G.cgW (empty_F t) ?_ | refine GD.cW (empty_F t) ?_ | refine GD.cgW (empty_F t) ?_ | ((repeat (revert hK; revert K)); refine wk ?_; repeat intro K hK) | refine wkg ?_))
  refine G.fin1 (by first | exact rvOk.tmp | exact rvOk.cellS | exact rvOk.cell1 | fail) rfl ?_
  rfl
theorem rformed_n (t : TD) (h : t.h ≠ 0) (hl : t.k.length ≠ 2) : Fn Try.prog 44 [.st t.row] (· = .s (.bool false)) := by
  have hb : (t.h == 0) = false := by simpa using h
  have hc : ((t.k.length : Int) == 2) = false := by simp; omega
  refine Fn.of Try.func44 Try.ntmps44 rfl (by kernel_rfl) (fun w o => ?_)
  (repeat (first | ((repeat (revert hK; revert K)); refine wk ?_; repeat intro K hK) | refine wkg ?_))
  refine G.fin1 (by first | exact rvOk.tmp | exact rvOk.cellS | exact rvOk.cell1 | fail) rfl ?_
  rfl
theorem rformed_2 (t a b : TD) (x y : Bool) (h : t.h ≠ 0) (hk : t.k = [a.row, b.row]) (ha : Fn Try.prog 44 [.st a.row] (· = .s (.bool x))) (hb : Fn Try.prog 44 [.st b.row] (· = .s (.bool y))) : Fn Try.prog 44 [.st t.row] (· = .s (.bool (x && y))) := by
  have h0 : (t.h == 0) = false := by simpa using h
  obtain ⟨th, tf, tl, tg, tx, tk⟩ := t
  dsimp only at hk
  subst hk
  refine Fn.of Try.func44 Try.ntmps44 rfl (by kernel_rfl) (fun w o => ?_)
  (repeat (first | refine G.cW (ha) ?_ | refine G.cgW (ha) ?_ | refine GD.cW (ha) ?_ | refine GD.cgW (ha) ?_ | refine G.cW (hb) ?_ | refine G.cgW (hb) ?_ | refine GD.cW (hb) ?_ | refine GD.cgW (hb) ?_ | ((repeat (revert hK; revert K)); refine wk ?_; repeat intro K hK) | refine wkg ?_))
  refine G.fin1 (by first | exact rvOk.tmp | exact rvOk.cellS | exact rvOk.cell1 | fail) rfl ?_
  cases x <;> rfl
theorem rformed_o (h f l g : Int) (x : RV) (k : List GT) (hf : fmG (.mk h f l g x k) = if h = 0 then zeT (GT.mk h f l g x k).td else false) (hk : k.length ≠ 2) : Fn Try.prog 44 [.st (GT.mk h f l g x k).td.row] (· = .s (.bool (fmG (.mk h f l g x k)))) := by
  rw [hf]
  by_cases h0 : h = 0
  · rw [if_pos h0]
    exact rformed_z _ h0
  · rw [if_neg h0]
    exact rformed_n _ h0 (by simp only [GT.td, rows_len]; exact hk)
theorem rformed_G : ∀ t : GT, Fn Try.prog 44 [.st t.td.row] (· = .s (.bool (fmG t)))
  | .mk h f l g x [a, b] => by
    by_cases h0 : h = 0
    · rw [show fmG (.mk h f l g x [a, b]) = zeT (GT.mk h f l g x [a, b]).td by simp [fmG, h0, zeT, GT.td, GT.rows]]
      exact rformed_z _ h0
    · rw [show fmG (.mk h f l g x [a, b]) = (fmG a && fmG b) by simp [fmG, h0]]
      exact rformed_2 _ a.td b.td _ _ h0 rfl (rformed_G a) (rformed_G b)
  | .mk h f l g x [] => rformed_o h f l g x [] (by simp [fmG]) (by simp)
  | .mk h f l g x [a] => rformed_o h f l g x [a] (by simp [fmG]) (by simp)
  | .mk h f l g x (a :: b :: c :: r) => rformed_o h f l g x (a :: b :: c :: r) (by simp [fmG]) (by simp)
theorem to_ze (h f l g : Int) (x : RV) (k : List GT) (hf : h = 0 ∧ zeT (GT.mk h f l g x k).td = true) : ∃ b : BT, b.td = (GT.mk h f l g x k).td ∧ b.ok ∧ b.nodes.length ≤ (GT.mk h f l g x k).count := by
  obtain ⟨rfl, hz⟩ := hf
  simp only [zeT, Bool.and_eq_true, beq_iff_eq, GT.td, rows_len] at hz
  obtain ⟨⟨⟨⟨⟨_, rfl⟩, rfl⟩, rfl⟩, hx⟩, hk⟩ := hz
  have hk' : k = [] := List.length_eq_zero_iff.1 (by omega)
  subst hk'
  refine ⟨.E, ?_, trivial, by simp [BT.nodes]⟩
  have hx' : x = RV.z := (eqR_iff _ _).1 hx
  rw [hx']
  rfl
/-- A formed tree. -/
theorem to_bt : ∀ t : GT, fmG t = true → ∃ b : BT, b.td = t.td ∧ b.ok ∧ b.nodes.length ≤ t.count
  | .mk h f l g x [a, b], hf => by
    by_cases h0 : h = 0
    · simp [fmG, h0] at hf
    · simp only [fmG, h0, if_false, Bool.and_eq_true] at hf
      obtain ⟨u, e1, e2, e3⟩ := to_bt a hf.1
      obtain ⟨v, e4, e5, e6⟩ := to_bt b hf.2
      refine ⟨.N h f l g u x v, by simp only [BT.td, GT.td, GT.rows, e1, e4], ⟨h0, e2, e5⟩, ?_⟩
      simp only [BT.nodes, List.length_append, List.length_cons, GT.count, GT.counts]
      omega
  | .mk h f l g x [], hf => to_ze h f l g x [] (by simpa [fmG] using hf)
  | .mk h f l g x [a], hf => to_ze h f l g x [a] (by simpa [fmG] using hf)
  | .mk h f l g x (a :: b :: c :: r), hf => to_ze h f l g x (a :: b :: c :: r) (by simpa [fmG] using hf)

end Go.Proofs.Ytmajkjkakciaiaa

set_option linter.unusedSimpArgs false
set_option linter.unusedVariables false
namespace Go.Proofs.Ytmajkjkakciaiaa
open Go.RowKit

mutual
def nodG : GT → Int → Int
  | .mk _ _ _ _ _ k, lim => nodL k 1 lim
def nodL : List GT → Int → Int → Int
  | [], n, _ => n
  | t :: ts, n, lim => if n ≤ lim then nodL ts (n + nodG t (lim - n)) lim else n
end
mutual
theorem nodG_bd : ∀ (t : GT) (lim : Int), 0 ≤ lim → 1 ≤ nodG t lim ∧ nodG t lim ≤ lim + 1 ∧ (nodG t lim ≤ lim → nodG t lim = t.count)
  | .mk _ _ _ _ _ k, lim, h => by
    obtain ⟨h1, h2, h3⟩ := nodL_bd k 1 lim (by omega)
    refine ⟨h1, h2, fun h4 => ?_⟩
    have := h3 h4
    simp only [nodG, GT.count, this]
    omega
theorem nodL_bd : ∀ (k : List GT) (n lim : Int), n ≤ lim + 1 → n ≤ nodL k n lim ∧ nodL k n lim ≤ lim + 1 ∧ (nodL k n lim ≤ lim → nodL k n lim = n + GT.counts k)
  | [], n, lim, h => by simp [nodL, GT.counts]; omega
  | t :: ts, n, lim, h => by
    simp only [nodL]
    by_cases hn : n ≤ lim
    · rw [if_pos hn]
      obtain ⟨a1, a2, a3⟩ := nodG_bd t (lim - n) (by omega)
      obtain ⟨b1, b2, b3⟩ := nodL_bd ts (n + nodG t (lim - n)) lim (by omega)
      refine ⟨by omega, b2, fun h4 => ?_⟩
      have e1 := b3 h4
      have e2 := a3 (by omega)
      rw [e1, e2]
      simp only [GT.counts]
      omega
    · rw [if_neg hn]
      refine ⟨by omega, by omega, fun h4 => by omega⟩
end

attribute [local irreducible] Wp WL WO fin finB rnd Exit.then Exit.inBlock G GD LT Rd Fn FnB FvB Iter
attribute [local go_sem] RV.row TD.row
def NodOK (t : GT) : Prop := ∀ lim : Int, 0 ≤ lim → lim ≤ 1000 → Fn Try.prog 24 [.st t.td.row, .s (.int .i64 lim)] (· = .s (.int .i64 (nodG t lim)))
def ndI (t : TD) (lim : Int) (z : Nat × Int) : List (Nat × AV) × Bs := ([(6, .d (.s (.int .i64 (z.1 : Int)))), (5, .d (.s (.int .i64 z.2))), (2, .p 0 0), (1, .d (.s (.int .i64 lim)))], [(0, some (26, t.row.map .d))])
theorem rows_get : ∀ (k : List GT) (i : Nat), (GT.rows k)[i]? = (k[i]?).map (fun t => t.td.row)
  | [], i => by simp [GT.rows]
  | t :: ts, 0 => rfl
  | t :: ts, i + 1 => by simp only [GT.rows, List.getElem?_cons_succ]; exact rows_get ts i
theorem nodes_step (h f l g : Int) (x : RV) (k : List GT) (ih : ∀ s ∈ k, NodOK s) : NodOK (.mk h f l g x k) := by
  intro lim h0 h1
  refine Fn.of Try.func24 Try.ntmps24 rfl (by kernel_rfl) (fun w o => ?_)
  (repeat (first | ((repeat (revert hK; revert K)); refine wk ?_; repeat intro K hK) | refine wkg ?_))
  refine G.loop (ndI (GT.mk h f l g x k).td lim) (fun z => z.1 ≤ k.length ∧ (z.1 : Int) + 1 ≤ z.2 ∧ z.2 ≤ 1001 ∧ nodL (k.drop z.1) z.2 lim = nodG (.mk h f l g x k) lim) (fun z => k.length - z.1) ?_ ?_
  · exact G.at (0, 1) [(0, 0)] ⟨by simp, by simp, by simp, rfl⟩ (by repeat (first | exact trivial | refine ⟨⟨rfl, rfl⟩, ?_⟩)) (by repeat (first | exact trivial | refine ⟨⟨rfl, rfl, rfl⟩, ?_⟩ | refine ⟨⟨rfl, by rw [renL_d]; rfl, kbL_d _ _⟩, ?_⟩ | refine ⟨rfl, ?_⟩)) (by decide)
  · rintro ⟨i, n⟩ ⟨h2, h3, h4, h5⟩
    dsimp only at h2 h3 h4 h5
    dsimp only [ndI]
    have hkl : ((GT.mk h f l g x k).td.k.length : Int) = k.length := by simp [GT.td, rows_len]
    by_cases hi : i < k.length
    · have hr : (GT.mk h f l g x k).td.k[i]? = some (k[i]).td.row := by
        simp only [GT.td]
        rw [rows_get, List.getElem?_eq_getElem hi]
        rfl
      by_cases hn : n ≤ lim
      · have hd : k.drop i = k[i] :: k.drop (i + 1) := List.drop_eq_getElem_cons hi
        rw [hd] at h5
        simp only [nodL, if_pos hn] at h5
        obtain ⟨b1, b2, _⟩ := nodG_bd k[i] (lim - n) (by omega)
        have hc := ih k[i] (List.getElem_mem hi) (lim - n) (by omega) (by omega)
        (repeat (first | refine G.cW (hc) ?_ | refine G.cgW (hc) ?_ | refine GD.cW (hc) ?_ | refine GD.cgW (hc) ?_ | (show G _ _ _ _ (WL _ _ _ _ (⟨some _, .indexAddr _ _ _, _, _, _, none⟩ :: _)); refine G.w1 ?_ (by first | exact LT.rd (Rd.ixv i (hr)) rfl | fail)) | (show G _ _ _ _ (WL _ _ _ _ (⟨some _, .indexAddr _ _ _, _, _, _, some _⟩ :: _)); refine G.gC ?_ (by first | (refine gi ?_; intros; exact LT.rd (Rd.ixv i (hr)) rfl) | fail) rfl rfl) | (show GD _ _ _ _ _ _ _ _ _ _ (⟨some _, .indexAddr _ _ _, _, _, _, none⟩ :: _); refine GD.w1 ?_ (by first | exact LT.rd (Rd.ixv i (hr)) rfl | fail)) | (show GD _ _ _ _ _ _ _ _ _ _ (⟨some _, .indexAddr _ _ _, _, _, _, some _⟩ :: _); refine GD.gC ?_ (by first | (refine gi ?_; intros; exact LT.rd (Rd.ixv i (hr)) rfl) | fail) rfl rfl) | ((repeat (revert hK; revert K)); refine wk ?_; repeat intro K hK) | refine wkg ?_))
        refine G.at (i + 1, n + nodG k[i] (lim - n)) [(0, 0)] ⟨⟨by omega, by dsimp only; omega, by omega, h5⟩, by dsimp only; omega⟩ (by repeat (first | exact trivial | refine ⟨⟨rfl, rfl⟩, ?_⟩)) (by repeat (first | exact trivial | refine ⟨⟨rfl, rfl, rfl⟩, ?_⟩ | refine ⟨⟨rfl, by rw [renL_d]; rfl, kbL_d _ _⟩, ?_⟩ | refine ⟨rfl, ?_⟩)) (by decide)
      · (repeat (first | ((repeat (revert hK; revert K)); refine wk ?_; repeat intro K hK) | refine wkg ?_))
        refine G.fin1 (by first | exact rvOk.tmp | exact rvOk.cellS | exact rvOk.cell1 | fail) rfl ?_
        rw [← h5]
        have hd : k.drop i = k[i] :: k.drop (i + 1) := List.drop_eq_getElem_cons hi
        rw [hd]
        simp only [nodL, if_neg hn]
    · (repeat (first | ((repeat (revert hK; revert K)); refine wk ?_; repeat intro K hK) | refine wkg ?_))
      refine G.fin1 (by first | exact rvOk.tmp | exact rvOk.cellS | exact rvOk.cell1 | fail) rfl ?_
      rw [← h5]
      have hd : k.drop i = [] := List.drop_eq_nil_of_le (by omega)
      rw [hd]
      rfl
mutual
theorem nodes_G : ∀ t : GT, NodOK t
  | .mk h f l g x k => nodes_step h f l g x k (nodes_L k)
theorem nodes_L : ∀ (k : List GT), ∀ s ∈ k, NodOK s
  | [], s, hs => by cases hs
  | t :: ts, s, hs => by
    rcases List.mem_cons.1 hs with e | hs
    · rw [e]; exact nodes_G t
    · exact nodes_L ts s hs
end
def fewG (t : GT) : Bool := decide (nodG t 200 ≤ 200)
theorem few_G (t : GT) : Fn Try.prog 10 [.st t.td.row] (· = .s (.bool (fewG t))) := by
  have hc := nodes_G t 200 (by omega) (by omega)
  refine Fn.of Try.func10 Try.ntmps10 rfl (by kernel_rfl) (fun w o => ?_)
  (repeat (first | refine G.cW (hc) ?_ | refine G.cgW (hc) ?_ | refine GD.cW (hc) ?_ | refine GD.cgW (hc) ?_ | ((repeat (revert hK; revert K)); refine wk ?_; repeat intro K hK) | refine wkg ?_))
  refine G.fin1 (by first | exact rvOk.tmp | exact rvOk.cellS | exact rvOk.cell1 | fail) rfl ?_
  rfl
theorem few_cnt {t : GT} (h : fewG t = true) : t.count ≤ 200 := by
  have h1 : nodG t 200 ≤ 200 := by simpa [fewG] using h
  have := (nodG_bd t 200 (by omega)).2.2 h1
  omega

end Go.Proofs.Ytmajkjkakciaiaa

set_option linter.unusedSimpArgs false
set_option linter.unusedVariables false
namespace Go.Proofs.Ytmajkjkakciaiaa
open Go.RowKit

/-- A row that begins as nil. -/
theorem FnB.nil1 {P : Program} {K T : Nat} {d1 : D} {x : AV} {bs' : Bs} (h : FnB P CT K [.d d1, .o 101 0] [(101, some (T, []))] x bs') : FnB P CT K [.d d1, .d (.s (.slice none 0 0))] [(101, none)] x bs' := by
  refine ⟨h.1, fun X vs hC hk hb hv => ?_⟩
  have hk0 : X.k = [] := hk
  have hX : HB P { X with E0 := X.E0.set 101 0 (.slice none 0 0) true } [(101, some (T, []))] (X.E0.set 101 0 (.slice none 0 0) true) X.w := by
    have hl : ∀ b, live (X.E0.set 101 0 (.slice none 0 0) true) [(101, some (T, []))] b → False := fun b ⟨⟨q, h1⟩, h2⟩ => by
      rw [lk_cons] at h1
      split at h1
      · rename_i he; subst he; rw [Env.set_nl] at h2; cases h2
      · simp [lk] at h1
    refine ⟨hb.ext, hb.o0, ?_, fun b T' cs hbk => ?_, fun b hb' => (hl b hb').elim, fun b b' h1 => (hl b h1).elim⟩
    · show EnK X.k _ _ _
      rw [hk0]
      exact .nil
    · rw [lk_cons] at hbk
      split at hbk
      · rename_i he
        subst he
        simp only [Option.some.injEq, Prod.mk.injEq] at hbk
        obtain ⟨rfl, rfl⟩ := hbk
        exact .inl ⟨Env.set_nl .., rfl, Env.set_V ..⟩
      · simp [lk] at hbk
  have := h.2 { X with E0 := X.E0.set 101 0 (.slice none 0 0) true } vs trivial hk hX ?_
  · refine this.mono ?_
    rintro e W' ⟨u, E', h1, h2, h3⟩
    refine ⟨u, E', h1, ⟨h2.ext, h2.o0, ?_, h2.bk, h2.lo, h2.nd⟩, h3⟩
    rw [hk0]
    exact .nil
  · have ho : ∀ r, ownS (X.E0.set 101 0 (.slice none 0 0) true) X.o [(101, some (T, []))] r → ownS X.E0 X.o [(101, none)] r := by
      rintro r (h1 | ⟨b, ⟨⟨q, h1⟩, h2⟩, _⟩)
      · exact .inl h1
      · rw [lk_cons] at h1
        split at h1
        · rename_i he; subst he; rw [Env.set_nl] at h2; cases h2
        · simp [lk] at h1
    cases hv with
    | cons h1 t1 =>
      cases t1 with
      | cons h2 t2 =>
        cases t2
        cases h1 with
        | d h1 =>
          obtain rfl := h2.scalar
          exact .cons (.d (h1.keeps (.of (fun _ _ _ => rfl) (Nat.le_refl _) (fun r _ h => ho r h)))) (.cons (.o ⟨_, lk_self _ _ _⟩ (by rw [Env.set_V])) .nil)
def regR (t : BT) : List (List D) := t.nodes.map (fun n => n.td.x.row)
theorem regR_N (h f l g : Int) (a : BT) (x : RV) (b : BT) : regR (.N h f l g a x b) = regR a ++ x.row :: regR b := by simp [regR, BT.nodes, BT.td]

attribute [local irreducible] Wp WL WO fin finB rnd Exit.then Exit.inBlock G GD LT Rd Fn FnB FvB Iter
attribute [local go_sem] RV.row TD.row
theorem regs_E (rows : List (List D)) (n : Nat) : FnB Try.prog CT 20 [.d (.st BT.E.td.row), .o 101 n] [(101, some (23, rows.flatten.map .d))] (.o 101 n) [(101, some (23, rows.flatten.map .d))] := by
  refine FnB.of (ks := []) CT.c Try.func20 Try.ntmps20 rfl (by kernel_rfl) (fun w o m E0 hCX => ?_) (hks := kns_eq (l := [101]) rfl (by decide)); (try dsimp only [Is])
  (repeat (first | ((repeat (revert hK; revert K)); refine wk ?_; repeat intro K hK) | refine wkg ?_))
  refine G.finB1 rfl rfl (by rfl) (by first | ((repeat (first | exact trivial | refine ⟨.inl rfl, ?_⟩ | refine ⟨.inr rfl, ?_⟩)); done) | fail) (by first | exact Is.cl (hcl _) | exact Is.cl6 (hcl _) | ((repeat (first | exact trivial | refine ⟨ClE.some rfl, ?_⟩ | (with_reducible refine ClB.d ?_) | (with_reducible refine ⟨ClE.some (numsL_d _ _), ?_⟩) | refine ⟨ClE.none, ?_⟩)); done) | fail) (by rfl)
set_option maxHeartbeats 1000000 in
theorem regs_N (h f l g : Int) (a : BT) (x : RV) (b : BT) (h0 : h ≠ 0) (rows ra rb : List (List D)) (n na nb : Nat) (hn : n + na ≤ 90000)
    (h1 : FvB Try.prog CT (.fn 20 []) [.d (.st a.td.row), .o 101 n] [(101, some (23, rows.flatten.map .d))] (.o 101 (n + na)) [(101, some (23, (rows ++ ra).flatten.map .d))])
    (h2 : FvB Try.prog CT (.fn 20 []) [.d (.st b.td.row), .o 101 (n + na + 1)] [(101, some (23, (rows ++ ra ++ [x.row]).flatten.map .d))] (.o 101 (n + na + 1 + nb)) [(101, some (23, (rows ++ ra ++ [x.row] ++ rb).flatten.map .d))]) :
    FnB Try.prog CT 20 [.d (.st (BT.N h f l g a x b).td.row), .o 101 n] [(101, some (23, rows.flatten.map .d))] (.o 101 (n + na + 1 + nb)) [(101, some (23, (rows ++ ra ++ [x.row] ++ rb).flatten.map .d))] := by
  have hb : (h == 0) = false := by simpa using h0
  refine FnB.of (ks := []) CT.c Try.func20 Try.ntmps20 rfl (by kernel_rfl) (fun w o m E0 hCX => ?_) (hks := kns_eq (l := [101]) rfl (by decide)); (try dsimp only [Is])
  (repeat (first | (show G _ _ _ _ (WL _ _ _ _ (⟨some _, .call _, _, _, _, none⟩ :: _)); refine G.cvW ( h1) ?_) | ((repeat (revert hK; revert K)); refine wkT ?_; repeat intro K hK) | refine wkg ?_))
  refine G.ren (al' := [(23, .d (.st b.td.row)), (24, .o 101 (n + na + 1))]) (bs' := [(101, some (23, (rows ++ ra ++ [x.row]).flatten.map .d))]) [(101, 3)] ?_ (by repeat (first | exact trivial | refine ⟨⟨rfl, rfl⟩, ?_⟩)) (by repeat (first | exact trivial | refine ⟨⟨rfl, rfl, rfl⟩, ?_⟩ | refine ⟨⟨rfl, by rw [renL_d]; rfl, kbL_d _ _⟩, ?_⟩ | refine ⟨rfl, ?_⟩)) (by decide) (by rfl)
  (repeat (first | (show G _ _ _ _ (WL _ _ _ _ (⟨some _, .call _, _, _, _, none⟩ :: _)); refine G.cvW ( h2) ?_) | ((repeat (revert hK; revert K)); refine wkT ?_; repeat intro K hK) | refine wkg ?_))
  refine G.finB1 rfl rfl (by rfl) (by first | ((repeat (first | exact trivial | refine ⟨.inl rfl, ?_⟩ | refine ⟨.inr rfl, ?_⟩)); done) | fail) (by first | exact Is.cl (hcl _) | exact Is.cl6 (hcl _) | ((repeat (first | exact trivial | refine ⟨ClE.some rfl, ?_⟩ | (with_reducible refine ClB.d ?_) | (with_reducible refine ⟨ClE.some (numsL_d _ _), ?_⟩) | refine ⟨ClE.none, ?_⟩)); done) | fail) (by rfl)
theorem regs_F : ∀ (t : BT) (rows : List (List D)) (n : Nat), t.ok → n + t.nodes.length ≤ 90000 →
    FnB Try.prog CT 20 [.d (.st t.td.row), .o 101 n] [(101, some (23, rows.flatten.map .d))] (.o 101 (n + t.nodes.length)) [(101, some (23, (rows ++ regR t).flatten.map .d))]
  | .E, rows, n, _, _ => by
    have := regs_E rows n
    simpa [regR, BT.nodes] using this
  | .N h f l g a x b, rows, n, ⟨h0, ha, hb⟩, hn => by
    have e : (BT.N h f l g a x b).nodes.length = a.nodes.length + 1 + b.nodes.length := by simp [BT.nodes]; omega
    rw [e] at hn ⊢
    have := regs_N h f l g a x b h0 rows (regR a) (regR b) n a.nodes.length b.nodes.length (by omega) (FnB.v0 (regs_F a rows n ha (by omega))) (FnB.v0 (regs_F b _ _ hb (by omega)))
    rw [regR_N, show rows ++ (regR a ++ x.row :: regR b) = rows ++ regR a ++ [x.row] ++ regR b by simp, show n + (a.nodes.length + 1 + b.nodes.length) = n + a.nodes.length + 1 + b.nodes.length by omega]
    exact this
theorem regs0_F (t : BT) (ht : t.ok) (hn : t.nodes.length ≤ 90000) : FvB Try.prog CT (.fn 20 []) [.d (.st t.td.row), .d (.s (.slice none 0 0))] [(101, none)] (.o 101 t.nodes.length) [(101, some (23, (regR t).flatten.map .d))] := by
  have := regs_F t [] 0 ht (by omega)
  rw [Nat.zero_add] at this
  exact FnB.v0 (FnB.nil1 this)

end Go.Proofs.Ytmajkjkakciaiaa
