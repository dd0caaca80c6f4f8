/- The law AddrspacePlays as a contract. -/
import Derived.Test.YtjdpignfdncebaaGreatVrM
import Derived.Test.YtjdpignfdncebaaGreatVbM
set_option linter.unusedSimpArgs false
set_option linter.unusedVariables false
namespace Go.Proofs.YtjdpignfdncebaaGreat
open Go.RowKit

def runT (l : List OV) (i : Nat) : PT := (l.take i).foldl (fun p o => (doT p o).1) .E
theorem runT_step {l : List OV} {i : Nat} {o : OV} (h : l[i]? = some o) : runT l (i + 1) = (doT (runT l i) o).1 := by
  unfold runT
  rw [take_snoc h, List.foldl_append]
  rfl
theorem runT_asp (l : List OV) : ∀ i, ASP (runT l i)
  | 0 => by simpa [runT] using ASP.E
  | i + 1 => by
    cases h : l[i]? with
    | some o => rw [runT_step h]; exact doT_asp (runT_asp l i) o
    | none =>
      have h1 := List.getElem?_eq_none_iff.1 h
      have : runT l (i + 1) = runT l i := by unfold runT; rw [List.take_of_length_le (by omega), List.take_of_length_le h1]
      rw [this]; exact runT_asp l i
theorem ows_get (l : List OV) (i : Nat) (h : i < l.length) : (ows l)[i]? = some l[i].row := by simp [ows, h]
theorem ows_len (l : List OV) : (ows l).length = l.length := by simp [ows]

attribute [local irreducible] Wp WL WO fin finB rnd Exit.then Exit.inBlock G GD LT Rd Fn FnB FvB Iter
attribute [local go_sem] RV.row TD.row OV.row
def pyI (l : List OV) (i : Nat) : List (Nat × AV) × Bs := ([(5, .d (.s (.int .i64 (i : Int)))), (0, .d (.l (ows l))), (3, .p 0 0), (4, .p 1 0)], [(0, some (28, (runT l i).td.row.map .d)), (1, some (28, (runT l i).td.row.map .d))])
set_option maxRecDepth 100000 in
set_option maxHeartbeats 1000000 in
theorem law_plays (l : List OV) : Fn Tryz.prog 3 [.l (ows l)] (· = .s (.bool true)) := by
  have hlen : ((ows l).length : Int) = l.length := by rw [ows_len]
  by_cases h30 : 30 < l.length
  · have hb : decide (30 < ((ows l).length : Int)) = true := by rw [decide_eq_true_eq]; omega
    refine Fn.of Tryz.func3 Tryz.ntmps3 rfl (by kernel_rfl) (fun w o => ?_)
    (repeat (first | refine G.cW (awake_F) ?_ | refine G.cgW (awake_F) ?_ | refine GD.cW (awake_F) ?_ | refine GD.cgW (awake_F) ?_ | ((repeat (revert hK; revert K)); refine wk ?_; repeat intro K hK) | refine wkg ?_))
    refine G.fin1 (by first | exact rvOk.tmp | exact rvOk.cellS | exact rvOk.cell1 | fail) rfl ?_
    rfl
  · have hb : decide (30 < ((ows l).length : Int)) = false := by rw [decide_eq_false_iff_not]; omega
    refine Fn.of Tryz.func3 Tryz.ntmps3 rfl (by kernel_rfl) (fun w o => ?_)
    (repeat (first | ((repeat (revert hK; revert K)); refine wk ?_; repeat intro K hK) | refine wkg ?_))
    refine G.leB 0 PT.E.td.row le_EL ?_
    refine G.leB 1 PT.E.td.row le_EL ?_
    refine G.loop (pyI l) (fun i => i ≤ l.length) (fun i => l.length - i) ?_ ?_
    · exact G.at 0 [(0, 0), (1, 1)] (Nat.zero_le _) (by repeat (first | exact trivial | refine ⟨⟨rfl, rfl⟩, ?_⟩)) (by repeat (first | exact trivial | refine ⟨⟨rfl, rfl, rfl⟩, ?_⟩ | refine ⟨⟨rfl, by rw [renL_d]; rfl, kbL_d _ _⟩, ?_⟩ | refine ⟨rfl, ?_⟩)) (by decide)
    · intro i hi
      dsimp only [pyI]
      by_cases h : i < l.length
      · have hr := ows_get l i h
        have hd := do_P (runT_asp l i) l[i]
        have hd2 := rdo_P (runT_asp l i) l[i]
        have hst := runT_step (List.getElem?_eq_getElem h)
        have hsum : ∀ q, (doT (runT l i) l[i]).1 = q → pyI l (i + 1) = ([(5, .d (.s (.int .i64 ((i + 1 : Nat) : Int)))), (0, .d (.l (ows l))), (3, .p 0 0), (4, .p 1 0)], [(0, some (28, q.td.row.map .d)), (1, some (28, q.td.row.map .d))]) := fun q hq => by
          unfold pyI; rw [hst, hq]
        unfold resD at hd hd2
        generalize runT l i = p0 at *
        generalize doT p0 l[i] = z at *
        obtain ⟨q, e⟩ := z
        dsimp only at hd hd2
        have hs2 := hsum q rfl
        have sm := psame_P q
        have hbe : (e != e) = false := by simp
        (repeat (first | refine G.cW (hd) ?_ | refine G.cgW (hd) ?_ | refine GD.cW (hd) ?_ | refine GD.cgW (hd) ?_ | refine G.cW (hd2) ?_ | refine G.cgW (hd2) ?_ | refine GD.cW (hd2) ?_ | refine GD.cgW (hd2) ?_ | refine G.cW (sm) ?_ | refine G.cgW (sm) ?_ | refine GD.cW (sm) ?_ | refine GD.cgW (sm) ?_ | (show G _ _ _ _ (WL _ _ _ _ (⟨some _, .indexAddr _ _ _, _, _, _, none⟩ :: _)); refine G.w1 ?_ (by first | exact LT.rd (Rd.ixv i (hr)) rfl | fail)) | (show G _ _ _ _ (WL _ _ _ _ (⟨some _, .indexAddr _ _ _, _, _, _, some _⟩ :: _)); refine G.gC ?_ (by first | (refine gi ?_; intros; exact LT.rd (Rd.ixv i (hr)) rfl) | fail) rfl rfl) | (show GD _ _ _ _ _ _ _ _ _ _ (⟨some _, .indexAddr _ _ _, _, _, _, none⟩ :: _); refine GD.w1 ?_ (by first | exact LT.rd (Rd.ixv i (hr)) rfl | fail)) | (show GD _ _ _ _ _ _ _ _ _ _ (⟨some _, .indexAddr _ _ _, _, _, _, some _⟩ :: _); refine GD.gC ?_ (by first | (refine gi ?_; intros; exact LT.rd (Rd.ixv i (hr)) rfl) | fail) rfl rfl) | ((repeat (revert hK; revert K)); refine wk ?_; repeat intro K hK) | refine wkg ?_))
        refine G.at (i + 1) [(0, 0), (1, 1)] ⟨by omega, by omega⟩ ?_ ?_ (by decide)
        · rw [hs2]; exact (by repeat (first | exact trivial | refine ⟨⟨rfl, rfl⟩, ?_⟩))
        · rw [hs2]; exact (by repeat (first | exact trivial | refine ⟨⟨rfl, rfl, rfl⟩, ?_⟩ | refine ⟨⟨rfl, by rw [renL_d]; rfl, kbL_d _ _⟩, ?_⟩ | refine ⟨rfl, ?_⟩))
      · (repeat (first | refine G.cW (awake_F) ?_ | refine G.cgW (awake_F) ?_ | refine GD.cW (awake_F) ?_ | refine GD.cgW (awake_F) ?_ | ((repeat (revert hK; revert K)); refine wk ?_; repeat intro K hK) | refine wkg ?_))
        refine G.fin1 (by first | exact rvOk.tmp | exact rvOk.cellS | exact rvOk.cell1 | fail) rfl ?_
        rfl

end Go.Proofs.YtjdpignfdncebaaGreat
