/- Address spaces: Check on both sides. -/
/- Address spaces, the program's side: build, normal, slices.Values. -/
/- Address spaces, the program's side: normal, over any iterator. -/
import Derived.Test.YtmajkjkakciaiaaUfM
set_option linter.unusedSimpArgs false
set_option linter.unusedVariables false
namespace Go.Proofs.Ytmajkjkakciaiaa
open Go.RowKit

def fstE : List RV → Int
  | [] => 0
  | x :: l => if chkV x = 0 then fstE l else chkV x
def anyM : List RV → Bool
  | x :: y :: l => mrgV x y || anyM (y :: l)
  | _ => false
/-- What Check says of the list of a valid tree. -/
def chkL (l : List RV) : Int := if fstE l = 0 then (if anyM l = true then 11 else if 12 < l.length then 9 else 0) else fstE l
theorem drop_get {α : Type} {l : List α} {i : Nat} (h : i < l.length) : l.drop i = l[i] :: l.drop (i + 1) := List.drop_eq_getElem_cons h
/-- An address space: a valid tree whose list Check accepts. -/
structure ASP (p : PT) : Prop where
  g : good p
  c : chkL p.flat = 0

attribute [local irreducible] Wp WL WO fin finB rnd Exit.then Exit.inBlock G GD LT Rd Fn FnB FvB Iter
attribute [local go_sem] RV.row TD.row
def acI (p : TD) (l : List RV) (i : Nat) : List (Nat × AV) × Bs := ([(18, .d (.s (.int .i64 (i : Int)))), (17, .d (.s (.int .i64 (rws l).length))), (16, .d (.l (rws l))), (4, .d (.l (rws l)))], [])
def adI (p : TD) (l : List RV) (i : Nat) : List (Nat × AV) × Bs := ([(8, .d (.s (.int .i64 (i : Int)))), (4, .d (.l (rws l)))], [])
theorem acheck_ok {p : PT} (hp : good p) : Fn Try.prog 25 [.st p.td.row] (· = .s (.int .i64 (chkL p.flat))) := by
  have hc := pcheck_P hp
  have hl := plist_P hp
  have hlen : ((rws p.flat).length : Int) = p.flat.length := by rw [rws_len]
  have h512 := good_len hp
  refine Fn.of Try.func25 Try.ntmps25 rfl (by kernel_rfl) (fun w o => ?_)
  (repeat (first | refine G.cW (hc) ?_ | refine G.cgW (hc) ?_ | refine GD.cW (hc) ?_ | refine GD.cgW (hc) ?_ | refine G.cW (hl) ?_ | refine G.cgW (hl) ?_ | refine GD.cW (hl) ?_ | refine GD.cgW (hl) ?_ | ((repeat (revert hK; revert K)); refine wk ?_; repeat intro K hK) | refine wkg ?_))
  refine G.loop (acI p.td p.flat) (fun i => i ≤ p.flat.length ∧ fstE (p.flat.drop i) = fstE p.flat) (fun i => p.flat.length - i) ?_ ?_
  · exact G.at 0 [] ⟨Nat.zero_le _, rfl⟩ (by repeat (first | exact trivial | refine ⟨⟨rfl, rfl⟩, ?_⟩)) (by repeat (first | exact trivial | refine ⟨⟨rfl, rfl, rfl⟩, ?_⟩ | refine ⟨⟨rfl, by rw [renL_d]; rfl, kbL_d _ _⟩, ?_⟩ | refine ⟨rfl, ?_⟩)) (by decide)
  · rintro i ⟨h1, h2⟩
    dsimp only [acI]
    by_cases h : i < p.flat.length
    · have hr := rws_get p.flat i h
      rw [drop_get h, fstE] at h2
      by_cases hx : chkV p.flat[i] = 0
      · have hb : (chkV p.flat[i] != 0) = false := by simp [hx]
        rw [if_pos hx] at h2
        (repeat (first | refine G.cW (chk_F _) ?_ | refine G.cgW (chk_F _) ?_ | refine GD.cW (chk_F _) ?_ | refine GD.cgW (chk_F _) ?_ | (show G _ _ _ _ (WL _ _ _ _ (⟨some _, .indexAddr _ _ _, _, _, _, none⟩ :: _)); refine G.w1 ?_ (by first | exact LT.rd (Rd.ixv i (hr)) rfl | fail)) | (show G _ _ _ _ (WL _ _ _ _ (⟨some _, .indexAddr _ _ _, _, _, _, some _⟩ :: _)); refine G.gC ?_ (by first | (refine gi ?_; intros; exact LT.rd (Rd.ixv i (hr)) rfl) | fail) rfl rfl) | (show GD _ _ _ _ _ _ _ _ _ _ (⟨some _, .indexAddr _ _ _, _, _, _, none⟩ :: _); refine GD.w1 ?_ (by first | exact LT.rd (Rd.ixv i (hr)) rfl | fail)) | (show GD _ _ _ _ _ _ _ _ _ _ (⟨some _, .indexAddr _ _ _, _, _, _, some _⟩ :: _); refine GD.gC ?_ (by first | (refine gi ?_; intros; exact LT.rd (Rd.ixv i (hr)) rfl) | fail) rfl rfl) | ((repeat (revert hK; revert K)); refine wk ?_; repeat intro K hK) | refine wkg ?_))
        refine G.at (i + 1) [] ⟨⟨by omega, h2⟩, by omega⟩ (by repeat (first | exact trivial | refine ⟨⟨rfl, rfl⟩, ?_⟩)) (by repeat (first | exact trivial | refine ⟨⟨rfl, rfl, rfl⟩, ?_⟩ | refine ⟨⟨rfl, by rw [renL_d]; rfl, kbL_d _ _⟩, ?_⟩ | refine ⟨rfl, ?_⟩)) (by decide)
      · have hb : (chkV p.flat[i] != 0) = true := by simp [hx]
        rw [if_neg hx] at h2
        (repeat (first | refine G.cW (chk_F _) ?_ | refine G.cgW (chk_F _) ?_ | refine GD.cW (chk_F _) ?_ | refine GD.cgW (chk_F _) ?_ | (show G _ _ _ _ (WL _ _ _ _ (⟨some _, .indexAddr _ _ _, _, _, _, none⟩ :: _)); refine G.w1 ?_ (by first | exact LT.rd (Rd.ixv i (hr)) rfl | fail)) | (show G _ _ _ _ (WL _ _ _ _ (⟨some _, .indexAddr _ _ _, _, _, _, some _⟩ :: _)); refine G.gC ?_ (by first | (refine gi ?_; intros; exact LT.rd (Rd.ixv i (hr)) rfl) | fail) rfl rfl) | (show GD _ _ _ _ _ _ _ _ _ _ (⟨some _, .indexAddr _ _ _, _, _, _, none⟩ :: _); refine GD.w1 ?_ (by first | exact LT.rd (Rd.ixv i (hr)) rfl | fail)) | (show GD _ _ _ _ _ _ _ _ _ _ (⟨some _, .indexAddr _ _ _, _, _, _, some _⟩ :: _); refine GD.gC ?_ (by first | (refine gi ?_; intros; exact LT.rd (Rd.ixv i (hr)) rfl) | fail) rfl rfl) | ((repeat (revert hK; revert K)); refine wk ?_; repeat intro K hK) | refine wkg ?_))
        refine G.fin1 (by first | exact rvOk.tmp | exact rvOk.cellS | exact rvOk.cell1 | fail) rfl ?_
        rw [chkL, if_neg (by rw [← h2]; exact hx), ← h2]
    · have h0 : fstE p.flat = 0 := by rw [← h2, List.drop_eq_nil_of_le (by omega)]; rfl
      (repeat (first | ((repeat (revert hK; revert K)); refine wk ?_; repeat intro K hK) | refine wkg ?_))
      refine G.loop (adI p.td p.flat) (fun i => 1 ≤ i ∧ (i ≤ p.flat.length ∨ i = 1) ∧ anyM (p.flat.drop (i - 1)) = anyM p.flat) (fun i => p.flat.length - i) ?_ ?_
      · exact G.at 1 [] ⟨by omega, .inr rfl, rfl⟩ (by repeat (first | exact trivial | refine ⟨⟨rfl, rfl⟩, ?_⟩)) (by repeat (first | exact trivial | refine ⟨⟨rfl, rfl, rfl⟩, ?_⟩ | refine ⟨⟨rfl, by rw [renL_d]; rfl, kbL_d _ _⟩, ?_⟩ | refine ⟨rfl, ?_⟩)) (by decide)
      · rintro i ⟨h3, h4, h5⟩
        dsimp only [adI]
        by_cases h' : i < p.flat.length
        · have hr := rws_get p.flat i h'
          have hr1 := rws_get p.flat (i - 1) (by omega)
          have hd : p.flat.drop (i - 1) = p.flat[i - 1] :: p.flat[i] :: p.flat.drop (i + 1) := by
            rw [drop_get (by omega), show i - 1 + 1 = i by omega, drop_get h']
          rw [hd, anyM] at h5
          cases hm : mrgV p.flat[i - 1] p.flat[i] with
          | true =>
            have hmf := mrg_F p.flat[i - 1] p.flat[i]
            rw [hm] at hmf
            (repeat (first | refine G.cW (hmf) ?_ | refine G.cgW (hmf) ?_ | refine GD.cW (hmf) ?_ | refine GD.cgW (hmf) ?_ | (show G _ _ _ _ (WL _ _ _ _ (⟨some _, .indexAddr _ _ _, _, _, _, none⟩ :: _)); refine G.w1 ?_ (by first | exact LT.rd (Rd.ixv i (hr)) rfl | fail)) | (show G _ _ _ _ (WL _ _ _ _ (⟨some _, .indexAddr _ _ _, _, _, _, some _⟩ :: _)); refine G.gC ?_ (by first | (refine gi ?_; intros; exact LT.rd (Rd.ixv i (hr)) rfl) | fail) rfl rfl) | (show GD _ _ _ _ _ _ _ _ _ _ (⟨some _, .indexAddr _ _ _, _, _, _, none⟩ :: _); refine GD.w1 ?_ (by first | exact LT.rd (Rd.ixv i (hr)) rfl | fail)) | (show GD _ _ _ _ _ _ _ _ _ _ (⟨some _, .indexAddr _ _ _, _, _, _, some _⟩ :: _); refine GD.gC ?_ (by first | (refine gi ?_; intros; exact LT.rd (Rd.ixv i (hr)) rfl) | fail) rfl rfl) | (show G _ _ _ _ (WL _ _ _ _ (⟨some _, .indexAddr _ _ _, _, _, _, none⟩ :: _)); refine G.w1 ?_ (by first | exact LT.rd (Rd.ixv (i - 1) (hr1)) rfl | fail)) | (show G _ _ _ _ (WL _ _ _ _ (⟨some _, .indexAddr _ _ _, _, _, _, some _⟩ :: _)); refine G.gC ?_ (by first | (refine gi ?_; intros; exact LT.rd (Rd.ixv (i - 1) (hr1)) rfl) | fail) rfl rfl) | (show GD _ _ _ _ _ _ _ _ _ _ (⟨some _, .indexAddr _ _ _, _, _, _, none⟩ :: _); refine GD.w1 ?_ (by first | exact LT.rd (Rd.ixv (i - 1) (hr1)) rfl | fail)) | (show GD _ _ _ _ _ _ _ _ _ _ (⟨some _, .indexAddr _ _ _, _, _, _, some _⟩ :: _); refine GD.gC ?_ (by first | (refine gi ?_; intros; exact LT.rd (Rd.ixv (i - 1) (hr1)) rfl) | fail) rfl rfl) | ((repeat (revert hK; revert K)); refine wk ?_; repeat intro K hK) | refine wkg ?_))
            refine G.fin1 (by first | exact rvOk.tmp | exact rvOk.cellS | exact rvOk.cell1 | fail) rfl ?_
            rw [hm, Bool.true_or] at h5
            simp [chkL, h0, ← h5]
          | false =>
            have hmf := mrg_F p.flat[i - 1] p.flat[i]
            rw [hm] at hmf
            rw [hm, Bool.false_or, ← drop_get h'] at h5
            (repeat (first | refine G.cW (hmf) ?_ | refine G.cgW (hmf) ?_ | refine GD.cW (hmf) ?_ | refine GD.cgW (hmf) ?_ | (show G _ _ _ _ (WL _ _ _ _ (⟨some _, .indexAddr _ _ _, _, _, _, none⟩ :: _)); refine G.w1 ?_ (by first | exact LT.rd (Rd.ixv i (hr)) rfl | fail)) | (show G _ _ _ _ (WL _ _ _ _ (⟨some _, .indexAddr _ _ _, _, _, _, some _⟩ :: _)); refine G.gC ?_ (by first | (refine gi ?_; intros; exact LT.rd (Rd.ixv i (hr)) rfl) | fail) rfl rfl) | (show GD _ _ _ _ _ _ _ _ _ _ (⟨some _, .indexAddr _ _ _, _, _, _, none⟩ :: _); refine GD.w1 ?_ (by first | exact LT.rd (Rd.ixv i (hr)) rfl | fail)) | (show GD _ _ _ _ _ _ _ _ _ _ (⟨some _, .indexAddr _ _ _, _, _, _, some _⟩ :: _); refine GD.gC ?_ (by first | (refine gi ?_; intros; exact LT.rd (Rd.ixv i (hr)) rfl) | fail) rfl rfl) | (show G _ _ _ _ (WL _ _ _ _ (⟨some _, .indexAddr _ _ _, _, _, _, none⟩ :: _)); refine G.w1 ?_ (by first | exact LT.rd (Rd.ixv (i - 1) (hr1)) rfl | fail)) | (show G _ _ _ _ (WL _ _ _ _ (⟨some _, .indexAddr _ _ _, _, _, _, some _⟩ :: _)); refine G.gC ?_ (by first | (refine gi ?_; intros; exact LT.rd (Rd.ixv (i - 1) (hr1)) rfl) | fail) rfl rfl) | (show GD _ _ _ _ _ _ _ _ _ _ (⟨some _, .indexAddr _ _ _, _, _, _, none⟩ :: _); refine GD.w1 ?_ (by first | exact LT.rd (Rd.ixv (i - 1) (hr1)) rfl | fail)) | (show GD _ _ _ _ _ _ _ _ _ _ (⟨some _, .indexAddr _ _ _, _, _, _, some _⟩ :: _); refine GD.gC ?_ (by first | (refine gi ?_; intros; exact LT.rd (Rd.ixv (i - 1) (hr1)) rfl) | fail) rfl rfl) | ((repeat (revert hK; revert K)); refine wk ?_; repeat intro K hK) | refine wkg ?_))
            refine G.at (i + 1) [] ⟨⟨by omega, by omega, h5⟩, by omega⟩ (by repeat (first | exact trivial | refine ⟨⟨rfl, rfl⟩, ?_⟩)) (by repeat (first | exact trivial | refine ⟨⟨rfl, rfl, rfl⟩, ?_⟩ | refine ⟨⟨rfl, by rw [renL_d]; rfl, kbL_d _ _⟩, ?_⟩ | refine ⟨rfl, ?_⟩)) (by decide)
        · have hm : anyM p.flat = false := by
            rw [← h5]
            by_cases hz : p.flat.length = 0
            · rw [List.drop_eq_nil_of_le (by omega)]; rfl
            · rw [drop_get (by omega : i - 1 < p.flat.length), List.drop_eq_nil_of_le (by omega)]; rfl
          by_cases h12 : 12 < p.flat.length
          · (repeat (first | ((repeat (revert hK; revert K)); refine wk ?_; repeat intro K hK) | refine wkg ?_))
            refine G.fin1 (by first | exact rvOk.tmp | exact rvOk.cellS | exact rvOk.cell1 | fail) rfl ?_
            simp [chkL, h0, hm, h12]
          · (repeat (first | ((repeat (revert hK; revert K)); refine wk ?_; repeat intro K hK) | refine wkg ?_))
            refine G.fin1 (by first | exact rvOk.tmp | exact rvOk.cellS | exact rvOk.cell1 | fail) rfl ?_
            simp [chkL, h0, hm, h12]
theorem acheck_bad (t : TD) (e : Int) (he : e ≠ 0) (hC : Fn Try.prog 52 [.st t.row] (· = .s (.int .i64 e))) : Fn Try.prog 25 [.st t.row] (· = .s (.int .i64 e)) := by
  have hb : (e != 0) = true := by simpa using he
  refine Fn.of Try.func25 Try.ntmps25 rfl (by kernel_rfl) (fun w o => ?_)
  (repeat (first | refine G.cW (hC) ?_ | refine G.cgW (hC) ?_ | refine GD.cW (hC) ?_ | refine GD.cgW (hC) ?_ | ((repeat (revert hK; revert K)); refine wk ?_; repeat intro K hK) | refine wkg ?_))
  refine G.fin1 (by first | exact rvOk.tmp | exact rvOk.cellS | exact rvOk.cell1 | fail) rfl ?_
  rfl
def bcI (l : List RV) (i : Nat) : List (Nat × AV) × Bs := ([(5, .d (.s (.int .i64 (i : Int)))), (4, .d (.l (rws l)))], [])
def bdI (l : List RV) (i : Nat) : List (Nat × AV) × Bs := ([(7, .d (.s (.int .i64 (i : Int)))), (4, .d (.l (rws l)))], [])
end Go.Proofs.Ytmajkjkakciaiaa

set_option linter.unusedSimpArgs false
set_option linter.unusedVariables false
namespace Go.Proofs.Ytmajkjkakciaiaa
open Go.RowKit

/-- One region more; it is merged with the last one if it can be. -/
def stepN (out : List RV) (r : RV) : List RV := match out.getLast? with
  | none => [r]
  | some a => if (mergeV a r).2 = 0 then out.dropLast ++ [(mergeV a r).1] else out ++ [r]
def normL (l : List RV) : List RV := l.foldl stepN []
def normS (l : List RV) (i : Nat) : List RV := normL (l.take i)
theorem normS_step {l : List RV} {i : Nat} {x : RV} (h : l[i]? = some x) : normS l (i + 1) = stepN (normS l i) x := by
  simp only [normS, normL]
  rw [take_snoc h, List.foldl_append]
  rfl
theorem stepN_len (out : List RV) (r : RV) : (stepN out r).length ≤ out.length + 1 := by
  unfold stepN
  split
  · simp
  · split
    · (try simp) <;> (try omega)
    · simp
theorem normL_len (l : List RV) : (normL l).length ≤ l.length := by
  have key : ∀ (l out : List RV), (l.foldl stepN out).length ≤ out.length + l.length := by
    intro l
    induction l with
    | nil => intro out; simp
    | cons x l ih =>
      intro out
      have := ih (stepN out x)
      have := stepN_len out x
      simp only [List.foldl_cons, List.length_cons]
      omega
  have := key l []
  simpa [normL] using this
theorem rws_set {out : List RV} {a m : RV} (h : out.getLast? = some a) : (rws out).set (out.length - 1) m.row = rws (out.dropLast ++ [m]) := by
  have hne : out ≠ [] := by rintro rfl; simp at h
  have e : out = out.dropLast ++ [out.getLast hne] := (List.dropLast_concat_getLast hne).symm
  conv => lhs; rw [e]
  simp only [rws, List.map_append, List.length_append, List.map_cons, List.map_nil, List.length_cons, List.length_nil]
  rw [List.set_append_right _ _ (by simp)]
  simp
theorem rws_last {out : List RV} {a : RV} (h : out.getLast? = some a) : (rws out)[out.length - 1]? = some a.row := by
  rw [List.getLast?_eq_getElem?] at h
  simp [rws, h]
theorem rws_row {l : List RV} : ∀ r ∈ rws l, r.length = 6 := by
  intro r hr
  obtain ⟨x, _, rfl⟩ := List.mem_map.1 hr
  rfl
theorem rws_app (a b : List RV) : rws (a ++ b) = rws a ++ rws b := by simp [rws]
def dst (l : List RV) : List D := l.map (fun x => .st x.row)

attribute [local irreducible] Wp WL WO fin finB rnd Exit.then Exit.inBlock G GD LT Rd Fn FnB FvB Iter
attribute [local go_sem] RV.row TD.row
theorem build_P (l : List RV) (hl : ord l) (h : l.length ≤ 12) : Fn Try.prog 29 [.l (rws l)] (· = .tup [.st (bldT l).td.row, .s (.int .i64 0)]) := by
  have hlen : ((rws l).length : Int) = l.length := by rw [rws_len]
  have hb := pbuild_P l hl
  refine Fn.of Try.func29 Try.ntmps29 rfl (by kernel_rfl) (fun w o => ?_)
  (repeat (first | refine G.cW (hb) ?_ | refine G.cgW (hb) ?_ | refine GD.cW (hb) ?_ | refine GD.cgW (hb) ?_ | ((repeat (revert hK; revert K)); refine wk ?_; repeat intro K hK) | refine wkg ?_))
  refine G.fin2 (by first | exact rvOk.tmp | exact rvOk.cellS | exact rvOk.cell1 | fail) (by first | exact rvOk.tmp | exact rvOk.cellS | exact rvOk.cell1 | fail) rfl ?_
  rfl
def zDs : List D := [.s (.int .i64 0), .s (.int .i64 0), .s (.int .i64 0), .s (.int .i64 0), .s (.int .i64 0), .s (.int .i64 0), .s (.int .i64 0), .s (.int .i64 0), .s (.int .i64 0), .s (.int .i64 0), .s (.slice none 0 0)]
theorem build_L (l : List RV) (h : 12 < l.length) : Fn Try.prog 29 [.l (rws l)] (· = .tup [.st PT.E.td.row, .s (.int .i64 9)]) := by
  have hlen : ((rws l).length : Int) = l.length := by rw [rws_len]
  refine Fn.of Try.func29 Try.ntmps29 rfl (by kernel_rfl) (fun w o => ?_)
  (repeat (first | ((repeat (revert hK; revert K)); refine wk ?_; repeat intro K hK) | refine wkg ?_))
  refine G.leB 0 PT.E.td.row le_EL ?_
  refine G.fin2 (by first | exact rvOk.tmp | exact rvOk.cellS | exact rvOk.cell1 | fail) (by first | exact rvOk.tmp | exact rvOk.cellS | exact rvOk.cell1 | fail) rfl ?_
  rfl
theorem values_F (rows : List (List D)) : Fn Try.prog 31 [.l rows] (· = .fn 60 [.pe [.l rows] 0]) := by
  refine Fn.of Try.func31 Try.ntmps31 rfl (by kernel_rfl) (fun w o => ?_)
  (repeat (first | ((repeat (revert hK; revert K)); refine wkS ?_; repeat intro K hK) | refine wkg ?_))
  refine G.frzP (ds := [.l rows]) 1 ?_
  (refine G.k (by assumption) ?_; clear hK K)
  (repeat (first | ((repeat (revert hK; revert K)); refine wk ?_; repeat intro K hK) | refine wkg ?_))
  refine G.fin1 (by first | exact rvOk.tmp | exact rvOk.cellS | exact rvOk.cell1 | fail) rfl ?_
  rfl
def vaI (rows : List (List D)) (l : Nat) (c : Nat → Nat → Option (TypeId × List AV)) (i : Nat) : List (Nat × AV) × Bs := ([(7, .d (.s (.int .i64 (i : Int)))), (6, .d (.s (.int .i64 rows.length))), (5, .d (.l rows)), (0, yv l)], Is (c i))
theorem values_I (l : List RV) (hl : l.length ≤ 90000) : Iter Try.prog (.fn 60 [.pe [.l (rws l)] 0]) (dst l) := by
  refine Iter.of fun C hCc ly c hcl hy => ?_
  have hlen : ((rws l).length : Int) = l.length := by rw [rws_len]
  refine FnB.vd (ds := [.pe [.l (rws l)] 0]) (xs := [yv ly]) ?_
  show FnB _ _ _ [yv ly, .d (.pe [.l (rws l)] 0)] _ _ _
  have hlen2 : (dst l).length = l.length := by simp [dst]
  rw [hlen2]
  refine FnB.of (ks := [100, 102, 104]) hCc Try.func60 Try.ntmps60 rfl (by kernel_rfl) (fun w o m E0 hCX => ?_) (hks := kns_Is _); (try dsimp only [Is])
  (repeat (first | ((repeat (revert hK; revert K)); refine wk ?_; repeat intro K hK) | refine wkg ?_))
  refine G.loop (vaI (rws l) ly c) (fun i => i ≤ l.length) (fun i => l.length - i) ?_ ?_
  · exact G.atR 0 (Nat.zero_le _) (by first | ((repeat (first | exact trivial | refine ⟨.inl rfl, ?_⟩ | refine ⟨.inr rfl, ?_⟩)); done) | fail) (Is.cl (hcl _)) rfl (by first | ((repeat (first | exact trivial | refine ⟨⟨rfl, by first | rfl | assumption | fail⟩, ?_⟩)); done) | fail)
  · intro i hi
    dsimp only [vaI, Is]
    by_cases h : i < l.length
    · have hr := rws_get l i h
      have hyi := hy i (.st l[i].row) (by simp [dst, h])
      (repeat (first | (show G _ _ _ _ (WL _ _ _ _ (⟨some _, .indexAddr _ _ _, _, _, _, none⟩ :: _)); refine G.w1 ?_ (by first | exact LT.rd (Rd.ixv i (hr)) rfl | fail)) | (show G _ _ _ _ (WL _ _ _ _ (⟨some _, .indexAddr _ _ _, _, _, _, some _⟩ :: _)); refine G.gC ?_ (by first | (refine gi ?_; intros; exact LT.rd (Rd.ixv i (hr)) rfl) | fail) rfl rfl) | (show GD _ _ _ _ _ _ _ _ _ _ (⟨some _, .indexAddr _ _ _, _, _, _, none⟩ :: _); refine GD.w1 ?_ (by first | exact LT.rd (Rd.ixv i (hr)) rfl | fail)) | (show GD _ _ _ _ _ _ _ _ _ _ (⟨some _, .indexAddr _ _ _, _, _, _, some _⟩ :: _); refine GD.gC ?_ (by first | (refine gi ?_; intros; exact LT.rd (Rd.ixv i (hr)) rfl) | fail) rfl rfl) | (show G _ _ _ _ (WL _ _ _ _ (⟨some _, .call _, _, _, _, none⟩ :: _)); refine G.cvCW (hyi) hCc hCX ?_) | ((repeat (revert hK; revert K)); refine wkT ?_; repeat intro K hK) | refine wkg ?_))
      refine G.atR (i + 1) ⟨by omega, by omega⟩ (by first | ((repeat (first | exact trivial | refine ⟨.inl rfl, ?_⟩ | refine ⟨.inr rfl, ?_⟩)); done) | fail) (Is.cl (hcl _)) rfl (by first | ((repeat (first | exact trivial | refine ⟨⟨rfl, by first | rfl | assumption | fail⟩, ?_⟩)); done) | fail)
    · have e : i = l.length := by omega
      subst e
      (repeat (first | ((repeat (revert hK; revert K)); refine wk ?_; repeat intro K hK) | refine wkg ?_))
      (try refine G.finBn ?_); refine G.finB0 rfl (by first | ((repeat (first | exact trivial | refine ⟨.inl rfl, ?_⟩ | refine ⟨.inr rfl, ?_⟩)); done) | fail) (by first | exact Is.cl (hcl _) | exact Is.cl6 (hcl _) | ((repeat (first | exact trivial | refine ⟨ClE.some rfl, ?_⟩ | (with_reducible refine ClB.d ?_) | (with_reducible refine ⟨ClE.some (numsL_d _ _), ?_⟩) | refine ⟨ClE.none, ?_⟩)); done) | fail) (by rfl)

end Go.Proofs.Ytmajkjkakciaiaa

set_option linter.unusedSimpArgs false
set_option linter.unusedVariables false
namespace Go.Proofs.Ytmajkjkakciaiaa
open Go.RowKit

theorem dst_get {l : List RV} {i : Nat} {d : D} (h : (dst l)[i]? = some d) : ∃ x, l[i]? = some x ∧ d = .st x.row := by
  simp only [dst, List.getElem?_map, Option.map_eq_some_iff] at h
  obtain ⟨x, h1, h2⟩ := h
  exact ⟨x, h1, h2.symm⟩
theorem stepN_0 {out : List RV} {x : RV} (h : out.length = 0) : stepN out x = out ++ [x] := by
  have : out = [] := List.length_eq_zero_iff.1 h
  subst this
  rfl
theorem stepN_m {out : List RV} {a x : RV} (h : out.getLast? = some a) (he : (mergeV a x).2 = 0) : stepN out x = out.dropLast ++ [(mergeV a x).1] := by
  unfold stepN
  rw [h]
  simp [he]
theorem stepN_n {out : List RV} {a x : RV} (h : out.getLast? = some a) (he : ¬ (mergeV a x).2 = 0) : stepN out x = out ++ [x] := by
  unfold stepN
  rw [h]
  simp [he]

attribute [local irreducible] Wp WL WO fin finB rnd Exit.then Exit.inBlock G GD LT Rd Fn FnB FvB Iter
attribute [local go_sem] RV.row TD.row
set_option maxHeartbeats 1000000 in
theorem normal_F (kf : Nat) (es : List D) (l : List RV) (hl : l.length ≤ 900) (hkf : ∃ K es', D.fn kf es = .fn K es' ∧ fbody Try.prog K = true) (it : Iter Try.prog (.fn kf es) (dst l)) : Fn Try.prog 30 [.fn kf es] (· = .l (rws (normL l))) := by
  refine Fn.of Try.func30 Try.ntmps30 rfl (by kernel_rfl) (fun w o => ?_)
  (repeat (first | ((repeat (revert hK; revert K)); refine wk ?_; repeat intro K hK) | refine wkg ?_))
  refine G.ren (al' := [(8, .d (.fn kf es)), (3, .p 100 0)]) (bs' := [(100, some (31, [.d (.s (.slice none 0 0))]))]) [(100, 0)] ?_ (by repeat (first | exact trivial | refine ⟨⟨rfl, rfl⟩, ?_⟩)) (by repeat (first | exact trivial | refine ⟨⟨rfl, rfl, rfl⟩, ?_⟩ | refine ⟨⟨rfl, by rw [renL_d]; rfl, kbL_d _ _⟩, ?_⟩ | refine ⟨rfl, ?_⟩)) (by decide) (by rfl)
  refine G.nilCell 100 101 23 ?_
  refine G.rf (alR := [(3, .p 100 0)]) it (fun i => cR 31 23 (rws (normS l i))) ?_ ?_ (by exact ⟨_, rfl, Und.refl _⟩) (fun _ j => cR.cl j) (by first | ((repeat (first | exact trivial | refine ⟨.inl rfl, ?_⟩ | refine ⟨.inr rfl, ?_⟩)); done) | fail) (by first | ((repeat (first | exact trivial | refine ⟨⟨rfl, by first | rfl | assumption | fail⟩, ?_⟩)); done) | fail) (by first | ((repeat (first | exact FkB.nil | apply FkB.n | (apply FkB.k; (first | rfl | with_reducible exact numsL_d _ _ | assumption | fail)) | apply FkB.x)); done) | fail) (by first | ((repeat (first | exact Fk.nil | (apply Fk.k; (first | rfl | assumption | fail)) | apply Fk.x)); done) | fail) (by simp only [Is, List.cons_append, List.nil_append]; rfl) (by rfl) (by rfl) hkf
  · intro ly i x hx w o m E0 K' hK'
    obtain ⟨x', hx', rfl⟩ := dst_get hx
    have hst := normS_step hx'
    have hlen : (normS l i).length ≤ 900 := by
      have h1 := normL_len (l.take i)
      have h2 : (l.take i).length ≤ l.length := by simp; omega
      unfold normS
      omega
    dsimp only at hK' ⊢
    generalize normS l i = out at hst hlen ⊢
    rw [hst] at hK'
    have hol : (rws out).length = out.length := rws_len out
    dsimp only [Is, cR]
    (repeat (first | ((repeat (revert hK; revert K)); refine wkS ?_; repeat intro K hK) | refine wkg ?_))

    by_cases h0 : out.length = 0
    · have hb : decide (0 < ((rws out).length : Int)) = false := by rw [decide_eq_false_iff_not]; omega
      rw [stepN_0 h0] at hK'
      refine hK' _ _ (fun w o m E0 => ?_)
      (repeat (first | ((repeat (revert hK; revert K)); refine wk ?_; repeat intro K hK) | refine wkg ?_))
      refine G.ren (al' := []) (bs' := [(100, some (31, [.o 101 ((rws out).length + 1)])), (101, some (23, (rws out ++ [x'.row]).flatten.map .d)), (102, none), (104, none)]) [(100, 100), (101, 8), (102, 102), (104, 104)] ?_ (by repeat (first | exact trivial | refine ⟨⟨rfl, rfl⟩, ?_⟩)) (by repeat (first | exact trivial | refine ⟨⟨rfl, rfl, rfl⟩, ?_⟩ | refine ⟨⟨rfl, by rw [renL_d]; rfl, kbL_d _ _⟩, ?_⟩ | refine ⟨rfl, ?_⟩)) (by decide) (by rfl)
      rw [rws_app, show (rws out).length + 1 = (rws out ++ rws [x']).length by simp [rws]]
      exact G.rndE (by first | ((repeat (first | exact trivial | refine ⟨.inl rfl, ?_⟩ | refine ⟨.inr rfl, ?_⟩)); done) | fail) (Is.cl (fun j => cR.cl j)) (by rfl)
    · have hb : decide (0 < ((rws out).length : Int)) = true := by rw [decide_eq_true_eq]; omega
      obtain ⟨a, ha⟩ : ∃ a, out.getLast? = some a := by
        cases hq : out.getLast? with
        | some a => exact ⟨a, rfl⟩
        | none => rw [List.getLast?_eq_none_iff] at hq; rw [hq] at h0; exact absurd rfl h0
      have hrow := rws_last ha
      have hj : out.length - 1 < (rws out).length := by omega
      have hmf := merge_F a x'
      have hi1 : ((rws out).length : Int) - 1 = ((out.length - 1 : Nat) : Int) := by omega
      by_cases he : (mergeV a x').2 = 0
      · have hbe : ((mergeV a x').2 == 0) = true := by simp [he]
        rw [stepN_m ha he] at hK'
        refine hK' _ _ (fun w o m E0 => ?_)
        (repeat (first | refine G.cW (hmf) ?_ | refine G.cgW (hmf) ?_ | refine GD.cW (hmf) ?_ | refine GD.cgW (hmf) ?_ | (show G _ _ _ _ (WL _ _ _ _ (⟨some _, .indexAddr _ _ _, _, _, _, none⟩ :: _)); refine G.w1 ?_ (by first | exact LT.rd (Rd.ixov (out.length - 1) (hj)) rfl | fail)) | (show G _ _ _ _ (WL _ _ _ _ (⟨some _, .indexAddr _ _ _, _, _, _, some _⟩ :: _)); refine G.gC ?_ (by first | (refine gi ?_; intros; exact LT.rd (Rd.ixov (out.length - 1) (hj)) rfl) | fail) rfl rfl) | (show GD _ _ _ _ _ _ _ _ _ _ (⟨some _, .indexAddr _ _ _, _, _, _, none⟩ :: _); refine GD.w1 ?_ (by first | exact LT.rd (Rd.ixov (out.length - 1) (hj)) rfl | fail)) | (show GD _ _ _ _ _ _ _ _ _ _ (⟨some _, .indexAddr _ _ _, _, _, _, some _⟩ :: _); refine GD.gC ?_ (by first | (refine gi ?_; intros; exact LT.rd (Rd.ixov (out.length - 1) (hj)) rfl) | fail) rfl rfl) | (show G _ _ _ _ (WL _ _ _ _ (⟨some _, .load _ _, _, _, _, none⟩ :: _)); refine G.w1 ?_ (by first | exact LT.rd (Rd.ldR (out.length - 1) (hrow) (rws_row)) rfl | fail)) | (show G _ _ _ _ (WL _ _ _ _ (⟨some _, .load _ _, _, _, _, some _⟩ :: _)); refine G.gC ?_ (by first | (refine gi ?_; intros; exact LT.rd (Rd.ldR (out.length - 1) (hrow) (rws_row)) rfl) | fail) rfl rfl) | (show GD _ _ _ _ _ _ _ _ _ _ (⟨some _, .load _ _, _, _, _, none⟩ :: _); refine GD.w1 ?_ (by first | exact LT.rd (Rd.ldR (out.length - 1) (hrow) (rws_row)) rfl | fail)) | (show GD _ _ _ _ _ _ _ _ _ _ (⟨some _, .load _ _, _, _, _, some _⟩ :: _); refine GD.gC ?_ (by first | (refine gi ?_; intros; exact LT.rd (Rd.ldR (out.length - 1) (hrow) (rws_row)) rfl) | fail) rfl rfl) | (show G _ _ _ _ (WL _ _ _ _ (⟨none, .store _ _ _, _, _, _, none⟩ :: _)); refine G.w0 ?_ (by first | exact LT.stRv (out.length - 1) (rws_row) (hj) | fail)) | (show GD _ _ _ _ _ _ _ _ _ _ (⟨none, .store _ _ _, _, _, _, none⟩ :: _); refine GD.w0 ?_ (by first | exact LT.stRv (out.length - 1) (rws_row) (hj) | fail)) | ((repeat (revert hK; revert K)); refine wk ?_; repeat intro K hK) | refine wkg ?_))
        refine G.ren (al' := []) (bs' := [(100, some (31, [.o 101 (rws out).length])), (101, some (23, ((rws out).set (out.length - 1) (mergeV a x').1.row).flatten.map .d)), (102, none), (104, none)]) [(100, 100), (101, 101), (102, 102), (104, 104)] ?_ (by repeat (first | exact trivial | refine ⟨⟨rfl, rfl⟩, ?_⟩)) (by repeat (first | exact trivial | refine ⟨⟨rfl, rfl, rfl⟩, ?_⟩ | refine ⟨⟨rfl, by rw [renL_d]; rfl, kbL_d _ _⟩, ?_⟩ | refine ⟨rfl, ?_⟩)) (by decide) (by rfl)
        rw [rws_set ha, show (rws out).length = (rws (out.dropLast ++ [(mergeV a x').1])).length by simp [rws]; omega]
        exact G.rndE (by first | ((repeat (first | exact trivial | refine ⟨.inl rfl, ?_⟩ | refine ⟨.inr rfl, ?_⟩)); done) | fail) (Is.cl (fun j => cR.cl j)) (by rfl)
      · have hbe : ((mergeV a x').2 == 0) = false := by simp [he]
        rw [stepN_n ha he] at hK'
        refine hK' _ _ (fun w o m E0 => ?_)
        (repeat (first | refine G.cW (hmf) ?_ | refine G.cgW (hmf) ?_ | refine GD.cW (hmf) ?_ | refine GD.cgW (hmf) ?_ | (show G _ _ _ _ (WL _ _ _ _ (⟨some _, .indexAddr _ _ _, _, _, _, none⟩ :: _)); refine G.w1 ?_ (by first | exact LT.rd (Rd.ixov (out.length - 1) (hj)) rfl | fail)) | (show G _ _ _ _ (WL _ _ _ _ (⟨some _, .indexAddr _ _ _, _, _, _, some _⟩ :: _)); refine G.gC ?_ (by first | (refine gi ?_; intros; exact LT.rd (Rd.ixov (out.length - 1) (hj)) rfl) | fail) rfl rfl) | (show GD _ _ _ _ _ _ _ _ _ _ (⟨some _, .indexAddr _ _ _, _, _, _, none⟩ :: _); refine GD.w1 ?_ (by first | exact LT.rd (Rd.ixov (out.length - 1) (hj)) rfl | fail)) | (show GD _ _ _ _ _ _ _ _ _ _ (⟨some _, .indexAddr _ _ _, _, _, _, some _⟩ :: _); refine GD.gC ?_ (by first | (refine gi ?_; intros; exact LT.rd (Rd.ixov (out.length - 1) (hj)) rfl) | fail) rfl rfl) | (show G _ _ _ _ (WL _ _ _ _ (⟨some _, .load _ _, _, _, _, none⟩ :: _)); refine G.w1 ?_ (by first | exact LT.rd (Rd.ldR (out.length - 1) (hrow) (rws_row)) rfl | fail)) | (show G _ _ _ _ (WL _ _ _ _ (⟨some _, .load _ _, _, _, _, some _⟩ :: _)); refine G.gC ?_ (by first | (refine gi ?_; intros; exact LT.rd (Rd.ldR (out.length - 1) (hrow) (rws_row)) rfl) | fail) rfl rfl) | (show GD _ _ _ _ _ _ _ _ _ _ (⟨some _, .load _ _, _, _, _, none⟩ :: _); refine GD.w1 ?_ (by first | exact LT.rd (Rd.ldR (out.length - 1) (hrow) (rws_row)) rfl | fail)) | (show GD _ _ _ _ _ _ _ _ _ _ (⟨some _, .load _ _, _, _, _, some _⟩ :: _); refine GD.gC ?_ (by first | (refine gi ?_; intros; exact LT.rd (Rd.ldR (out.length - 1) (hrow) (rws_row)) rfl) | fail) rfl rfl) | ((repeat (revert hK; revert K)); refine wk ?_; repeat intro K hK) | refine wkg ?_))
        refine G.ren (al' := []) (bs' := [(100, some (31, [.o 101 ((rws out).length + 1)])), (101, some (23, (rws out ++ [x'.row]).flatten.map .d)), (102, none), (104, none)]) [(100, 100), (101, 10), (102, 102), (104, 104)] ?_ (by repeat (first | exact trivial | refine ⟨⟨rfl, rfl⟩, ?_⟩)) (by repeat (first | exact trivial | refine ⟨⟨rfl, rfl, rfl⟩, ?_⟩ | refine ⟨⟨rfl, by rw [renL_d]; rfl, kbL_d _ _⟩, ?_⟩ | refine ⟨rfl, ?_⟩)) (by decide) (by rfl)
        rw [rws_app, show (rws out).length + 1 = (rws out ++ rws [x']).length by simp [rws]]
        exact G.rndE (by first | ((repeat (first | exact trivial | refine ⟨.inl rfl, ?_⟩ | refine ⟨.inr rfl, ?_⟩)); done) | fail) (Is.cl (fun j => cR.cl j)) (by rfl)
  · have e : (dst l).length = l.length := by simp [dst]
    rw [e]
    have e2 : normS l l.length = normL l := by simp [normS]
    rw [e2]
    (repeat (first | ((repeat (revert hK; revert K)); refine wk ?_; repeat intro K hK) | refine wkg ?_))
    refine G.frz (T := 23) (m := 6) (b := 101) (rows := rws (normL l)) 2 ?_ rws_row rfl
    refine G.fin1 (by first | exact rvOk.tmp | exact rvOk.cellS | exact rvOk.cell1 | fail) rfl ?_
    rfl

end Go.Proofs.Ytmajkjkakciaiaa
