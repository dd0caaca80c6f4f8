/- Inodes: bytes compared, Encode, Decode. -/
import Derived.Test.YtohkigillmlinaaDvb
import Derived.Test.YtohkigillmlinaaAvr
import Derived.Lib.BufferWrite
import Derived.Laws.BytesString
import Derived.Laws.MakeOwn
set_option linter.unusedSimpArgs false
set_option linter.unusedVariables false
namespace Go.Proofs.Ytohkigillmlinaa
open Go.RowKit

section
variable {P : Program} {X : Cx} {al : List (Nat × AV)} {bs : Bs} {T T' d b k n : Nat} {x y : Operand} {e sz : Nat}
def strN (b : List Int) : ByteArray := b.foldl (fun r n => r.push (UInt8.ofNat n.toNat)) ByteArray.empty
/-- Bytes told as a string. -/
theorem LT.b2s {l : List Int} [hT : TSl P T e 1] [hU : TIn P e .u8] (hS : P.underlying T' = some .string) (hx : Evd al x (.d (byD l)) := by exact ⟨_, rfl, by (try (apply Und.gd; assumption; try (apply Und.gd; assumption; try (apply Und.gd; assumption)))); exact Und.refl _⟩) (hd : Nat.blt d X.N = true := by rfl) : LT P X al bs (.convert T T' x) (some d) [] [(d, .d (.s (.string (strN l))))] [] :=
  LT.rd (fun al2 bs2 hl hB E a W h => ⟨_, .d (.s rfl), fun op ho => by
    have h1 := h.evd (hl.evd hx (by simp [Op.operands]))
    obtain ⟨inf, hu, hi, hs⟩ := hT.get
    generalize hq : a.eval x = q at h1
    have key : (Conv.bytesToString q).run P W = .ok (.string (strN l)) W := by
      cases h1 with
      | d h1 =>
        unfold byD at h1
        generalize hrr : l.map (fun v => [D.s (.int .u8 v)]) = rows at h1
        cases h1 with
        | @nl ad c =>
          have hl0 : l = [] := List.map_eq_nil_iff.1 hrr
          subst hl0
          cases ad with
          | none =>
            simp [Conv.bytesToString, strN]
          | some ad => exact run_bytesToString W ad 0 c [] (run_loadCells_list W ad [] (by simp))
        | @l r o n c m rows f g1 g2 g3 g4 g5 g6 g7 g8 =>
          have hn : n = (l.map (Value.int IntKind.u8)).length := by rw [g1, ← hrr]; simp
          have hm : ∀ i, i < l.length → f i = [Value.int .u8 (l[i]!)] ∧ m = 1 := fun i hi => by
            have hrow : rows[i]? = some [D.s (.int .u8 (l[i]!))] := by rw [← hrr]; simp [hi]
            refine ⟨?_, (g6 i _ hrow).symm⟩
            have := g8 i _ hrow
            cases hf : f i with
            | nil => rw [hf] at this; cases this
            | cons u us =>
              rw [hf] at this
              cases this with
              | cons t1 t2 =>
                cases t2
                cases t1
                rfl
          have := run_loadCells_list (P := P) W ⟨r, o, none⟩ (l.map (Value.int .u8)) (fun j v hv => by
            have hj : j < l.length := by have := (List.getElem?_eq_some_iff.1 hv).1; simpa using this
            obtain ⟨f1, rfl⟩ := hm j hj
            have hrow : rows[j]? = some [D.s (.int .u8 (l[j]!))] := by rw [← hrr]; simp [hj]
            have := g7 j _ hrow 0 (Value.int .u8 (l[j]!)) (by rw [f1]; rfl)
            rw [Addr.add_mid]
            rw [Nat.mul_one, Nat.add_zero] at this
            rw [this]
            simp only [List.getElem?_map, List.getElem?_eq_getElem hj, Option.map_some, Option.some.injEq] at hv
            rw [← hv]
            simp [hj])
          rw [← hn] at this
          exact run_bytesToString W _ n c l (by simpa using this)
    have h2 := run_convert_bytes_string (P := P) W T T' e
    unfold execOp
    cases q with
    | slice ad len cap =>
      simp only [ho, hq]
      simp [h2 ad len cap hu hU.h hS, key]
    | _ => 
      exfalso
      cases h1 with
      | d h1 => unfold byD at h1; cases h1⟩) hd
theorem LT.eqS {s : ByteArray} (hx : Evd al x (.d (.s (.string s))) := by exact ⟨_, rfl, by (try (apply Und.gd; assumption; try (apply Und.gd; assumption; try (apply Und.gd; assumption)))); exact Und.refl _⟩) (hy : Evd al y (.d (.s (.string s))) := by exact ⟨_, rfl, by (try (apply Und.gd; assumption; try (apply Und.gd; assumption; try (apply Und.gd; assumption)))); exact Und.refl _⟩) (hd : Nat.blt d X.N = true := by rfl) : LT P X al bs (.binOp .eql T x y T') (some d) [] [(d, .d (.s (.bool true)))] [] :=
  LT.rd (fun al2 bs2 hl hB E a W h => ⟨_, .d (.s rfl), fun op ho => by
    have h1 := h.evs (hl.evd hx (by simp [Op.operands, Call.operands]))
    have h2 := h.evs (hl.evd hy (by simp [Op.operands, Call.operands]))
    unfold execOp
    have h3 := binOp_string_eql T s s
    simp [ho, h1, h2, eqGuard, h3]⟩) hd
/-- make of bytes: a row of one's own. -/
theorem LT.mkS {m : Nat} (cs : List AV) (hcs : List.replicate m (AV.d (.s (.int .u8 0))) = cs) (hm : m ≤ 10000) {size bytes : Nat} [hT : TAp P T e size bytes] [hZ : TZc P e 1 [.d (.s (.int .u8 0))]] (hk : bs.length = k := by simp only [List.length_cons, List.length_nil, Nat.reduceAdd]; rfl) (hf : lk bs k = none := by rfl) (hby : Nat.ble bytes 1000000 = true := by rfl) (hd : Nat.blt d X.N = true := by rfl) :
    LT P X al bs (.makeSlice T (.const (.int .i64 (m : Int))) (.const (.int .i64 (m : Int)))) (some d) [k] [(d, .o k m)] [(k, some (e, cs))] := fun ro al2 bs2 hL hB E a W hh o ho hdst K Q hK => by
  subst hcs
  obtain ⟨i0, z, hu, hie, hz, hsz, hbs, hzs, hpos⟩ := hT.h
  obtain ⟨i1, z1, vs, q1, q2, q3, q4, q5, q6, q7⟩ := hZ.h
  rw [hie] at q1
  cases q1
  rw [hz] at q2
  cases q2
  have hvs : vs = [.int .u8 0] := by
    match vs, q7 with
    | [v], q7 => simp at q7; rw [q7]
  subst hvs
  have hf2 : lk bs2 k = none := (hB k (List.mem_cons_self ..)).trans hf
  simp only [Nat.ble_eq] at hby
  have hbb : i0.bytes * m ≤ 10000000000 := by
    rw [hbs]
    exact Nat.le_trans (Nat.mul_le_mul hby hm) (by decide)
  have hb2 : (i0.bytes : Int) * (m : Int) ≤ 281474976710656 := by
    have : ((i0.bytes * m : Nat) : Int) ≤ 10000000000 := by omega
    rw [Int.natCast_mul] at this
    omega
  have hcl : ((m : Int)).toNat * i0.size ≤ 16777216 := by
    rw [q4, Int.toNat_natCast]
    omega
  have hrun := run_makeSlice (P := P) W T e i0 z hu hie hz .i64 .i64 (m : Int) (m : Int) (by omega) (by omega) hcl hb2 (by omega)
  have hmc : madeCells z.cells (((m : Int)).toNat * i0.size) = (List.replicate m (Value.int .u8 0)).toArray := by
    rw [q3, q4, Int.toNat_natCast, Nat.mul_one]
    unfold madeCells
    apply Array.ext'
    apply List.ext_getElem
    · simp
    · intro i h1 h2
      simp [Nat.mod_one]
  rw [hmc, Int.toNat_natCast] at hrun
  have hh' := hh.alloc (k := k) (T := e) (vs := List.replicate m (Value.int .u8 0)) (cs := List.replicate m (AV.d (.s (.int .u8 0)))) (n := m) (m := 1) hf2 (by
    have := RAL.zeros (E := E) (dm := dom bs2) (own := ownS E X.o bs2) (W := W) (zs := List.replicate m (Value.int .u8 0)) (by rw [List.all_eq_true]; intro v hv; rw [List.eq_of_mem_replicate hv]; rfl)
    rwa [List.map_replicate] at this) (by rw [hie, Option.map_some, q4]) (by simp) (by unfold maxLen; omega)
  refine WO.of (by rw [ho]; intro c h; cases h) ?_
  unfold execOp
  have e1 : a.eval (.const (.int .i64 (m : Int))) = .int .i64 (m : Int) := rfl
  simp only [ho, Sem.run_bind, e1, hrun, Result.andThen_ok, Sem.run_pure]
  dsimp only [Oper.uponIn]
  rw [hdst]
  exact hK _ _ _ (hh'.put (.o ⟨_, lk_self _ _ _⟩ (by rw [Env.set_V])) (by simpa using hd))
/-- A string's bytes are copied into a row of one's own. -/
theorem LT.cpS {cs : List AV} (cs' : List AV) {s : ByteArray} {TS : TypeId} [hT : TSl P T e 1] (hx : Evd al x (.o b n) := by exact ⟨_, rfl, by (try (apply Und.gd; assumption; try (apply Und.gd; assumption; try (apply Und.gd; assumption)))); exact Und.refl _⟩) (hb : lk bs b = some (some (e, cs)) := by rfl) (hcl : cs.length = n := by rfl) (hcs : (s.data.toList.map fun b => AV.d (.s (.int .u8 b.toNat))) ++ cs.drop s.size = cs' := by rfl) (hn : s.size ≤ n := by decide) (h0 : 0 < n := by decide) (hd : Nat.blt d X.N = true := by rfl) :
    LT P X al bs (.call { callee := .builtin .copy, args := #[x, .const (.string s)], argTypes := #[T, TS] }) (some d) [b] [(d, .d (.s (.int .i64 s.size)))] [(b, some (e, cs'))] := fun ro al2 bs2 hL hB E a W hh o hoo hdst K Q hK => by
  subst hcs
  obtain ⟨inf, hu, hi', hs⟩ := hT.get
  have h1 := hh.evd (hL.evd hx (by simp [Op.operands, Call.operands]))
  generalize hq : a.eval x = q at h1
  cases h1 with
  | @o _ _ c p hb' hV =>
    have hbb := hB.at hb (List.mem_cons_self ..)
    rcases hh.bk b e cs hbb with ⟨g0, g1, g2⟩ | ⟨f2, us, sp, m, n', c', g1, g2, g3, g4, g5, g6, g7, g8⟩
    · subst g1
      simp at hcl
      omega
    rw [hV] at g4
    simp only [Value.slice.injEq] at g4
    obtain ⟨rfl, rfl, rfl⟩ := g4
    have hul : us.length = n := by rw [g2.len, hcl]
    have hm1 : m = 1 := by rw [hi', Option.map_some, hs] at g3; exact (Option.some.inj g3).symm
    subst hm1
    have hbl : (Lib.byteCells s.data.toList).length = s.size := by rw [Lib.byteCells_length]; simp
    have hrun := Lib.run_copy_row_string (P := P) W T TS o.type e (E.A b) 0 n c s (us ++ sp).toArray e hu (by rw [hi', Option.map_some, hs]) g1 hn (by simp; omega)
    simp only [List.take_zero, List.nil_append, Nat.zero_add] at hrun
    generalize hW : W.setRow (E.A b) (Lib.byteCells s.data.toList ++ (us ++ sp).drop s.size).toArray = W' at hrun
    have hB' : Blk W' (E.A b) e ((Lib.byteCells s.data.toList ++ us.drop s.size) ++ sp) := by
      unfold Blk
      rw [← hW, setRow_heap W (E.A b) _ _ e (0, 0) g1, List.append_assoc, ← List.drop_append_of_le_length (by omega)]
    have hg : W.grownBy W' (some (E.A b)) := by
      subst hW
      exact ⟨rfl, rfl, rfl, by simp, fun k _ hk => setRow_other W (E.A b) k _ (fun e => hk (by rw [e]))⟩
    refine WO.of (by rw [hoo]; intro c h; cases h) ?_
    unfold execOp
    have : (do let dd ← resolve a.eval { callee := .builtin .copy, args := #[x, .const (.string s)], argTypes := #[T, TS] } o.type; invoke dd.target dd.args : Sem Next).run P W = .ok (.value (.int .i64 s.size)) W' := by
      have e1 : a.eval (.const (.string s)) = .string s := rfl
      simp [resolve, invoke, builtin, hrun, hq, e1, goInt]
    simp only [hoo]
    rw [this]
    dsimp only [Oper.uponIn]
    rw [hdst]
    have hnew := hh.store (vs := us) (vs' := Lib.byteCells s.data.toList ++ us.drop s.size) (sp := sp) (cs' := (s.data.toList.map fun b => AV.d (.s (.int .u8 b.toNat))) ++ cs.drop s.size) (b := b) hbb f2 hg hB' ?_ ?_ g3 hV g5 g6 g7 g8
    · exact hK _ _ _ (hnew.put (.d (.s rfl)) (by simpa using hd))
    · refine RAL.app ?_ (g2.drop _)
      unfold Lib.byteCells
      have := RAL.zeros (E := E) (dm := dom bs2) (own := ownS E X.o bs2) (W := W) (zs := s.data.toList.map fun b => Value.int .u8 b.toNat) (by rw [List.all_eq_true]; intro v hv; obtain ⟨_, _, rfl⟩ := List.mem_map.1 hv; rfl)
      rw [List.map_map] at this
      exact this
    · rw [List.length_append, hbl, List.length_drop]
      omega
end

/-- An inode's block, but for its check sum. -/
def enc7 (n m : Int) : List Int := [73, 78, 79, 68, n, m % 256, m / 256 % 256, 0, 0, 0, 0, 0, 0, 0, 0, 0, 0, 0, 0, 0, 0, 0, 0, 0, 0, 0, 0, 0, 0, 0, 0, 0]
def sm7 (n m : Int) (i : Nat) : Int := ((enc7 n m).take i).foldl (· + ·) 0
def encL (n m : Int) : List Int := (enc7 n m).set 7 (sm7 n m 7 % 251)
attribute [local irreducible] Wp WL WO fin finB rnd Exit.then Exit.inBlock G GD LT Rd Fn FnB FvB Iter
theorem isz_F (n : Int) : Fn Try.prog 27 [.s (.int .i64 n)] (· = .s (.bool (decide (0 ≤ n) && decide (n ≤ 16)))) := by
  refine Fn.of Try.func27 Try.ntmps27 rfl (by kernel_rfl) (fun w o => ?_)
  (repeat (first | ((repeat (revert hK; revert K)); refine wk ?_; repeat intro K hK) | refine wkg ?_))
  refine G.fin1 (by first | exact rvOk.tmp | exact rvOk.cellS | exact rvOk.cell1 | fail) rfl ?_
  rfl
theorem pow_wrap (n : Int) (h : 0 ≤ n ∧ n ≤ 16) : IntKind.i64.wrap (1 * 2 ^ min n.toNat IntKind.i64.bits) = 2 ^ n.toNat := by
  obtain ⟨k, rfl⟩ : ∃ k : Nat, n = k := ⟨n.toNat, by omega⟩
  have hk : k ≤ 16 := by omega
  rw [Int.toNat_natCast, Nat.min_eq_left (Nat.le_trans hk (by decide))]
  have : ∀ k : Nat, k ≤ 16 → IntKind.i64.wrap (1 * 2 ^ k) = 2 ^ k := by decide
  exact this k hk
theorem imask_F (m n : Int) (hn : 0 ≤ n ∧ n ≤ 16) : Fn Try.prog 28 [.s (.int .i64 m), .s (.int .i64 n)] (· = .s (.bool (decide (0 ≤ m) && decide (m < 2 ^ n.toNat)))) := by
  have hp := pow_wrap n hn
  have hn0 := hn.1
  refine Fn.of Try.func28 Try.ntmps28 rfl (by kernel_rfl) (fun w o => ?_)
  (repeat (first | (show G _ _ _ _ (WL _ _ _ _ (⟨some _, .binOp .shl _ _ _ _, _, _, _, none⟩ :: _)); refine G.w1 ?_ (by first | exact LT.shl (2 ^ n.toNat) | fail)) | (show G _ _ _ _ (WL _ _ _ _ (⟨some _, .binOp .shl _ _ _ _, _, _, _, some _⟩ :: _)); refine G.gC ?_ (by first | (refine gi ?_; intros; exact LT.shl (2 ^ n.toNat)) | fail) rfl rfl) | (show GD _ _ _ _ _ _ _ _ _ _ (⟨some _, .binOp .shl _ _ _ _, _, _, _, none⟩ :: _); refine GD.w1 ?_ (by first | exact LT.shl (2 ^ n.toNat) | fail)) | (show GD _ _ _ _ _ _ _ _ _ _ (⟨some _, .binOp .shl _ _ _ _, _, _, _, some _⟩ :: _); refine GD.gC ?_ (by first | (refine gi ?_; intros; exact LT.shl (2 ^ n.toNat)) | fail) rfl rfl) | ((repeat (revert hK; revert K)); refine wk ?_; repeat intro K hK) | refine wkg ?_))
  refine G.fin1 (by first | exact rvOk.tmp | exact rvOk.cellS | exact rvOk.cell1 | fail) rfl ?_
  rfl
theorem beq_F (b : List Int) : Fn Try.prog 14 [byD b, byD b] (· = .s (.bool true)) := by
  refine Fn.of Try.func14 Try.ntmps14 rfl (by kernel_rfl) (fun w o => ?_)
  (repeat (first | (show G _ _ _ _ (WL _ _ _ _ (⟨some _, .convert _ _ _, _, _, _, none⟩ :: _)); refine G.w1 ?_ (by first | exact LT.b2s (l := b) rfl | fail)) | (show G _ _ _ _ (WL _ _ _ _ (⟨some _, .convert _ _ _, _, _, _, some _⟩ :: _)); refine G.gC ?_ (by first | (refine gi ?_; intros; exact LT.b2s (l := b) rfl) | fail) rfl rfl) | (show GD _ _ _ _ _ _ _ _ _ _ (⟨some _, .convert _ _ _, _, _, _, none⟩ :: _); refine GD.w1 ?_ (by first | exact LT.b2s (l := b) rfl | fail)) | (show GD _ _ _ _ _ _ _ _ _ _ (⟨some _, .convert _ _ _, _, _, _, some _⟩ :: _); refine GD.gC ?_ (by first | (refine gi ?_; intros; exact LT.b2s (l := b) rfl) | fail) rfl rfl) | (show G _ _ _ _ (WL _ _ _ _ (⟨some _, .binOp .eql _ _ _ _, _, _, _, none⟩ :: _)); refine G.w1 ?_ (by first | exact LT.eqS | fail)) | (show G _ _ _ _ (WL _ _ _ _ (⟨some _, .binOp .eql _ _ _ _, _, _, _, some _⟩ :: _)); refine G.gC ?_ (by first | (refine gi ?_; intros; exact LT.eqS) | fail) rfl rfl) | (show GD _ _ _ _ _ _ _ _ _ _ (⟨some _, .binOp .eql _ _ _ _, _, _, _, none⟩ :: _); refine GD.w1 ?_ (by first | exact LT.eqS | fail)) | (show GD _ _ _ _ _ _ _ _ _ _ (⟨some _, .binOp .eql _ _ _ _, _, _, _, some _⟩ :: _); refine GD.gC ?_ (by first | (refine gi ?_; intros; exact LT.eqS) | fail) rfl rfl) | ((repeat (revert hK; revert K)); refine wk ?_; repeat intro K hK) | refine wkg ?_))
  refine G.fin1 (by first | exact rvOk.tmp | exact rvOk.cellS | exact rvOk.cell1 | fail) rfl ?_
  rfl
/-- Numbers that an inode may have. -/
def nmOK (n m : Int) : Prop := (0 ≤ n ∧ n ≤ 16) ∧ 0 ≤ m ∧ m < 2 ^ n.toNat
theorem nmOK.lt {n m : Int} (h : nmOK n m) : m < 65536 := by
  have h1 := h.2.2
  have : (2 : Int) ^ n.toNat ≤ 2 ^ 16 := by
    have h2 : n.toNat ≤ 16 := by have := h.1; omega
    have : ∀ k : Nat, k ≤ 16 → (2 : Int) ^ k ≤ 2 ^ 16 := by decide
    exact this _ h2
  have h3 : (2 : Int) ^ 16 = 65536 := by decide
  omega
theorem u8_small (z : Int) (h : 0 ≤ z ∧ z ≤ 255) : IntKind.u8.wrap z = z := by
  have : IntKind.u8.wrap z = z % 256 := rfl
  rw [this]; omega
theorem u8_mod (z : Int) : IntKind.u8.wrap z = z % 256 := rfl
theorem enc7_b {n m : Int} (h : nmOK n m) : ∀ x ∈ enc7 n m, 0 ≤ x ∧ x ≤ 255 := by
  have hn := h.1
  intro x hx
  unfold enc7 at hx
  simp only [List.mem_cons, List.not_mem_nil, or_false] at hx
  rcases hx with h | h | h | h | h | h | h | hx <;> omega
theorem sm7_s (n m : Int) (i : Nat) (h : i < (enc7 n m).length) : sm7 n m (i + 1) = sm7 n m i + (enc7 n m)[i] := by
  unfold sm7
  rw [List.take_succ_eq_append_getElem h, List.foldl_append]
  rfl
theorem sm7_b {n m : Int} (h : nmOK n m) : ∀ i, i ≤ 32 → 0 ≤ sm7 n m i ∧ sm7 n m i ≤ 255 * i
  | 0, _ => ⟨Int.le_refl _, Int.le_refl _⟩
  | i + 1, hi => by
    have ih := sm7_b h i (by omega)
    have hl : i < (enc7 n m).length := by show i < 32; omega
    rw [sm7_s n m i hl]
    have := enc7_b h _ (List.getElem_mem hl)
    omega
def ecI (n m : Int) (i : Nat) : List (Nat × AV) × Bs := ([(36, .d (.s (.int .i64 (i : Int)))), (35, .d (.s (.int .i64 7))), (34, .vw 0 0 7 true), (7, .d (.s (.int .i64 (sm7 n m i)))), (6, .o 0 32)], [(0, some (5, (byR (enc7 n m)).flatten.map .d))])
theorem enc_F (n m : Int) (h : nmOK n m) : Fn Try.prog 15 [.s (.int .i64 n), .s (.int .i64 m)] (· = .tup [byD (encL n m), .s (.int .i64 0)]) := by
  have h1 := isz_F n
  have h2 := imask_F m n h.1
  have hlt := h.lt
  have hm0 := h.2.1
  have hm2 := h.2.2
  have hn := h.1
  have e1 : (!(decide (0 ≤ n) && decide (n ≤ 16))) = false := by simp; omega
  have e2 : (!(decide (0 ≤ m) && decide (m < 2 ^ n.toNat))) = false := by simp; omega
  have w1 : IntKind.u8.wrap n = n := u8_small n (by omega)
  have w2 : IntKind.u8.wrap m = m % 256 := rfl
  have w3 : IntKind.u8.wrap (m / 256) = m / 256 % 256 := rfl
  have j4 : 4 < 32 := by decide
  have j5 : 5 < 32 := by decide
  have j6 : 6 < 32 := by decide
  have j7 : 7 < 32 := by decide
  have w4 : m / 2 ^ min ((8 : Int)).toNat IntKind.i64.bits = m / 256 := rfl
  refine Fn.of Try.func15 Try.ntmps15 rfl (by kernel_rfl) (fun w o => ?_)
  (repeat (first | refine G.cW (h1) ?_ | refine G.cgW (h1) ?_ | refine GD.cW (h1) ?_ | refine GD.cgW (h1) ?_ | refine G.cW (h2) ?_ | refine G.cgW (h2) ?_ | refine GD.cW (h2) ?_ | refine GD.cgW (h2) ?_ | (show G _ _ _ _ (WL _ _ _ _ (⟨some _, .convert _ _ _, _, _, _, none⟩ :: _)); refine G.w1 ?_ (by first | exact LT.cnv n | fail)) | (show G _ _ _ _ (WL _ _ _ _ (⟨some _, .convert _ _ _, _, _, _, some _⟩ :: _)); refine G.gC ?_ (by first | (refine gi ?_; intros; exact LT.cnv n) | fail) rfl rfl) | (show GD _ _ _ _ _ _ _ _ _ _ (⟨some _, .convert _ _ _, _, _, _, none⟩ :: _); refine GD.w1 ?_ (by first | exact LT.cnv n | fail)) | (show GD _ _ _ _ _ _ _ _ _ _ (⟨some _, .convert _ _ _, _, _, _, some _⟩ :: _); refine GD.gC ?_ (by first | (refine gi ?_; intros; exact LT.cnv n) | fail) rfl rfl) | (show G _ _ _ _ (WL _ _ _ _ (⟨some _, .convert _ _ _, _, _, _, none⟩ :: _)); refine G.w1 ?_ (by first | exact LT.cnv (m % 256) | fail)) | (show G _ _ _ _ (WL _ _ _ _ (⟨some _, .convert _ _ _, _, _, _, some _⟩ :: _)); refine G.gC ?_ (by first | (refine gi ?_; intros; exact LT.cnv (m % 256)) | fail) rfl rfl) | (show GD _ _ _ _ _ _ _ _ _ _ (⟨some _, .convert _ _ _, _, _, _, none⟩ :: _); refine GD.w1 ?_ (by first | exact LT.cnv (m % 256) | fail)) | (show GD _ _ _ _ _ _ _ _ _ _ (⟨some _, .convert _ _ _, _, _, _, some _⟩ :: _); refine GD.gC ?_ (by first | (refine gi ?_; intros; exact LT.cnv (m % 256)) | fail) rfl rfl) | (show G _ _ _ _ (WL _ _ _ _ (⟨some _, .binOp .shr _ _ _ _, _, _, _, none⟩ :: _)); refine G.w1 ?_ (by first | exact LT.shr (m / 256) | fail)) | (show G _ _ _ _ (WL _ _ _ _ (⟨some _, .binOp .shr _ _ _ _, _, _, _, some _⟩ :: _)); refine G.gC ?_ (by first | (refine gi ?_; intros; exact LT.shr (m / 256)) | fail) rfl rfl) | (show GD _ _ _ _ _ _ _ _ _ _ (⟨some _, .binOp .shr _ _ _ _, _, _, _, none⟩ :: _); refine GD.w1 ?_ (by first | exact LT.shr (m / 256) | fail)) | (show GD _ _ _ _ _ _ _ _ _ _ (⟨some _, .binOp .shr _ _ _ _, _, _, _, some _⟩ :: _); refine GD.gC ?_ (by first | (refine gi ?_; intros; exact LT.shr (m / 256)) | fail) rfl rfl) | (show G _ _ _ _ (WL _ _ _ _ (⟨some _, .convert _ _ _, _, _, _, none⟩ :: _)); refine G.w1 ?_ (by first | exact LT.cnv (m / 256 % 256) | fail)) | (show G _ _ _ _ (WL _ _ _ _ (⟨some _, .convert _ _ _, _, _, _, some _⟩ :: _)); refine G.gC ?_ (by first | (refine gi ?_; intros; exact LT.cnv (m / 256 % 256)) | fail) rfl rfl) | (show GD _ _ _ _ _ _ _ _ _ _ (⟨some _, .convert _ _ _, _, _, _, none⟩ :: _); refine GD.w1 ?_ (by first | exact LT.cnv (m / 256 % 256) | fail)) | (show GD _ _ _ _ _ _ _ _ _ _ (⟨some _, .convert _ _ _, _, _, _, some _⟩ :: _); refine GD.gC ?_ (by first | (refine gi ?_; intros; exact LT.cnv (m / 256 % 256)) | fail) rfl rfl) | (show G _ _ _ _ (WL _ _ _ _ (⟨some _, .slice _ _ _ _ _, _, _, _, none⟩ :: _)); refine G.w1 ?_ (by first | exact LT.rd (Rd.slO 0 7) rfl | fail)) | (show G _ _ _ _ (WL _ _ _ _ (⟨some _, .slice _ _ _ _ _, _, _, _, some _⟩ :: _)); refine G.gC ?_ (by first | (refine gi ?_; intros; exact LT.rd (Rd.slO 0 7) rfl) | fail) rfl rfl) | (show GD _ _ _ _ _ _ _ _ _ _ (⟨some _, .slice _ _ _ _ _, _, _, _, none⟩ :: _); refine GD.w1 ?_ (by first | exact LT.rd (Rd.slO 0 7) rfl | fail)) | (show GD _ _ _ _ _ _ _ _ _ _ (⟨some _, .slice _ _ _ _ _, _, _, _, some _⟩ :: _); refine GD.gC ?_ (by first | (refine gi ?_; intros; exact LT.rd (Rd.slO 0 7) rfl) | fail) rfl rfl) | (show G _ _ _ _ (WL _ _ _ _ (⟨some _, .call _, _, _, _, none⟩ :: _)); refine G.w1 ?_ (by first | exact LT.rd Rd.lenV rfl | fail)) | (show G _ _ _ _ (WL _ _ _ _ (⟨some _, .call _, _, _, _, some _⟩ :: _)); refine G.gC ?_ (by first | (refine gi ?_; intros; exact LT.rd Rd.lenV rfl) | fail) rfl rfl) | (show GD _ _ _ _ _ _ _ _ _ _ (⟨some _, .call _, _, _, _, none⟩ :: _); refine GD.w1 ?_ (by first | exact LT.rd Rd.lenV rfl | fail)) | (show GD _ _ _ _ _ _ _ _ _ _ (⟨some _, .call _, _, _, _, some _⟩ :: _); refine GD.gC ?_ (by first | (refine gi ?_; intros; exact LT.rd Rd.lenV rfl) | fail) rfl rfl) | (show G _ _ _ _ (WL _ _ _ _ (⟨some _, _, _, _, _, none⟩ :: _)); refine G.w2 ?_ (by first | exact LT.mkS (m := 32) [AV.d (D.s (.int .u8 0)), AV.d (D.s (.int .u8 0)), AV.d (D.s (.int .u8 0)), AV.d (D.s (.int .u8 0)), AV.d (D.s (.int .u8 0)), AV.d (D.s (.int .u8 0)), AV.d (D.s (.int .u8 0)), AV.d (D.s (.int .u8 0)), AV.d (D.s (.int .u8 0)), AV.d (D.s (.int .u8 0)), AV.d (D.s (.int .u8 0)), AV.d (D.s (.int .u8 0)), AV.d (D.s (.int .u8 0)), AV.d (D.s (.int .u8 0)), AV.d (D.s (.int .u8 0)), AV.d (D.s (.int .u8 0)), AV.d (D.s (.int .u8 0)), AV.d (D.s (.int .u8 0)), AV.d (D.s (.int .u8 0)), AV.d (D.s (.int .u8 0)), AV.d (D.s (.int .u8 0)), AV.d (D.s (.int .u8 0)), AV.d (D.s (.int .u8 0)), AV.d (D.s (.int .u8 0)), AV.d (D.s (.int .u8 0)), AV.d (D.s (.int .u8 0)), AV.d (D.s (.int .u8 0)), AV.d (D.s (.int .u8 0)), AV.d (D.s (.int .u8 0)), AV.d (D.s (.int .u8 0)), AV.d (D.s (.int .u8 0)), AV.d (D.s (.int .u8 0))] rfl (by decide) | fail)) | (show GD _ _ _ _ _ _ _ _ _ _ (⟨some _, _, _, _, _, none⟩ :: _); refine GD.w2 ?_ (by first | exact LT.mkS (m := 32) [AV.d (D.s (.int .u8 0)), AV.d (D.s (.int .u8 0)), AV.d (D.s (.int .u8 0)), AV.d (D.s (.int .u8 0)), AV.d (D.s (.int .u8 0)), AV.d (D.s (.int .u8 0)), AV.d (D.s (.int .u8 0)), AV.d (D.s (.int .u8 0)), AV.d (D.s (.int .u8 0)), AV.d (D.s (.int .u8 0)), AV.d (D.s (.int .u8 0)), AV.d (D.s (.int .u8 0)), AV.d (D.s (.int .u8 0)), AV.d (D.s (.int .u8 0)), AV.d (D.s (.int .u8 0)), AV.d (D.s (.int .u8 0)), AV.d (D.s (.int .u8 0)), AV.d (D.s (.int .u8 0)), AV.d (D.s (.int .u8 0)), AV.d (D.s (.int .u8 0)), AV.d (D.s (.int .u8 0)), AV.d (D.s (.int .u8 0)), AV.d (D.s (.int .u8 0)), AV.d (D.s (.int .u8 0)), AV.d (D.s (.int .u8 0)), AV.d (D.s (.int .u8 0)), AV.d (D.s (.int .u8 0)), AV.d (D.s (.int .u8 0)), AV.d (D.s (.int .u8 0)), AV.d (D.s (.int .u8 0)), AV.d (D.s (.int .u8 0)), AV.d (D.s (.int .u8 0))] rfl (by decide) | fail)) | (show G _ _ _ _ (WL _ _ _ _ (⟨some _, _, _, _, _, none⟩ :: _)); refine G.w2 ?_ (by first | exact LT.cpS [AV.d (D.s (.int .u8 73)), AV.d (D.s (.int .u8 78)), AV.d (D.s (.int .u8 79)), AV.d (D.s (.int .u8 68)), AV.d (D.s (.int .u8 0)), AV.d (D.s (.int .u8 0)), AV.d (D.s (.int .u8 0)), AV.d (D.s (.int .u8 0)), AV.d (D.s (.int .u8 0)), AV.d (D.s (.int .u8 0)), AV.d (D.s (.int .u8 0)), AV.d (D.s (.int .u8 0)), AV.d (D.s (.int .u8 0)), AV.d (D.s (.int .u8 0)), AV.d (D.s (.int .u8 0)), AV.d (D.s (.int .u8 0)), AV.d (D.s (.int .u8 0)), AV.d (D.s (.int .u8 0)), AV.d (D.s (.int .u8 0)), AV.d (D.s (.int .u8 0)), AV.d (D.s (.int .u8 0)), AV.d (D.s (.int .u8 0)), AV.d (D.s (.int .u8 0)), AV.d (D.s (.int .u8 0)), AV.d (D.s (.int .u8 0)), AV.d (D.s (.int .u8 0)), AV.d (D.s (.int .u8 0)), AV.d (D.s (.int .u8 0)), AV.d (D.s (.int .u8 0)), AV.d (D.s (.int .u8 0)), AV.d (D.s (.int .u8 0)), AV.d (D.s (.int .u8 0))] | fail)) | (show GD _ _ _ _ _ _ _ _ _ _ (⟨some _, _, _, _, _, none⟩ :: _); refine GD.w2 ?_ (by first | exact LT.cpS [AV.d (D.s (.int .u8 73)), AV.d (D.s (.int .u8 78)), AV.d (D.s (.int .u8 79)), AV.d (D.s (.int .u8 68)), AV.d (D.s (.int .u8 0)), AV.d (D.s (.int .u8 0)), AV.d (D.s (.int .u8 0)), AV.d (D.s (.int .u8 0)), AV.d (D.s (.int .u8 0)), AV.d (D.s (.int .u8 0)), AV.d (D.s (.int .u8 0)), AV.d (D.s (.int .u8 0)), AV.d (D.s (.int .u8 0)), AV.d (D.s (.int .u8 0)), AV.d (D.s (.int .u8 0)), AV.d (D.s (.int .u8 0)), AV.d (D.s (.int .u8 0)), AV.d (D.s (.int .u8 0)), AV.d (D.s (.int .u8 0)), AV.d (D.s (.int .u8 0)), AV.d (D.s (.int .u8 0)), AV.d (D.s (.int .u8 0)), AV.d (D.s (.int .u8 0)), AV.d (D.s (.int .u8 0)), AV.d (D.s (.int .u8 0)), AV.d (D.s (.int .u8 0)), AV.d (D.s (.int .u8 0)), AV.d (D.s (.int .u8 0)), AV.d (D.s (.int .u8 0)), AV.d (D.s (.int .u8 0)), AV.d (D.s (.int .u8 0)), AV.d (D.s (.int .u8 0))] | fail)) | (show G _ _ _ _ (WL _ _ _ _ (⟨some _, .indexAddr _ _ _, _, _, _, none⟩ :: _)); refine G.w1 ?_ (by first | exact LT.rd (Rd.ixov 4 (j4)) rfl | fail)) | (show G _ _ _ _ (WL _ _ _ _ (⟨some _, .indexAddr _ _ _, _, _, _, some _⟩ :: _)); refine G.gC ?_ (by first | (refine gi ?_; intros; exact LT.rd (Rd.ixov 4 (j4)) rfl) | fail) rfl rfl) | (show GD _ _ _ _ _ _ _ _ _ _ (⟨some _, .indexAddr _ _ _, _, _, _, none⟩ :: _); refine GD.w1 ?_ (by first | exact LT.rd (Rd.ixov 4 (j4)) rfl | fail)) | (show GD _ _ _ _ _ _ _ _ _ _ (⟨some _, .indexAddr _ _ _, _, _, _, some _⟩ :: _); refine GD.gC ?_ (by first | (refine gi ?_; intros; exact LT.rd (Rd.ixov 4 (j4)) rfl) | fail) rfl rfl) | (show G _ _ _ _ (WL _ _ _ _ (⟨some _, .indexAddr _ _ _, _, _, _, none⟩ :: _)); refine G.w1 ?_ (by first | exact LT.rd (Rd.ixov 5 (j5)) rfl | fail)) | (show G _ _ _ _ (WL _ _ _ _ (⟨some _, .indexAddr _ _ _, _, _, _, some _⟩ :: _)); refine G.gC ?_ (by first | (refine gi ?_; intros; exact LT.rd (Rd.ixov 5 (j5)) rfl) | fail) rfl rfl) | (show GD _ _ _ _ _ _ _ _ _ _ (⟨some _, .indexAddr _ _ _, _, _, _, none⟩ :: _); refine GD.w1 ?_ (by first | exact LT.rd (Rd.ixov 5 (j5)) rfl | fail)) | (show GD _ _ _ _ _ _ _ _ _ _ (⟨some _, .indexAddr _ _ _, _, _, _, some _⟩ :: _); refine GD.gC ?_ (by first | (refine gi ?_; intros; exact LT.rd (Rd.ixov 5 (j5)) rfl) | fail) rfl rfl) | (show G _ _ _ _ (WL _ _ _ _ (⟨some _, .indexAddr _ _ _, _, _, _, none⟩ :: _)); refine G.w1 ?_ (by first | exact LT.rd (Rd.ixov 6 (j6)) rfl | fail)) | (show G _ _ _ _ (WL _ _ _ _ (⟨some _, .indexAddr _ _ _, _, _, _, some _⟩ :: _)); refine G.gC ?_ (by first | (refine gi ?_; intros; exact LT.rd (Rd.ixov 6 (j6)) rfl) | fail) rfl rfl) | (show GD _ _ _ _ _ _ _ _ _ _ (⟨some _, .indexAddr _ _ _, _, _, _, none⟩ :: _); refine GD.w1 ?_ (by first | exact LT.rd (Rd.ixov 6 (j6)) rfl | fail)) | (show GD _ _ _ _ _ _ _ _ _ _ (⟨some _, .indexAddr _ _ _, _, _, _, some _⟩ :: _); refine GD.gC ?_ (by first | (refine gi ?_; intros; exact LT.rd (Rd.ixov 6 (j6)) rfl) | fail) rfl rfl) | ((repeat (revert hK; revert K)); refine wk ?_; repeat intro K hK) | refine wkg ?_))
  have hrw := byR_row (enc7 n m)
  have hlen : (byR (enc7 n m)).length = 32 := rfl
  refine G.loop (ecI n m) (fun i => i ≤ 7) (fun i => 7 - i) ?_ ?_
  · exact G.at 0 [(0, 0)] (by decide) (by repeat (first | exact trivial | refine ⟨⟨rfl, rfl⟩, ?_⟩)) (by repeat (first | exact trivial | refine ⟨⟨rfl, rfl, rfl⟩, ?_⟩ | refine ⟨⟨rfl, by rw [renL_d]; rfl, kbL_d _ _⟩, ?_⟩ | refine ⟨rfl, ?_⟩)) (by decide)
  · intro i hi
    dsimp only [ecI]
    by_cases hi7 : i < 7
    · have hl : i < (enc7 n m).length := by show i < 32; omega
      have hb := enc7_b h _ (List.getElem_mem hl)
      have hs := sm7_b h i (by omega)
      have hr : (byR (enc7 n m))[i]? = some [.s (.int .u8 (enc7 n m)[i])] := by simp [byR, hl]
      have w6 : IntKind.i64.wrap (enc7 n m)[i] = (enc7 n m)[i] := Yq _ (by omega)
      have hs2 := sm7_s n m i hl
      generalize (enc7 n m)[i] = v at *
      (repeat (first | (show G _ _ _ _ (WL _ _ _ _ (⟨some _, .indexAddr _ _ _, _, _, _, none⟩ :: _)); refine G.w1 ?_ (by first | exact LT.rd (Rd.ixV i) rfl | fail)) | (show G _ _ _ _ (WL _ _ _ _ (⟨some _, .indexAddr _ _ _, _, _, _, some _⟩ :: _)); refine G.gC ?_ (by first | (refine gi ?_; intros; exact LT.rd (Rd.ixV i) rfl) | fail) rfl rfl) | (show GD _ _ _ _ _ _ _ _ _ _ (⟨some _, .indexAddr _ _ _, _, _, _, none⟩ :: _); refine GD.w1 ?_ (by first | exact LT.rd (Rd.ixV i) rfl | fail)) | (show GD _ _ _ _ _ _ _ _ _ _ (⟨some _, .indexAddr _ _ _, _, _, _, some _⟩ :: _); refine GD.gC ?_ (by first | (refine gi ?_; intros; exact LT.rd (Rd.ixV i) rfl) | fail) rfl rfl) | (show G _ _ _ _ (WL _ _ _ _ (⟨some _, .convert _ _ _, _, _, _, none⟩ :: _)); refine G.w1 ?_ (by first | exact LT.cnv v | fail)) | (show G _ _ _ _ (WL _ _ _ _ (⟨some _, .convert _ _ _, _, _, _, some _⟩ :: _)); refine G.gC ?_ (by first | (refine gi ?_; intros; exact LT.cnv v) | fail) rfl rfl) | (show GD _ _ _ _ _ _ _ _ _ _ (⟨some _, .convert _ _ _, _, _, _, none⟩ :: _); refine GD.w1 ?_ (by first | exact LT.cnv v | fail)) | (show GD _ _ _ _ _ _ _ _ _ _ (⟨some _, .convert _ _ _, _, _, _, some _⟩ :: _); refine GD.gC ?_ (by first | (refine gi ?_; intros; exact LT.cnv v) | fail) rfl rfl) | (show G _ _ _ _ (WL _ _ _ _ (⟨some _, .load _ _, _, _, _, none⟩ :: _)); refine G.w1 ?_ (by first | exact LT.rd (Rd.ldF i 0 (hr) (hrw)) rfl | fail)) | (show G _ _ _ _ (WL _ _ _ _ (⟨some _, .load _ _, _, _, _, some _⟩ :: _)); refine G.gC ?_ (by first | (refine gi ?_; intros; exact LT.rd (Rd.ldF i 0 (hr) (hrw)) rfl) | fail) rfl rfl) | (show GD _ _ _ _ _ _ _ _ _ _ (⟨some _, .load _ _, _, _, _, none⟩ :: _); refine GD.w1 ?_ (by first | exact LT.rd (Rd.ldF i 0 (hr) (hrw)) rfl | fail)) | (show GD _ _ _ _ _ _ _ _ _ _ (⟨some _, .load _ _, _, _, _, some _⟩ :: _); refine GD.gC ?_ (by first | (refine gi ?_; intros; exact LT.rd (Rd.ldF i 0 (hr) (hrw)) rfl) | fail) rfl rfl) | ((repeat (revert hK; revert K)); refine wk ?_; repeat intro K hK) | refine wkg ?_))
      rw [← hs2]
      exact G.at (i + 1) [(0, 0)] ⟨by omega, by omega⟩ (by repeat (first | exact trivial | refine ⟨⟨rfl, rfl⟩, ?_⟩)) (by repeat (first | exact trivial | refine ⟨⟨rfl, rfl, rfl⟩, ?_⟩ | refine ⟨⟨rfl, by rw [renL_d]; rfl, kbL_d _ _⟩, ?_⟩ | refine ⟨rfl, ?_⟩)) (by decide)
    · have e : i = 7 := by omega
      subst e
      have hs := sm7_b h 7 (by omega)
      have hr7 : (byR (enc7 n m))[7]? = some [.s (.int .u8 0)] := rfl
      have w7 : IntKind.u8.wrap (sm7 n m 7 % 251) = sm7 n m 7 % 251 := u8_small _ (by omega)
      (repeat (first | (show G _ _ _ _ (WL _ _ _ _ (⟨some _, .convert _ _ _, _, _, _, none⟩ :: _)); refine G.w1 ?_ (by first | exact LT.cnv (sm7 n m 7 % 251) | fail)) | (show G _ _ _ _ (WL _ _ _ _ (⟨some _, .convert _ _ _, _, _, _, some _⟩ :: _)); refine G.gC ?_ (by first | (refine gi ?_; intros; exact LT.cnv (sm7 n m 7 % 251)) | fail) rfl rfl) | (show GD _ _ _ _ _ _ _ _ _ _ (⟨some _, .convert _ _ _, _, _, _, none⟩ :: _); refine GD.w1 ?_ (by first | exact LT.cnv (sm7 n m 7 % 251) | fail)) | (show GD _ _ _ _ _ _ _ _ _ _ (⟨some _, .convert _ _ _, _, _, _, some _⟩ :: _); refine GD.gC ?_ (by first | (refine gi ?_; intros; exact LT.cnv (sm7 n m 7 % 251)) | fail) rfl rfl) | (show G _ _ _ _ (WL _ _ _ _ (⟨some _, .indexAddr _ _ _, _, _, _, none⟩ :: _)); refine G.w1 ?_ (by first | exact LT.rd (Rd.ixov 7 (j7)) rfl | fail)) | (show G _ _ _ _ (WL _ _ _ _ (⟨some _, .indexAddr _ _ _, _, _, _, some _⟩ :: _)); refine G.gC ?_ (by first | (refine gi ?_; intros; exact LT.rd (Rd.ixov 7 (j7)) rfl) | fail) rfl rfl) | (show GD _ _ _ _ _ _ _ _ _ _ (⟨some _, .indexAddr _ _ _, _, _, _, none⟩ :: _); refine GD.w1 ?_ (by first | exact LT.rd (Rd.ixov 7 (j7)) rfl | fail)) | (show GD _ _ _ _ _ _ _ _ _ _ (⟨some _, .indexAddr _ _ _, _, _, _, some _⟩ :: _); refine GD.gC ?_ (by first | (refine gi ?_; intros; exact LT.rd (Rd.ixov 7 (j7)) rfl) | fail) rfl rfl) | (show G _ _ _ _ (WL _ _ _ _ (⟨none, .store _ _ _, _, _, _, none⟩ :: _)); refine G.w0 ?_ (by first | exact LT.stF 7 0 (hr7) (hrw) | fail)) | (show GD _ _ _ _ _ _ _ _ _ _ (⟨none, .store _ _ _, _, _, _, none⟩ :: _); refine GD.w0 ?_ (by first | exact LT.stF 7 0 (hr7) (hrw) | fail)) | ((repeat (revert hK; revert K)); refine wk ?_; repeat intro K hK) | refine wkg ?_))
      refine G.frz (T := 5) (b := 0) (k := 32) (rows := byR (encL n m)) 4 ?_ (byR_row _) rfl
      refine G.fin2 (by first | exact rvOk.tmp | exact rvOk.cellS | exact rvOk.cell1 | fail) (by first | exact rvOk.tmp | exact rvOk.cellS | exact rvOk.cell1 | fail) rfl ?_
      rfl
/-- A block that is an inode's is read back. -/
theorem dec_F (n m : Int) (h : nmOK n m) : Fn Try.prog 11 [byD (encL n m)] (· = .tup [.s (.int .i64 n), .s (.int .i64 m), .s (.int .i64 0)]) := by
  have he := enc_F n m h
  have hq := beq_F (encL n m)
  have hn := h.1
  have hlt := h.lt
  have hm0 := h.2.1
  have hr4 : (byR (encL n m))[(4 : Int).toNat]? = some [.s (.int .u8 n)] := rfl
  have hr5 : (byR (encL n m))[(5 : Int).toNat]? = some [.s (.int .u8 (m % 256))] := rfl
  have hr6 : (byR (encL n m))[(6 : Int).toNat]? = some [.s (.int .u8 (m / 256 % 256))] := rfl
  have hlen : ((byR (encL n m)).length : Int) = 32 := rfl
  have w1 : IntKind.i64.wrap n = n := Yq _ (by omega)
  have w2 : IntKind.i64.wrap (m % 256) = m % 256 := Yq _ (by omega)
  have w3 : IntKind.i64.wrap (m / 256 % 256) = m / 256 % 256 := Yq _ (by omega)
  have w4 : IntKind.i64.wrap (m / 256 % 256 * 2 ^ min ((8 : Int)).toNat IntKind.i64.bits) = m / 256 % 256 * 256 := by
    rw [show (2 : Int) ^ min ((8 : Int)).toNat IntKind.i64.bits = 256 from rfl]
    exact Yq _ (by omega)
  have w5 : m % 256 + m / 256 % 256 * 256 = m := by omega
  rw [byD_R] at he hq ⊢
  refine Fn.of Try.func11 Try.ntmps11 rfl (by kernel_rfl) (fun w o => ?_)
  (repeat (first | (show G _ _ _ _ (WL _ _ _ _ (⟨some _, .convert _ _ _, _, _, _, none⟩ :: _)); refine G.w1 ?_ (by first | exact LT.cnv n | fail)) | (show G _ _ _ _ (WL _ _ _ _ (⟨some _, .convert _ _ _, _, _, _, some _⟩ :: _)); refine G.gC ?_ (by first | (refine gi ?_; intros; exact LT.cnv n) | fail) rfl rfl) | (show GD _ _ _ _ _ _ _ _ _ _ (⟨some _, .convert _ _ _, _, _, _, none⟩ :: _); refine GD.w1 ?_ (by first | exact LT.cnv n | fail)) | (show GD _ _ _ _ _ _ _ _ _ _ (⟨some _, .convert _ _ _, _, _, _, some _⟩ :: _); refine GD.gC ?_ (by first | (refine gi ?_; intros; exact LT.cnv n) | fail) rfl rfl) | (show G _ _ _ _ (WL _ _ _ _ (⟨some _, .convert _ _ _, _, _, _, none⟩ :: _)); refine G.w1 ?_ (by first | exact LT.cnv (m % 256) | fail)) | (show G _ _ _ _ (WL _ _ _ _ (⟨some _, .convert _ _ _, _, _, _, some _⟩ :: _)); refine G.gC ?_ (by first | (refine gi ?_; intros; exact LT.cnv (m % 256)) | fail) rfl rfl) | (show GD _ _ _ _ _ _ _ _ _ _ (⟨some _, .convert _ _ _, _, _, _, none⟩ :: _); refine GD.w1 ?_ (by first | exact LT.cnv (m % 256) | fail)) | (show GD _ _ _ _ _ _ _ _ _ _ (⟨some _, .convert _ _ _, _, _, _, some _⟩ :: _); refine GD.gC ?_ (by first | (refine gi ?_; intros; exact LT.cnv (m % 256)) | fail) rfl rfl) | (show G _ _ _ _ (WL _ _ _ _ (⟨some _, .convert _ _ _, _, _, _, none⟩ :: _)); refine G.w1 ?_ (by first | exact LT.cnv (m / 256 % 256) | fail)) | (show G _ _ _ _ (WL _ _ _ _ (⟨some _, .convert _ _ _, _, _, _, some _⟩ :: _)); refine G.gC ?_ (by first | (refine gi ?_; intros; exact LT.cnv (m / 256 % 256)) | fail) rfl rfl) | (show GD _ _ _ _ _ _ _ _ _ _ (⟨some _, .convert _ _ _, _, _, _, none⟩ :: _); refine GD.w1 ?_ (by first | exact LT.cnv (m / 256 % 256) | fail)) | (show GD _ _ _ _ _ _ _ _ _ _ (⟨some _, .convert _ _ _, _, _, _, some _⟩ :: _); refine GD.gC ?_ (by first | (refine gi ?_; intros; exact LT.cnv (m / 256 % 256)) | fail) rfl rfl) | (show G _ _ _ _ (WL _ _ _ _ (⟨some _, .binOp .shl _ _ _ _, _, _, _, none⟩ :: _)); refine G.w1 ?_ (by first | exact LT.shl (m / 256 % 256 * 256) | fail)) | (show G _ _ _ _ (WL _ _ _ _ (⟨some _, .binOp .shl _ _ _ _, _, _, _, some _⟩ :: _)); refine G.gC ?_ (by first | (refine gi ?_; intros; exact LT.shl (m / 256 % 256 * 256)) | fail) rfl rfl) | (show GD _ _ _ _ _ _ _ _ _ _ (⟨some _, .binOp .shl _ _ _ _, _, _, _, none⟩ :: _); refine GD.w1 ?_ (by first | exact LT.shl (m / 256 % 256 * 256) | fail)) | (show GD _ _ _ _ _ _ _ _ _ _ (⟨some _, .binOp .shl _ _ _ _, _, _, _, some _⟩ :: _); refine GD.gC ?_ (by first | (refine gi ?_; intros; exact LT.shl (m / 256 % 256 * 256)) | fail) rfl rfl) | ((repeat (revert hK; revert K)); refine wk ?_; repeat intro K hK) | refine wkg ?_))
  rw [w5]
  (repeat (first | refine GD.ctW (he) ?_ | refine G.cW (he) ?_ | refine G.cgW (he) ?_ | refine GD.cW (he) ?_ | refine GD.cgW (he) ?_ | refine GD.ctW (hq) ?_ | refine G.cW (hq) ?_ | refine G.cgW (hq) ?_ | refine GD.cW (hq) ?_ | refine GD.cgW (hq) ?_ | ((repeat (revert hK; revert K)); refine wkG ?_; repeat intro K hK) | refine wkg ?_))
  refine G.fin3 (by first | exact rvOk.tmp | exact rvOk.cellS | exact rvOk.cell1 | fail) (by first | exact rvOk.tmp | exact rvOk.cellS | exact rvOk.cell1 | fail) (by first | exact rvOk.tmp | exact rvOk.cellS | exact rvOk.cell1 | fail) rfl ?_
  rfl

end Go.Proofs.Ytohkigillmlinaa
