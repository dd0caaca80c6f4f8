/- Rows that grow; other numbers for one's own blocks. -/
import Derived.Test.YtohpbfcechbngaaAvd
set_option linter.unusedSimpArgs false
set_option linter.unusedVariables false
namespace Go.Proofs.Ytohpbfcechbngaa
open Go.RowKit

section
variable {P : Program} {X : Cx} {al : List (Nat × AV)} {bs : Bs} {E : Env} {a : Act} {W : World}
/-- A row is given up for a new one, which may lie in its block. -/
theorem HdE.newDrop (h : HdE P X al bs E a W) {b q : Nat} {E' : Env} {W' : World} {T : TypeId} {cs : List AV} {row : Option Nat} (hf : lk bs q = none) (hb0 : dom bs b) (hE : Env.le (dom bs) E E') (hg : W.grownBy W' row) (hrow : ∀ r, row = some r → live E bs b ∧ E.A b = r)
    (hA : E'.nl q = false → W.heap.size ≤ E'.A q ∨ (live E bs b ∧ E'.A q = E.A b)) (hk : ∀ own', (∀ r, r < W.heap.size → own' r → ownS E X.o bs r) → EnOk P E' (dom ((q, some (T, cs)) :: (b, none) :: bs)) own' W' q T cs) :
    HdE P X al ((q, some (T, cs)) :: (b, none) :: bs) E' a W' := by
  have hd : ¬ dom bs q := fun ⟨o, ho⟩ => by rw [hf] at ho; cases ho
  have hqb : q ≠ b := fun e => hd (e ▸ hb0)
  have hdm : ∀ x, dom bs x → dom ((q, some (T, cs)) :: (b, none) :: bs) x := fun x hx => dom_cons x (dom_cons x hx)
  have hE0 : Env.le (dom ((b, none) :: bs)) E E' := by
    have hdd : ∀ x, dom ((b, none) :: bs) x → dom bs x := fun x ⟨o, ho⟩ => by
      by_cases he : b = x
      · subst he; exact hb0
      · rw [lk_ne _ _ he] at ho; exact ⟨o, ho⟩
    exact ⟨fun x hx => hE.A x (hdd x hx), fun x hx => hE.V x (hdd x hx), fun x hx => hE.nl x (hdd x hx)⟩
  have hold : ∀ x, q ≠ x → live E' ((q, some (T, cs)) :: (b, none) :: bs) x → live E bs x ∧ x ≠ b := fun x hx hl => live_none ((live_ne hE0 hx).1 hl)
  have ho : ∀ r, r < W.heap.size → ownS E' X.o ((q, some (T, cs)) :: (b, none) :: bs) r → ownS E X.o bs r := by
    rintro r hr (ho | ⟨x, hl, rfl⟩)
    · exact .inl ho
    · by_cases he : q = x
      · subst he
        rcases hA hl.2 with h2 | ⟨h2, h3⟩
        · omega
        · exact .inr ⟨b, h2, h3.symm⟩
      · have h1 := (hold x he hl).1
        exact .inr ⟨x, h1, (hE.A x h1.dom).symm⟩
  have k : Keeps (ownS E X.o bs) (ownS E' X.o ((q, some (T, cs)) :: (b, none) :: bs)) W W' :=
    .of (fun r hr hno => hg.block r hr (fun e => hno (.inr ⟨b, (hrow r e.symm).1, (hrow r e.symm).2⟩))) hg.size ho
  refine ⟨h.ext.grow hg (fun r hr => by obtain ⟨h1, rfl⟩ := hrow r hr; exact h.lo b h1), h.o0, h.df.grow hg (fun r hr => by obtain ⟨h1, rfl⟩ := hrow r hr; exact h.blkOf h1) rfl, h.sz, h.en.step hE hdm, fun n x hn => ?_, fun x T' cs' hc => ?_, fun x hl => ?_, fun b1 b2 hl hl' he => ?_⟩
  · obtain ⟨v, h1, h2⟩ := h.sl n x hn
    exact ⟨v, h1, h2.keeps k hE hdm⟩
  · by_cases he : q = x
    · subst he
      rw [lk_self] at hc
      simp only [Option.some.injEq, Prod.mk.injEq] at hc
      obtain ⟨rfl, rfl⟩ := hc
      exact hk _ ho
    · rw [lk_ne _ _ he] at hc
      have hne : b ≠ x := fun e => by subst e; rw [lk_self] at hc; simp at hc
      rw [lk_ne _ _ hne] at hc
      refine (h.bk x T' cs' hc).keeps k hE hdm ⟨_, hc⟩ (fun hn => hg.block _ (h.live_lt ⟨⟨_, hc⟩, hn⟩) (fun e => hne ?_))
      obtain ⟨h2, h3⟩ := hrow _ e.symm
      exact h.nd b x h2 ⟨⟨_, hc⟩, hn⟩ h3
  · by_cases he : q = x
    · subst he
      rcases hA hl.2 with h2 | ⟨h2, h3⟩
      · exact .inl (Nat.le_trans h.ext.size h2)
      · rw [h3]; exact h.lo b h2
    · have h1 := (hold x he hl).1
      rw [hE.A x h1.dom]
      exact h.lo x h1
  · by_cases h1 : q = b1 <;> by_cases h2 : q = b2
    · omega
    · subst h1
      obtain ⟨h3, h4⟩ := hold b2 h2 hl'
      have h5 := h.live_lt h3
      rw [hE.A b2 h3.dom] at he
      rcases hA hl.2 with h6 | ⟨h6, h7⟩
      · omega
      · exact absurd (h.nd b b2 h6 h3 (by rw [← he, h7])).symm h4
    · subst h2
      obtain ⟨h3, h4⟩ := hold b1 h1 hl
      have h5 := h.live_lt h3
      rw [hE.A b1 h3.dom] at he
      rcases hA hl'.2 with h6 | ⟨h6, h7⟩
      · omega
      · exact absurd (h.nd b1 b h3 h6 (by rw [he, h7])) h4
    · have h3 := (hold b1 h1 hl).1
      have h4 := (hold b2 h2 hl').1
      rw [hE.A b1 h3.dom, hE.A b2 h4.dom] at he
      exact h.nd b1 b2 h3 h4 he
/-- The cells of rows that lie one behind the other. -/
theorem rows_read {own : Nat → Prop} {r m : Nat} : ∀ (rows : List (List D)) (o : Nat) (f : Nat → List Value), (∀ (i : Nat) (row : List D), rows[i]? = some row → row.length = m) → (∀ (i : Nat) (row : List D), rows[i]? = some row → W.rangeAt r (o + i * m) (f i)) →
    (∀ (i : Nat) (row : List D), rows[i]? = some row → RL own W (f i) row) → ∃ news, news.length = rows.length * m ∧ W.rangeAt r o news ∧ RL own W news rows.flatten
  | [], o, f, _, _, _ => ⟨[], by simp, fun j v h => by simp at h, .nil⟩
  | row :: rows, o, f, h1, h2, h3 => by
    obtain ⟨news, g1, g2, g3⟩ := rows_read rows (o + m) (fun i => f (i + 1)) (fun i row hi => h1 (i + 1) row hi) (fun i row hi => by have := h2 (i + 1) row hi; rw [Nat.add_mul, Nat.one_mul] at this; rw [show o + m + i * m = o + (i * m + m) by omega]; exact this) (fun i row hi => h3 (i + 1) row hi)
    have e1 := h1 0 row rfl
    have e2 := h2 0 row rfl
    have e3 := h3 0 row rfl
    have e4 : (f 0).length = m := e3.len.trans e1
    refine ⟨f 0 ++ news, by rw [List.length_append, g1, e4, List.length_cons, Nat.add_mul, Nat.one_mul, Nat.add_comm], ?_, e3.app g3⟩
    intro j v hv
    rcases Nat.lt_or_ge j m with hj | hj
    · rw [List.getElem?_append_left (by omega)] at hv
      have := e2 j v hv
      rw [Nat.zero_mul, Nat.add_zero] at this
      exact this
    · rw [List.getElem?_append_right (by omega), e4] at hv
      have := g2 (j - m) v hv
      rw [show o + m + (j - m) = o + j by omega] at this
      exact this
/-- The types' facts that append asks. -/
class TAp (P : Program) (t : TypeId) (e size bytes : outParam Nat) : Prop where
  h : ∃ i z, P.underlying t = some (.slice e) ∧ P.info? e = some i ∧ i.zero = some z ∧ i.size = size ∧ i.bytes = bytes ∧ z.cells.size = size ∧ 0 < size
theorem flat_len {α : Type} {m : Nat} : ∀ rows : List (List α), (∀ r ∈ rows, r.length = m) → rows.flatten.length = rows.length * m
  | [], _ => by simp
  | r :: rows, h => by
    rw [List.flatten_cons, List.length_append, flat_len rows (fun x hx => h x (List.mem_cons_of_mem _ hx)), h r (List.mem_cons_self ..), List.length_cons, Nat.add_mul, Nat.one_mul, Nat.add_comm]
theorem RL.one {own : Nat → Prop} : ∀ {vs : List Value} {ds : List D}, RL own W vs ds → ds.all D.cell = true → ∀ u ∈ vs, u.oneCell' = true
  | _, _, .nil, _, u, h => by cases h
  | _, _, .cons h t, hc, u, hu => by
    simp only [List.all_cons, Bool.and_eq_true] at hc
    rcases List.mem_cons.1 hu with rfl | hu
    · exact h.cell hc.1
    · exact RL.one t hc.2 u hu
/-- append to a row of one's own. -/
theorem HdE.append (h : HdE P X al bs E a W) {t e size bytes b n : Nat} (q : Nat) (hf : lk bs q = none) (hT : TAp P t e size bytes) {v xv : Value} {cs : List AV} {rows : List (List D)} {ty : TypeId} (hb : lk bs b = some (some (e, cs))) (hv : RA E (dom bs) (ownS E X.o bs) W v (.o b n)) (hx : RA E (dom bs) (ownS E X.o bs) W xv (.d (.l rows)))
    (hm : ∀ r ∈ rows, r.length = size) (hc : rows.flatten.all D.cell = true) (h63 : n + rows.length ≤ maxLen) (hby : (n + rows.length) * bytes ≤ 140737488355328) :
    ∃ v' W' E', (Builtin.append_ #[t, t] ty #[v, xv]).run P W = .ok v' W' ∧ HdE P X al ((q, some (e, cs ++ rows.flatten.map .d)) :: (b, none) :: bs) E' a W' ∧ RA E' (dom ((q, some (e, cs ++ rows.flatten.map .d)) :: (b, none) :: bs)) (ownS E' X.o ((q, some (e, cs ++ rows.flatten.map .d)) :: (b, none) :: bs)) W' v' (.o q (n + rows.length)) := by
  obtain ⟨i0, z, hu, hi, hz, hsz, hbs, hzs, hpos⟩ := hT.h
  have hst : (P.info? e).map (·.size) = some size := by rw [hi, Option.map_some, hsz]
  cases hv with
  | @o _ _ c p hb' hV =>
    -- the old row
    have hold : ∃ vs, W.ownsRow 0 e size (.slice p n c) n vs ∧ RAL E (dom bs) (ownS E X.o bs) W vs cs ∧ n ≤ c ∧ (∀ g, (Value.slice p n c).ownBlock = some g → live E bs b ∧ E.A b = g) := by
      rcases h.bk b e cs hb with ⟨h0, h1, h2⟩ | ⟨h0, vs, sp, m, n', c', h1, h2, h3, h4, h5, h6, h7, h8⟩
      · rw [hV] at h2
        simp only [Value.slice.injEq] at h2
        obtain ⟨rfl, rfl, rfl⟩ := h2
        exact ⟨[], World.ownsRow_nil _ _ _ _, by rw [h1]; exact .nil, Nat.le_refl _, fun g hg => by cases hg⟩
      · rw [hV] at h4
        simp only [Value.slice.injEq] at h4
        obtain ⟨rfl, rfl, rfl⟩ := h4
        have hmm : m = size := by rw [hst] at h3; exact (Option.some.inj h3).symm
        subst hmm
        have hl : live E bs b := ⟨⟨_, hb⟩, h0⟩
        refine ⟨vs, ⟨h7, .inr ⟨E.A b, c, (vs ++ sp).toArray, rfl, Nat.zero_le _, h1, h5, h6, by simpa using h8, ?_⟩⟩, h2, h5, fun g hg => ⟨hl, by simpa [Value.ownBlock] using hg⟩⟩
        rw [← h7]
        simp
    obtain ⟨vs, hown, hvs, hnc, hblk⟩ := hold
    have hbase : 0 ≤ W.heap.size := Nat.zero_le _
    -- what the run leaves, told of any source
    have key : ∀ v' W' news, W'.ownsRow 0 e size v' (n + rows.length) (vs ++ news) → W.grownBy W' (Value.slice p n c).ownBlock → (v'.ownBlock = (Value.slice p n c).ownBlock ∨ v'.ownBlock = some W.heap.size) → RL (ownS E X.o bs) W news rows.flatten →
        ∃ E', HdE P X al ((q, some (e, cs ++ rows.flatten.map .d)) :: (b, none) :: bs) E' a W' ∧ RA E' (dom ((q, some (e, cs ++ rows.flatten.map .d)) :: (b, none) :: bs)) (ownS E' X.o ((q, some (e, cs ++ rows.flatten.map .d)) :: (b, none) :: bs)) W' v' (.o q (n + rows.length)) := by
      intro v' W' news g1 g2 g3 g4
      have hA' : ∀ g, v'.ownBlock = some g → W.heap.size ≤ g ∨ (live E bs b ∧ g = E.A b) := by
        intro g hg
        rcases g3 with h1 | h1
        · rw [hg] at h1
          obtain ⟨h2, h3⟩ := hblk g h1.symm
          exact .inr ⟨h2, h3.symm⟩
        · rw [hg] at h1
          cases h1
          exact .inl (Nat.le_refl _)
      have hsh : ∃ p' c', v' = .slice p' (n + rows.length) c' := by
        rcases g1.2 with ⟨h1, h2⟩ | ⟨g, cap, cur, h1, _⟩
        · exact ⟨none, 0, by rw [h1, h2]⟩
        · exact ⟨_, _, h1⟩
      obtain ⟨p', c', hv'⟩ := hsh
      let E' := E.set q ((v'.ownBlock).getD 0) v' (v'.ownBlock).isNone
      have hd : ¬ dom bs q := fun ⟨o, ho⟩ => by rw [hf] at ho; cases ho
      have hle : Env.le (dom bs) E E' := Env.le_set _ hd _ _ _
      have hdm : ∀ x, dom bs x → dom ((q, some (e, cs ++ rows.flatten.map .d)) :: (b, none) :: bs) x := fun x hx => dom_cons x (dom_cons x hx)
      refine ⟨E', h.newDrop hf ⟨_, hb⟩ hle g2 (fun r hr => hblk r hr) (fun hn => ?_) (fun own' ho => ?_), ?_⟩
      · simp only [E', Env.set_nl] at hn
        simp only [E', Env.set_A]
        cases hg : v'.ownBlock with
        | none => rw [hg] at hn; cases hn
        | some g => exact hA' g hg
      · have k : Keeps (ownS E X.o bs) own' W W' := .of (fun r hr hno => g2.block r hr (fun e => hno (.inr ⟨b, (hblk r e.symm).1, (hblk r e.symm).2⟩))) g2.size ho
        have hra : RAL E' (dom ((q, some (e, cs ++ rows.flatten.map .d)) :: (b, none) :: bs)) own' W' (vs ++ news) (cs ++ rows.flatten.map .d) := (hvs.app (RAL.map g4)).keeps k hle hdm
        rcases g1.2 with ⟨h1, h2⟩ | ⟨g, cap, cur, h1, h2, h3, h4, h5, h6, h7⟩
        · refine .inl ⟨by simp only [E', Env.set_nl, h1]; rfl, ?_, by simp only [E', Env.set_V, h1]⟩
          have hl := g1.1
          rw [h2, Nat.zero_mul] at hl
          have := hra.len
          rw [hl] at this
          exact List.length_eq_zero_iff.1 this.symm
        · have hbk : v'.ownBlock = some g := by rw [h1]; rfl
          refine .inr ⟨by simp only [E', Env.set_nl, hbk]; rfl, vs ++ news, cur.toList.drop ((n + rows.length) * size), size, n + rows.length, cap, ?_, hra, hst, ?_, h4, h5, g1.1, ?_⟩
          · simp only [E', Env.set_A, hbk, Option.getD_some]
            rw [← h7, List.take_append_drop]
            exact h3
          · simp only [E', Env.set_A, Env.set_V, hbk, Option.getD_some]
            exact h1
          · rw [← h7, List.take_append_drop]
            simpa using h6
      · subst hv'
        exact .o ⟨_, lk_self _ _ _⟩ (by simp only [E', Env.set_V])
    have src : ∀ {rw : List (List D)} {u : Value}, RA E (dom bs) (ownS E X.o bs) W u (.d (.l rw)) → (rw = [] ∧ ∃ q k, u = .slice q 0 k) ∨ ∃ r o k, u = .slice (some ⟨r, o, none⟩) rw.length k ∧ rw ≠ [] ∧ ∃ f : Nat → List Value, ∃ m, (∀ (i : Nat) (row : List D), rw[i]? = some row → row.length = m) ∧ (∀ (i : Nat) (row : List D), rw[i]? = some row → W.rangeAt r (o + i * m) (f i)) ∧ (∀ (i : Nat) (row : List D), rw[i]? = some row → RL (ownS E X.o bs) W (f i) row) := by
      intro rw u hu
      cases hu with
      | d hu =>
        cases hu with
        | nl => exact .inl ⟨rfl, _, _, rfl⟩
        | @l r o _ k m _ f hn hc' hm' hr ho h1 h2 h3 =>
          subst hn
          cases rw with
          | nil => exact .inl ⟨rfl, _, _, rfl⟩
          | cons row rows' => exact .inr ⟨r, o, k, rfl, by simp, f, m, h1, h2, h3⟩
    rcases src hx with ⟨rfl, q, k, rfl⟩ | ⟨r, o, k, rfl, hne, f, m, g1, g2, g3⟩
    · cases q with
      | none =>
        have hrun := run_append_nothing (P := P) (ty := ty) W t t e i0 hu hi p n c hnc (.slice none 0 k) (Src.ofNil W hu k)
        obtain ⟨E', h1, h2⟩ := key (.slice p n c) W [] (by simpa using hown) ⟨rfl, rfl, rfl, Nat.le_refl _, fun _ _ _ => rfl⟩ (.inl rfl) .nil
        exact ⟨_, _, E', hrun, h1, h2⟩
      | some ad =>
        obtain ⟨v', W', hrun, g1, g2, g3, g4⟩ := run_append_own_at (P := P) W 0 t ty e i0 z size bytes hu hi hz hsz hbs hzs hpos _ n vs hown ad 0 k [] (by simp) (fun j u hu => by simp at hu) (by simp) (by simpa using h63) (by simpa using hby) hbase
        obtain ⟨E', h1, h2⟩ := key v' W' [] (by simpa using g1) g2 g4 .nil
        exact ⟨_, _, E', hrun, h1, h2⟩
    · obtain ⟨news, e1, e2, e3⟩ := rows_read rows o f g1 g2 g3
      have hmm : m = size := by
        cases rows with
        | nil => exact absurd rfl hne
        | cons row rest => exact (g1 0 row rfl).symm.trans (hm row (List.mem_cons_self ..))
      subst hmm
      obtain ⟨v', W', hrun, g1, g2, g3, g4⟩ := run_append_own_at (P := P) W 0 t ty e i0 z m bytes hu hi hz hsz hbs hzs hpos _ n vs hown ⟨r, o, none⟩ rows.length k news e1 (fun j u hu => by rw [Addr.add_mid]; exact e2 j u hu) (e3.one hc) h63 hby hbase
      obtain ⟨E', h1, h2⟩ := key v' W' news g1 g2 g4 e3
      exact ⟨_, _, E', hrun, h1, h2⟩

/-! ### Other numbers -/
mutual
def AV.ren (π : List (Nat × Nat)) : AV → AV
  | .p b off => .p ((lk π b).getD 0) off
  | .o b n => .o ((lk π b).getD 0) n
  | .vw b off n f => .vw ((lk π b).getD 0) off n f
  | .st cs => .st (AV.renL π cs)
  | .tup cs => .tup (AV.renL π cs)
  | .fn K cs => .fn K (AV.renL π cs)
  | .d x => .d x
  | .gd t want x => .gd t want (AV.ren π x)
  | .any => .any
def AV.renL (π : List (Nat × Nat)) : List AV → List AV
  | [] => []
  | c :: cs => AV.ren π c :: AV.renL π cs
end
mutual
def AV.kb (π : List (Nat × Nat)) : AV → Bool
  | .p b _ => (lk π b).isSome
  | .o b _ => (lk π b).isSome
  | .vw b _ _ _ => (lk π b).isSome
  | .st cs => AV.kbL π cs
  | .tup cs => AV.kbL π cs
  | .fn _ cs => AV.kbL π cs
  | .d _ => true
  | .gd _ _ x => AV.kb π x
  | .any => true
def AV.kbL (π : List (Nat × Nat)) : List AV → Bool
  | [] => true
  | c :: cs => (AV.kb π c) && (AV.kbL π cs)
end
/-- The numbers in use. -/
def dmR (π : List (Nat × Nat)) (b : Nat) : Prop := (lk π b).isSome = true
def Env.ren (E : Env) (π : List (Nat × Nat)) : Env := ⟨fun b => E.A ((lk π b).getD 0), fun b => E.V ((lk π b).getD 0), fun b => E.nl ((lk π b).getD 0)⟩
mutual
theorem RA.ren {π : List (Nat × Nat)} {dm own own' : Nat → Prop} (k : Keeps own own' W W) : ∀ (x : AV) {v : Value}, RA E dm own W v (x.ren π) → x.kb π = true → RA (E.ren π) (dmR π) own' W v x
  | .p b off, _, h, hb => by
    simp only [AV.ren] at h
    simp only [AV.kb] at hb
    cases h with
    | p h1 h2 => exact RA.p (E := E.ren π) hb h2
  | .o b n, _, h, hb => by
    simp only [AV.ren] at h
    simp only [AV.kb] at hb
    cases h with
    | o h1 h2 => exact RA.o (E := E.ren π) hb h2
  | .vw b off n f, _, h, hb => by
    simp only [AV.ren] at h
    simp only [AV.kb] at hb
    cases h with
    | vw h1 h2 h3 h4 h5 => exact RA.vw (E := E.ren π) hb h2 h3 h4 h5
  | .st cs, _, h, hb => by
    simp only [AV.ren] at h
    simp only [AV.kb] at hb
    cases h with
    | st h => exact .st (RAL.ren k cs h hb)
  | .tup cs, _, h, hb => by
    simp only [AV.ren] at h
    simp only [AV.kb] at hb
    cases h with
    | tup h => exact .tup (RAL.ren k cs h hb)
  | .fn K cs, _, h, hb => by
    simp only [AV.ren] at h
    simp only [AV.kb] at hb
    cases h with
    | fn h => exact .fn (RAL.ren k cs h hb)
  | .d x, _, h, _ => by
    simp only [AV.ren] at h
    cases h with
    | d h => exact .d (h.keeps k)
  | .gd t want x, _, h, hb => by
    simp only [AV.ren] at h
    simp only [AV.kb] at hb
    cases h with
    | gd h h' => exact .gd (fun e => RA.ren k x (h e) hb) h'
  | .any, _, _, _ => .any
theorem RAL.ren {π : List (Nat × Nat)} {dm own own' : Nat → Prop} (k : Keeps own own' W W) : ∀ (cs : List AV) {vs : List Value}, RAL E dm own W vs (AV.renL π cs) → AV.kbL π cs = true → RAL (E.ren π) (dmR π) own' W vs cs
  | [], _, h, _ => by
    simp only [AV.renL] at h
    cases h with
    | nil => exact .nil
  | c :: cs, _, h, hb => by
    simp only [AV.renL] at h
    simp only [AV.kbL, Bool.and_eq_true] at hb
    cases h with
    | cons h t => exact .cons (RA.ren k c h hb.1) (RAL.ren k cs t hb.2)
end
/-- The slots of al' are those of al, at the numbers π. -/
def SubR (π : List (Nat × Nat)) (al : List (Nat × AV)) : List (Nat × AV) → Prop
  | [] => True
  | (n, x) :: l => (lk al n = some (x.ren π) ∧ x.kb π = true) ∧ SubR π al l
/-- The blocks of l, each once, lie under the numbers π. -/
def BsR (bs : Bs) (π0 : List (Nat × Nat)) : List (Nat × Nat) → Bs → Prop
  | [], [] => True
  | (i, j) :: q, (i', some (T, cs)) :: l => (i' = i ∧ lk bs j = some (some (T, AV.renL π0 cs)) ∧ AV.kbL π0 cs = true) ∧ BsR bs π0 q l
  | (i, _) :: q, (i', none) :: l => i' = i ∧ BsR bs π0 q l
  | _, _ => False
theorem SubR.get {π : List (Nat × Nat)} {al : List (Nat × AV)} : ∀ {al' : List (Nat × AV)}, SubR π al al' → ∀ n x, lk al' n = some x → lk al n = some (x.ren π) ∧ x.kb π = true
  | [], _, n, x, h => by simp [lk] at h
  | (m, y) :: l, ⟨h1, h2⟩, n, x, h => by
    rw [lk_cons] at h
    split at h
    · rename_i he
      subst he
      simp only [Option.some.injEq] at h
      subst h
      exact h1
    · exact SubR.get h2 n x h
theorem BsR.get {bs : Bs} {π0 : List (Nat × Nat)} : ∀ {q : List (Nat × Nat)} {l : Bs}, BsR bs π0 q l → (∀ i, (lk q i).isSome = true → dom l i) ∧ ∀ (i T : Nat) (cs : List AV), lk l i = some (some (T, cs)) → ∃ j, lk q i = some j ∧ lk bs j = some (some (T, AV.renL π0 cs)) ∧ AV.kbL π0 cs = true
  | [], [], _ => ⟨fun i h => by simp [lk] at h, fun i T cs h => by simp [lk] at h⟩
  | (i0, j) :: q, (i', none) :: l, h => by
    obtain ⟨rfl, h'⟩ := h
    obtain ⟨h1, h2⟩ := BsR.get h'
    refine ⟨fun i hi => ?_, fun i T cs hi => ?_⟩
    · rw [lk_cons] at hi
      split at hi
      · rename_i he; subst he; exact ⟨_, lk_self _ _ _⟩
      · exact dom_cons i (h1 i hi)
    · rw [lk_cons] at hi ⊢
      split at hi
      · simp at hi
      · rename_i he
        rw [if_neg he]
        exact h2 i T cs hi
  | (i0, j) :: q, (i', some (T', cs')) :: l, h => by
    obtain ⟨⟨rfl, h0⟩, h'⟩ := h
    obtain ⟨h1, h2⟩ := BsR.get h'
    refine ⟨fun i hi => ?_, fun i T cs hi => ?_⟩
    · rw [lk_cons] at hi
      split at hi
      · rename_i he; subst he; exact ⟨_, lk_self _ _ _⟩
      · exact dom_cons i (h1 i hi)
    · rw [lk_cons] at hi ⊢
      split at hi
      · rename_i he
        rw [if_pos he]
        simp only [Option.some.injEq, Prod.mk.injEq] at hi
        obtain ⟨rfl, rfl⟩ := hi
        exact ⟨j, rfl, h0⟩
      · rename_i he
        rw [if_neg he]
        exact h2 i T cs hi
  | [], _ :: _, h => by cases h
  | _ :: _, [], h => by cases h
theorem lk_inj : ∀ {π : List (Nat × Nat)}, (π.map (·.2)).Nodup → ∀ {i i' j : Nat}, lk π i = some j → lk π i' = some j → i = i'
  | [], _, i, i', j, h, _ => by simp [lk] at h
  | (m, v) :: π, hd, i, i', j, h, h' => by
    simp only [List.map_cons, List.nodup_cons, List.mem_map, not_exists, not_and] at hd
    have mem : ∀ {π : List (Nat × Nat)} {i j : Nat}, lk π i = some j → (i, j) ∈ π := by
      intro π
      induction π with
      | nil => intro i j h; simp [lk] at h
      | cons p π ih =>
        obtain ⟨m, v⟩ := p
        intro i j h
        rw [lk_cons] at h
        split at h
        · rename_i he; subst he; cases h; exact List.mem_cons_self ..
        · exact List.mem_cons_of_mem _ (ih h)
    rw [lk_cons] at h h'
    split at h <;> split at h'
    · rename_i h1 h2; omega
    · cases h
      exact absurd rfl (hd.1 _ (mem h'))
    · cases h'
      exact absurd rfl (hd.1 _ (mem h))
    · exact lk_inj hd.2 h h'
theorem HdE.ren (h : HdE P X al bs E a W) {al' : List (Nat × AV)} {bs' : Bs} (π : List (Nat × Nat)) (hs : SubR π al al') (hb : BsR bs π π bs') (hd : (π.map (·.2)).Nodup) (hk : X.k.all (fun b => (lk bs' b).isSome && Nat.beq ((lk π b).getD 0) b) = true) : HdE P X al' bs' (E.ren π) a W := by
  obtain ⟨hdom, hget⟩ := hb.get
  have hg : ∀ i T cs, lk bs' i = some (some (T, cs)) → ∃ j, lk π i = some j ∧ lk bs j = some (some (T, AV.renL π cs)) ∧ AV.kbL π cs = true := hget
  have hl : ∀ i, live (E.ren π) bs' i → ∃ j, lk π i = some j ∧ live E bs j := by
    rintro i ⟨⟨⟨T, cs⟩, h1⟩, h2⟩
    obtain ⟨j, h3, h4, _⟩ := hg i T cs h1
    refine ⟨j, h3, ⟨_, h4⟩, ?_⟩
    simp only [Env.ren, h3, Option.getD_some] at h2
    exact h2
  have hA : ∀ {i j}, lk π i = some j → (E.ren π).A i = E.A j := fun {i j} hij => by simp only [Env.ren, hij, Option.getD_some]
  have ho : ∀ r, ownS (E.ren π) X.o bs' r → ownS E X.o bs r := by
    rintro r (ho | ⟨i, h1, rfl⟩)
    · exact .inl ho
    · obtain ⟨j, h2, h3⟩ := hl i h1
      exact .inr ⟨j, h3, (hA h2).symm⟩
  have k : Keeps (ownS E X.o bs) (ownS (E.ren π) X.o bs') W W := .of (fun _ _ _ => rfl) (Nat.le_refl _) (fun r _ h => ho r h)
  have k2 : Keeps (ownS (E.ren π) X.o bs') (ownS (E.ren π) X.o bs') W W := .of (fun _ _ _ => rfl) (Nat.le_refl _) (fun _ _ h => h)
  have hkk : ∀ b ∈ X.k, dom bs' b ∧ (lk π b).getD 0 = b := fun b hb => by
    have := List.all_eq_true.1 hk b hb
    simp only [Bool.and_eq_true, Nat.beq_eq] at this
    exact ⟨Option.isSome_iff_exists.1 this.1, this.2⟩
  refine ⟨h.ext, h.o0, h.df, h.sz, ⟨fun b hb => (hkk b hb).1, fun b hb => by simp only [Env.ren, (hkk b hb).2]; exact h.en.A b hb, fun b hb => by simp only [Env.ren, (hkk b hb).2]; exact h.en.V b hb, fun b hb => by simp only [Env.ren, (hkk b hb).2]; exact h.en.nl b hb⟩, fun n x hn => ?_, fun i T cs hi => ?_, fun i hi => ?_, fun i j hi hj he => ?_⟩
  · obtain ⟨h1, h2⟩ := hs.get n x hn
    obtain ⟨v, h3, h4⟩ := h.sl n _ h1
    exact ⟨v, h3, (h4.ren k x h2).keeps k2 (Env.le.refl _ _) hdom⟩
  · obtain ⟨j, h1, h2, h3⟩ := hg i T cs hi
    unfold EnOk
    simp only [Env.ren, h1, Option.getD_some]
    rcases h.bk _ T _ h2 with ⟨e1, e2, e3⟩ | ⟨e1, vs, sp, m, n, c, e2, e3, e4⟩
    · refine .inl ⟨e1, ?_, e3⟩
      cases cs with
      | nil => rfl
      | cons c cs => simp [AV.renL] at e2
    · exact .inr ⟨e1, vs, sp, m, n, c, e2, (e3.ren k cs h3).keeps k2 (Env.le.refl _ _) hdom, e4⟩
  · obtain ⟨j, h1, h2⟩ := hl i hi
    rw [hA h1]
    exact h.lo _ h2
  · obtain ⟨i2, h1, h2⟩ := hl i hi
    obtain ⟨j2, h3, h4⟩ := hl j hj
    rw [hA h1, hA h3] at he
    have h5 := h.nd _ _ h2 h4 he
    subst h5
    exact lk_inj hd h1 h3
end

end Go.Proofs.Ytohpbfcechbngaa
