/- From a contract of a law ('it returns true and the world has only grown') to what the row asks behind the call. -/
import Derived.Test.YtohpbfcechbngaaLib
import Derived.ProofKit
import Derived.SizedLaws
import Derived.Deep.Slices
import Derived.Deep.Fields
set_option linter.unusedSimpArgs false
set_option linter.unusedVariables false
namespace Go.Proofs.Ytohpbfcechbngaa
open Go.ChangeShapes Go.WideShapes Go.ChangeAt Go.RowKit

theorem Try.own : ownKnob Try.prog.godebug = none := by kernel_rfl
theorem Try.laidOut : laidOutB Try.prog = true := by kernel_rfl

theorem trodAll_below {H : Type} {enc : TypeId × Value → H} {P : Program} (hl : laidOutB P = true) {W W' : World} (hb : Below W.heap.size W W') :
    ∀ {ts : List TypeId} {vs : List Value} {ds : List (DataW H)} {p : List MemPlace}, (ts.all fun t => P.readableRec t && decide (t < P.types.size)) = true →
      DataW.TrodAll enc P W 0 (fun _ => true) true ts vs ds p → (∀ x ∈ p, x.block < W.heap.size) →
      DataW.TrodAll enc P W' 0 (fun b => decide (b < W.heap.size)) true ts vs ds p
  | [], vs, ds, p, _, h, _ => by
    obtain ⟨rfl, rfl, rfl⟩ := trodAll_nil h
    exact h
  | t :: ts, vs, ds, p, hr, h, hlt => by
    obtain ⟨v, vs1, d, ds1, a, b, rfl, rfl, rfl, h1, h2⟩ := trodAll_cons h
    simp only [List.all_cons, Bool.and_eq_true, decide_eq_true_eq] at hr
    refine ⟨a, b, Below.trod hl hr.1.1 hr.1.2 h1 hb (fun x hx => hlt x (List.mem_append_left _ hx)), trodAll_below hl hb hr.2 h2 (fun x hx => hlt x (List.mem_append_right _ hx)), rfl⟩

theorem law_post {H : Type} {enc : TypeId × Value → H} {P : Program} {f : Func} {s : ChangeSpec} {W W' : World} {args : Array Value} {ds gs : List (DataW H)} {before : List MemPlace} {B : TypeId}
    (hl : laidOutB P = true) (hrd : (f.params.toList.all fun t => P.readableRec t && decide (t < P.types.size)) = true) (hv : s.vars = []) (hr : f.resultTypes = #[B]) (hB : P.underlying B = some .bool)
    (hW : DataW.Whole enc P f.params.toList s.vars false W args.toList ds gs before) (hfn : s.fn H (ds ++ gs) = { results := [.lit (.bool true)], args := ds }) (hb : Below W.heap.size W W') :
    s.post enc P f false true false false W args (.bool true) W' := by
  have hW' := hW
  obtain ⟨p, q, hA, hV, rfl, hz, _⟩ := hW
  rw [hv] at hV
  obtain ⟨rfl, rfl⟩ := trodVars_none hV
  rw [List.append_nil] at hW'
  refine ⟨ds, [], p, [], p, [], hW', ?_, ?_, ?_, hb.frame _, fun h => by cases h⟩
  · rw [hfn, hr]
    exact trodAll_mk1 (shut_bool hB _)
  · rw [hfn]
    exact trodAll_below hl hb hrd hA (fun x hx => hW'.lt x hx)
  · rw [hfn, hv]
    rfl

def kindOK : Option IntKind → Value → Prop
  | some k, v => ∃ n, v = .int k n ∧ (Lit.int k n).wf = true
  | none, v => ∃ b, v = .bool b

/-- A flat value's cells: at 'some k' an integer of kind k, at 'none' a bool. -/
def flatOK : List (Option IntKind) → List Value → Prop
  | [], [] => True
  | k :: ks, v :: vs => kindOK k v ∧ flatOK ks vs
  | _, _ => False

def flatKind (P : Program) (t : TypeId) : Option (Option IntKind) := match P.underlying t with
  | some (.int k) => some (some k)
  | some .bool => some none
  | _ => none

theorem flatOK_of_get : ∀ (ks : List (Option IntKind)) (vs : List Value), vs.length = ks.length →
    (∀ (i : Nat) (k : Option IntKind), ks[i]? = some k → ∃ v, vs[i]? = some v ∧ kindOK k v) → flatOK ks vs
  | [], [], _, _ => trivial
  | [], v :: vs, h, _ => by simp at h
  | k :: ks, [], h, _ => by simp at h
  | k :: ks, v :: vs, h, hg => by
    have h0 := hg 0 k rfl
    have hr := flatOK_of_get ks vs (by simpa using h) (fun i k' hk => by simpa using hg (i + 1) k' (by simpa using hk))
    obtain ⟨v', hv', hm⟩ := h0
    simp at hv'
    subst hv'
    exact ⟨hm, hr⟩

theorem trod_flat {H : Type} {enc : TypeId × Value → H} {P : Program} {w : World} {base : Nat} {spare : Nat → Bool} {held : Bool} {fuel : Nat} {t : TypeId} {cs : List Value} {x : DataW H × List MemPlace} {fs : Array Field} (ks : List (Option IntKind))
    (hs : P.underlying t = some (.struct fs)) (hone : Go.Deep.oneCellFields P fs = true) (hk : fs.toList.map (fun f => flatKind P f.type) = ks.map some) (hC : P.cellsOf t = fs.size)
    (h : DataW.trod enc P w base spare held fuel t cs = some x) : flatOK ks cs ∧ x.2 = [] := by
  obtain ⟨xs, n, _, hx, hlen, hl, hg⟩ := DataW.trod_struct hs h
  have hkl : ks.length = fs.size := by have := congrArg List.length hk; simpa using this.symm
  have main : ∀ (i : Nat) (k : Option IntKind), ks[i]? = some k → ∃ (v : Value) (y : DataW H × List MemPlace), cs[i]? = some v ∧ xs[i]? = some y ∧ y.2 = [] ∧ kindOK k v := by
    intro i k hik
    have hi : i < ks.length := (List.getElem?_eq_some_iff.1 hik).1
    have hfi : fs[i]? = some fs[i] := Array.getElem?_eq_getElem (by omega)
    obtain ⟨ho, hc1⟩ := Go.Deep.hone_of hone i _ hfi
    have hki : flatKind P fs[i].type = some k := by
      have h1 : (fs.toList.map (fun f => flatKind P f.type))[i]? = some (flatKind P fs[i].type) := by
        rw [List.getElem?_map, Array.getElem?_toList, hfi]; rfl
      rw [hk, List.getElem?_map, hik] at h1
      simpa using h1.symm
    have hgi := hg i _ hfi
    rw [ho, hc1] at hgi
    have hic : i < cs.length := by omega
    have htk : (cs.drop i).take 1 = [cs[i]] := by rw [List.drop_eq_getElem_cons hic]; rfl
    rw [htk] at hgi
    have hxi : xs[i]? = some xs[i] := List.getElem?_eq_getElem (by omega)
    rw [hxi] at hgi
    refine ⟨cs[i], xs[i], List.getElem?_eq_getElem hic, hxi, ?_⟩
    unfold flatKind at hki
    split at hki
    · rename_i k' hu
      simp at hki
      subst hki
      obtain ⟨m, hm1, hm2, hm3⟩ := DataW.trod_int hu hgi
      simp at hm1
      exact ⟨by rw [hm2], m, hm1, hm3⟩
    · rename_i hu
      simp at hki
      subst hki
      obtain ⟨b, hm1, hm2⟩ := DataW.trod_bool hu hgi
      simp at hm1
      exact ⟨by rw [hm2], b, hm1⟩
    · simp at hki
  refine ⟨flatOK_of_get ks cs (by omega) (fun i k hik => ?_), ?_⟩
  · obtain ⟨v, y, h1, _, _, h4⟩ := main i k hik
    exact ⟨v, h1, h4⟩
  · rw [hx]
    show xs.flatMap (·.2) = []
    rw [List.flatMap_eq_nil_iff]
    intro y hy
    obtain ⟨i, hi, rfl⟩ := List.getElem_of_mem hy
    obtain ⟨v, y', _, h2, h3, _⟩ := main i ks[i] (List.getElem?_eq_getElem (by omega))
    rw [List.getElem?_eq_getElem hi] at h2
    simp at h2
    rw [h2]; exact h3

theorem open_flat {H : Type} {enc : TypeId × Value → H} {P : Program} {w : World} {base : Nat} {spare : Nat → Bool} {held : Bool} {r : Reach} {b0 : Nat} {t : TypeId} {v : Value} {d : DataW H} {p : List MemPlace} {fs : Array Field} (ks : List (Option IntKind))
    (hs : P.underlying t = some (.struct fs)) (hone : Go.Deep.oneCellFields P fs = true) (hk : fs.toList.map (fun f => flatKind P f.type) = ks.map some) (hC : P.cellsOf t = fs.size)
    (hv : Value.okWide P w r b0 t v) (h : DataW.Trod enc P w base spare held t v d p) : ∃ l : List Value, v = .agg l.toArray ∧ flatOK ks l ∧ p = [] := by
  obtain ⟨cs, rfl, hsz⟩ := okWide_struct hs hv
  obtain ⟨fuel, hf⟩ := h
  obtain ⟨h1, h2⟩ := trod_flat ks hs hone hk hC hf
  exact ⟨cs.toList, by simp, h1, h2⟩

theorem flatOK_int {k : IntKind} {ks : List (Option IntKind)} {l : List Value} (h : flatOK (some k :: ks) l) : ∃ n l', l = .int k n :: l' ∧ (Lit.int k n).wf = true ∧ flatOK ks l' := by
  cases l with
  | nil => exact h.elim
  | cons v vs => obtain ⟨⟨n, rfl, hw⟩, hr⟩ := h; exact ⟨n, vs, rfl, hw, hr⟩
theorem flatOK_bool {ks : List (Option IntKind)} {l : List Value} (h : flatOK (none :: ks) l) : ∃ b l', l = .bool b :: l' ∧ flatOK ks l' := by
  cases l with
  | nil => exact h.elim
  | cons v vs => obtain ⟨⟨n, rfl⟩, hr⟩ := h; exact ⟨n, vs, rfl, hr⟩
theorem flatOK_nil {l : List Value} (h : flatOK [] l) : l = [] := by
  cases l with
  | nil => rfl
  | cons v vs => exact h.elim

end Go.Proofs.Ytohpbfcechbngaa
