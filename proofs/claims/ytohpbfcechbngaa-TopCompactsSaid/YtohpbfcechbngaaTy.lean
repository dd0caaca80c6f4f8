/- The types of this program's table: size, fields, zero values. -/
import Derived.Test.YtohpbfcechbngaaAvf
set_option linter.unusedSimpArgs false
set_option linter.unusedVariables false
namespace Go.Proofs.Ytohpbfcechbngaa
open Go.RowKit

def tbd (P : Program) (T : Nat) : Option (List (Nat × Option Nat)) := match P.underlying T with
  | some (.struct fs) => some (fs.toList.map (fun f => (f.offset, (P.info? f.type).map (fun i => i.size))))
  | _ => none
/-- A struct's zero value and its fields' places. -/
class TBd (P : Program) (T : TypeId) (zs : outParam (List Value)) (pl : outParam (List (Nat × Nat))) : Prop where
  z : (P.info? T).bind (fun i => i.zero) = some (.agg zs.toArray)
  p : tbd P T = some (pl.map (fun p => (p.1, some p.2)))
  c : zs.all (·.oneCell') = true
class TBo (P : Program) (T : TypeId) : Prop where
  h : P.underlying T = some .bool
def tap (P : Program) (t e size bytes : Nat) : Bool := match P.underlying t, P.info? e with
  | some (.slice e'), some i => match i.zero with
    | some z => Nat.beq e' e && Nat.beq i.size size && Nat.beq i.bytes bytes && Nat.beq z.cells.size size && Nat.blt 0 size
    | none => false
  | _, _ => false
theorem tap_of {P : Program} {t e size bytes : Nat} (h : tap P t e size bytes = true) : TAp P t e size bytes := by
  unfold tap at h
  split at h
  · rename_i e' i hu hi
    split at h
    · rename_i z hz
      simp only [Bool.and_eq_true, Nat.blt_eq] at h
      obtain ⟨⟨⟨⟨h1, h2⟩, h3⟩, h4⟩, h5⟩ := h
      exact ⟨i, z, by rw [hu, Nat.eq_of_beq_eq_true h1], hi, hz, Nat.eq_of_beq_eq_true h2, Nat.eq_of_beq_eq_true h3, Nat.eq_of_beq_eq_true h4, h5⟩
    · cases h
  · cases h
theorem tzc_of {P : Program} {T n : Nat} {zs : List AV} (vs : List Value) (h : (P.info? T).bind (fun i => i.zero.map (fun z => (i.size, z.cells))) = some (n, vs.toArray)) (hl : vs.length = n) (hc : vs.all (·.oneCell') = true) (hz : zs = vs.map (fun v => .d (.s v))) : TZc P T n zs := by
  cases hi : P.info? T with
  | none => rw [hi] at h; cases h
  | some i =>
    cases hz0 : i.zero with
    | none => rw [hi] at h; simp [hz0] at h
    | some z =>
      rw [hi] at h
      simp only [Option.bind_some, hz0, Option.map_some, Option.some.injEq, Prod.mk.injEq] at h
      exact ⟨i, z, vs, hi, hz0, h.2, h.1, hl, hc, hz⟩
instance : TZs Go.Proofs.Try.prog 1 1 := ⟨by kernel_rfl⟩
instance : TSc Go.Proofs.Try.prog 1 := ⟨by kernel_rfl⟩
instance : TZs Go.Proofs.Try.prog 2 1 := ⟨by kernel_rfl⟩
instance : TSc Go.Proofs.Try.prog 2 := ⟨by kernel_rfl⟩
instance : TIn Go.Proofs.Try.prog 2 .i64 := ⟨by kernel_rfl⟩
instance : TZc Go.Proofs.Try.prog 2 1 [.d (.s (.int .i64 0))] := tzc_of [(.int .i64 0)] (by kernel_rfl) rfl rfl rfl
instance : TZs Go.Proofs.Try.prog 3 1 := ⟨by kernel_rfl⟩
instance : TSc Go.Proofs.Try.prog 3 := ⟨by kernel_rfl⟩
instance : TIn Go.Proofs.Try.prog 3 .i64 := ⟨by kernel_rfl⟩
instance : TZc Go.Proofs.Try.prog 3 1 [.d (.s (.int .i64 0))] := tzc_of [(.int .i64 0)] (by kernel_rfl) rfl rfl rfl
instance : TZs Go.Proofs.Try.prog 4 1 := ⟨by kernel_rfl⟩
instance : TSc Go.Proofs.Try.prog 4 := ⟨by kernel_rfl⟩
instance : TBo Go.Proofs.Try.prog 4 := ⟨by kernel_rfl⟩
instance : TZc Go.Proofs.Try.prog 4 1 [.d (.s (.bool false))] := tzc_of [(.bool false)] (by kernel_rfl) rfl rfl rfl
instance : TZs Go.Proofs.Try.prog 5 1 := ⟨by kernel_rfl⟩
instance : TSc Go.Proofs.Try.prog 5 := ⟨by kernel_rfl⟩
instance : TIn Go.Proofs.Try.prog 5 .u8 := ⟨by kernel_rfl⟩
instance : TZc Go.Proofs.Try.prog 5 1 [.d (.s (.int .u8 0))] := tzc_of [(.int .u8 0)] (by kernel_rfl) rfl rfl rfl
instance : TZs Go.Proofs.Try.prog 9 1 := ⟨by kernel_rfl⟩
instance : TSc Go.Proofs.Try.prog 9 := ⟨by kernel_rfl⟩
instance : TZs Go.Proofs.Try.prog 12 1 := ⟨by kernel_rfl⟩
instance : TSc Go.Proofs.Try.prog 12 := ⟨by kernel_rfl⟩
instance : TIn Go.Proofs.Try.prog 12 .u64 := ⟨by kernel_rfl⟩
instance : TZc Go.Proofs.Try.prog 12 1 [.d (.s (.int .u64 0))] := tzc_of [(.int .u64 0)] (by kernel_rfl) rfl rfl rfl
instance : TZs Go.Proofs.Try.prog 13 2 := ⟨by kernel_rfl⟩
instance : TRw Go.Proofs.Try.prog 13 2 := ⟨by kernel_rfl⟩
instance : TFo Go.Proofs.Try.prog 13 0 0 := ⟨by kernel_rfl⟩
instance : TFt Go.Proofs.Try.prog 13 0 9 := ⟨by kernel_rfl⟩
instance : TFo Go.Proofs.Try.prog 13 1 1 := ⟨by kernel_rfl⟩
instance : TFt Go.Proofs.Try.prog 13 1 12 := ⟨by kernel_rfl⟩
instance : TZs Go.Proofs.Try.prog 21 1 := ⟨by kernel_rfl⟩
instance : TSc Go.Proofs.Try.prog 21 := ⟨by kernel_rfl⟩
instance : TIn Go.Proofs.Try.prog 21 .i32 := ⟨by kernel_rfl⟩
instance : TZc Go.Proofs.Try.prog 21 1 [.d (.s (.int .i32 0))] := tzc_of [(.int .i32 0)] (by kernel_rfl) rfl rfl rfl
instance : TZs Go.Proofs.Try.prog 22 1 := ⟨by kernel_rfl⟩
instance : TSc Go.Proofs.Try.prog 22 := ⟨by kernel_rfl⟩
instance : TSl Go.Proofs.Try.prog 22 5 1 := ⟨by kernel_rfl⟩
instance : TAp Go.Proofs.Try.prog 22 5 1 1 := tap_of (by kernel_rfl)
instance : TZc Go.Proofs.Try.prog 22 1 [.d (.s (.slice none 0 0))] := tzc_of [(.slice none 0 0)] (by kernel_rfl) rfl rfl rfl
instance : TZs Go.Proofs.Try.prog 23 1 := ⟨by kernel_rfl⟩
instance : TSc Go.Proofs.Try.prog 23 := ⟨by kernel_rfl⟩
instance : TZs Go.Proofs.Try.prog 24 1 := ⟨by kernel_rfl⟩
instance : TSc Go.Proofs.Try.prog 24 := ⟨by kernel_rfl⟩
instance : TSl Go.Proofs.Try.prog 24 3 1 := ⟨by kernel_rfl⟩
instance : TAp Go.Proofs.Try.prog 24 3 1 8 := tap_of (by kernel_rfl)
instance : TZc Go.Proofs.Try.prog 24 1 [.d (.s (.slice none 0 0))] := tzc_of [(.slice none 0 0)] (by kernel_rfl) rfl rfl rfl
instance : TZs Go.Proofs.Try.prog 25 1 := ⟨by kernel_rfl⟩
instance : TSc Go.Proofs.Try.prog 25 := ⟨by kernel_rfl⟩
instance : TZs Go.Proofs.Try.prog 26 5 := ⟨by kernel_rfl⟩
instance : TRw Go.Proofs.Try.prog 26 5 := ⟨by kernel_rfl⟩
instance : TZc Go.Proofs.Try.prog 26 5 [.d (.s (.slice none 0 0)), .d (.s (.slice none 0 0)), .d (.s (.slice none 0 0)), .d (.s (.slice none 0 0)), .d (.s (.slice none 0 0))] := tzc_of [(.slice none 0 0), (.slice none 0 0), (.slice none 0 0), (.slice none 0 0), (.slice none 0 0)] (by kernel_rfl) rfl rfl rfl
instance : TZs Go.Proofs.Try.prog 27 10 := ⟨by kernel_rfl⟩
instance : TRw Go.Proofs.Try.prog 27 10 := ⟨by kernel_rfl⟩
instance : TFo Go.Proofs.Try.prog 27 0 0 := ⟨by kernel_rfl⟩
instance : TFt Go.Proofs.Try.prog 27 0 3 := ⟨by kernel_rfl⟩
instance : TFo Go.Proofs.Try.prog 27 1 1 := ⟨by kernel_rfl⟩
instance : TFt Go.Proofs.Try.prog 27 1 3 := ⟨by kernel_rfl⟩
instance : TFo Go.Proofs.Try.prog 27 2 2 := ⟨by kernel_rfl⟩
instance : TFt Go.Proofs.Try.prog 27 2 3 := ⟨by kernel_rfl⟩
instance : TFo Go.Proofs.Try.prog 27 3 3 := ⟨by kernel_rfl⟩
instance : TFt Go.Proofs.Try.prog 27 3 3 := ⟨by kernel_rfl⟩
instance : TFo Go.Proofs.Try.prog 27 4 4 := ⟨by kernel_rfl⟩
instance : TFt Go.Proofs.Try.prog 27 4 3 := ⟨by kernel_rfl⟩
instance : TFo Go.Proofs.Try.prog 27 5 5 := ⟨by kernel_rfl⟩
instance : TFt Go.Proofs.Try.prog 27 5 26 := ⟨by kernel_rfl⟩
instance : TBd Go.Proofs.Try.prog 27 [(.int .i64 0), (.int .i64 0), (.int .i64 0), (.int .i64 0), (.int .i64 0), (.slice none 0 0), (.slice none 0 0), (.slice none 0 0), (.slice none 0 0), (.slice none 0 0)] [(0, 1), (1, 1), (2, 1), (3, 1), (4, 1), (5, 5)] := ⟨by kernel_rfl, by kernel_rfl, rfl⟩
instance : TZc Go.Proofs.Try.prog 27 10 [.d (.s (.int .i64 0)), .d (.s (.int .i64 0)), .d (.s (.int .i64 0)), .d (.s (.int .i64 0)), .d (.s (.int .i64 0)), .d (.s (.slice none 0 0)), .d (.s (.slice none 0 0)), .d (.s (.slice none 0 0)), .d (.s (.slice none 0 0)), .d (.s (.slice none 0 0))] := tzc_of [(.int .i64 0), (.int .i64 0), (.int .i64 0), (.int .i64 0), (.int .i64 0), (.slice none 0 0), (.slice none 0 0), (.slice none 0 0), (.slice none 0 0), (.slice none 0 0)] (by kernel_rfl) rfl rfl rfl
instance : TZs Go.Proofs.Try.prog 28 10 := ⟨by kernel_rfl⟩
instance : TRw Go.Proofs.Try.prog 28 10 := ⟨by kernel_rfl⟩
instance : TFo Go.Proofs.Try.prog 28 0 0 := ⟨by kernel_rfl⟩
instance : TFt Go.Proofs.Try.prog 28 0 3 := ⟨by kernel_rfl⟩
instance : TFo Go.Proofs.Try.prog 28 1 1 := ⟨by kernel_rfl⟩
instance : TFt Go.Proofs.Try.prog 28 1 3 := ⟨by kernel_rfl⟩
instance : TFo Go.Proofs.Try.prog 28 2 2 := ⟨by kernel_rfl⟩
instance : TFt Go.Proofs.Try.prog 28 2 3 := ⟨by kernel_rfl⟩
instance : TFo Go.Proofs.Try.prog 28 3 3 := ⟨by kernel_rfl⟩
instance : TFt Go.Proofs.Try.prog 28 3 3 := ⟨by kernel_rfl⟩
instance : TFo Go.Proofs.Try.prog 28 4 4 := ⟨by kernel_rfl⟩
instance : TFt Go.Proofs.Try.prog 28 4 3 := ⟨by kernel_rfl⟩
instance : TFo Go.Proofs.Try.prog 28 5 5 := ⟨by kernel_rfl⟩
instance : TFt Go.Proofs.Try.prog 28 5 26 := ⟨by kernel_rfl⟩
instance : TBd Go.Proofs.Try.prog 28 [(.int .i64 0), (.int .i64 0), (.int .i64 0), (.int .i64 0), (.int .i64 0), (.slice none 0 0), (.slice none 0 0), (.slice none 0 0), (.slice none 0 0), (.slice none 0 0)] [(0, 1), (1, 1), (2, 1), (3, 1), (4, 1), (5, 5)] := ⟨by kernel_rfl, by kernel_rfl, rfl⟩
instance : TZc Go.Proofs.Try.prog 28 10 [.d (.s (.int .i64 0)), .d (.s (.int .i64 0)), .d (.s (.int .i64 0)), .d (.s (.int .i64 0)), .d (.s (.int .i64 0)), .d (.s (.slice none 0 0)), .d (.s (.slice none 0 0)), .d (.s (.slice none 0 0)), .d (.s (.slice none 0 0)), .d (.s (.slice none 0 0))] := tzc_of [(.int .i64 0), (.int .i64 0), (.int .i64 0), (.int .i64 0), (.int .i64 0), (.slice none 0 0), (.slice none 0 0), (.slice none 0 0), (.slice none 0 0), (.slice none 0 0)] (by kernel_rfl) rfl rfl rfl
instance : TZs Go.Proofs.Try.prog 30 1 := ⟨by kernel_rfl⟩
instance : TSc Go.Proofs.Try.prog 30 := ⟨by kernel_rfl⟩
instance : TZs Go.Proofs.Try.prog 32 1 := ⟨by kernel_rfl⟩
instance : TSc Go.Proofs.Try.prog 32 := ⟨by kernel_rfl⟩
instance : TZs Go.Proofs.Try.prog 33 1 := ⟨by kernel_rfl⟩
instance : TSc Go.Proofs.Try.prog 33 := ⟨by kernel_rfl⟩
instance : TZs Go.Proofs.Try.prog 34 1 := ⟨by kernel_rfl⟩
instance : TSc Go.Proofs.Try.prog 34 := ⟨by kernel_rfl⟩
instance : TSl Go.Proofs.Try.prog 34 53 2 := ⟨by kernel_rfl⟩
instance : TAp Go.Proofs.Try.prog 34 53 2 16 := tap_of (by kernel_rfl)
instance : TZc Go.Proofs.Try.prog 34 1 [.d (.s (.slice none 0 0))] := tzc_of [(.slice none 0 0)] (by kernel_rfl) rfl rfl rfl
instance : TZs Go.Proofs.Try.prog 36 1 := ⟨by kernel_rfl⟩
instance : TSc Go.Proofs.Try.prog 36 := ⟨by kernel_rfl⟩
instance : TZs Go.Proofs.Try.prog 38 1 := ⟨by kernel_rfl⟩
instance : TSc Go.Proofs.Try.prog 38 := ⟨by kernel_rfl⟩
instance : TZs Go.Proofs.Try.prog 39 1 := ⟨by kernel_rfl⟩
instance : TSc Go.Proofs.Try.prog 39 := ⟨by kernel_rfl⟩
instance : TZs Go.Proofs.Try.prog 40 1 := ⟨by kernel_rfl⟩
instance : TSc Go.Proofs.Try.prog 40 := ⟨by kernel_rfl⟩
instance : TZs Go.Proofs.Try.prog 42 1 := ⟨by kernel_rfl⟩
instance : TSc Go.Proofs.Try.prog 42 := ⟨by kernel_rfl⟩
instance : TZs Go.Proofs.Try.prog 43 1 := ⟨by kernel_rfl⟩
instance : TSc Go.Proofs.Try.prog 43 := ⟨by kernel_rfl⟩
instance : TZs Go.Proofs.Try.prog 44 1 := ⟨by kernel_rfl⟩
instance : TSc Go.Proofs.Try.prog 44 := ⟨by kernel_rfl⟩
instance : TZs Go.Proofs.Try.prog 46 1 := ⟨by kernel_rfl⟩
instance : TSc Go.Proofs.Try.prog 46 := ⟨by kernel_rfl⟩
instance : TZs Go.Proofs.Try.prog 47 1 := ⟨by kernel_rfl⟩
instance : TSc Go.Proofs.Try.prog 47 := ⟨by kernel_rfl⟩
instance : TZs Go.Proofs.Try.prog 48 1 := ⟨by kernel_rfl⟩
instance : TSc Go.Proofs.Try.prog 48 := ⟨by kernel_rfl⟩
instance : TZs Go.Proofs.Try.prog 49 1 := ⟨by kernel_rfl⟩
instance : TSc Go.Proofs.Try.prog 49 := ⟨by kernel_rfl⟩
instance : TZs Go.Proofs.Try.prog 50 1 := ⟨by kernel_rfl⟩
instance : TSc Go.Proofs.Try.prog 50 := ⟨by kernel_rfl⟩
instance : TZs Go.Proofs.Try.prog 51 1 := ⟨by kernel_rfl⟩
instance : TSc Go.Proofs.Try.prog 51 := ⟨by kernel_rfl⟩
instance : TZs Go.Proofs.Try.prog 52 2 := ⟨by kernel_rfl⟩
instance : TRw Go.Proofs.Try.prog 52 2 := ⟨by kernel_rfl⟩
instance : TFo Go.Proofs.Try.prog 52 0 0 := ⟨by kernel_rfl⟩
instance : TFt Go.Proofs.Try.prog 52 0 3 := ⟨by kernel_rfl⟩
instance : TFo Go.Proofs.Try.prog 52 1 1 := ⟨by kernel_rfl⟩
instance : TFt Go.Proofs.Try.prog 52 1 3 := ⟨by kernel_rfl⟩
instance : TBd Go.Proofs.Try.prog 52 [(.int .i64 0), (.int .i64 0)] [(0, 1), (1, 1)] := ⟨by kernel_rfl, by kernel_rfl, rfl⟩
instance : TZc Go.Proofs.Try.prog 52 2 [.d (.s (.int .i64 0)), .d (.s (.int .i64 0))] := tzc_of [(.int .i64 0), (.int .i64 0)] (by kernel_rfl) rfl rfl rfl
instance : TZs Go.Proofs.Try.prog 53 2 := ⟨by kernel_rfl⟩
instance : TRw Go.Proofs.Try.prog 53 2 := ⟨by kernel_rfl⟩
instance : TFo Go.Proofs.Try.prog 53 0 0 := ⟨by kernel_rfl⟩
instance : TFt Go.Proofs.Try.prog 53 0 3 := ⟨by kernel_rfl⟩
instance : TFo Go.Proofs.Try.prog 53 1 1 := ⟨by kernel_rfl⟩
instance : TFt Go.Proofs.Try.prog 53 1 3 := ⟨by kernel_rfl⟩
instance : TBd Go.Proofs.Try.prog 53 [(.int .i64 0), (.int .i64 0)] [(0, 1), (1, 1)] := ⟨by kernel_rfl, by kernel_rfl, rfl⟩
instance : TZc Go.Proofs.Try.prog 53 2 [.d (.s (.int .i64 0)), .d (.s (.int .i64 0))] := tzc_of [(.int .i64 0), (.int .i64 0)] (by kernel_rfl) rfl rfl rfl
instance : TZs Go.Proofs.Try.prog 54 1 := ⟨by kernel_rfl⟩
instance : TSc Go.Proofs.Try.prog 54 := ⟨by kernel_rfl⟩
instance : TZs Go.Proofs.Try.prog 55 1 := ⟨by kernel_rfl⟩
instance : TSc Go.Proofs.Try.prog 55 := ⟨by kernel_rfl⟩
instance : TZs Go.Proofs.Try.prog 56 1 := ⟨by kernel_rfl⟩
instance : TSc Go.Proofs.Try.prog 56 := ⟨by kernel_rfl⟩
instance : TZs Go.Proofs.Try.prog 57 1 := ⟨by kernel_rfl⟩
instance : TSc Go.Proofs.Try.prog 57 := ⟨by kernel_rfl⟩
instance : TZs Go.Proofs.Try.prog 58 1 := ⟨by kernel_rfl⟩
instance : TSc Go.Proofs.Try.prog 58 := ⟨by kernel_rfl⟩
instance : TZs Go.Proofs.Try.prog 59 1 := ⟨by kernel_rfl⟩
instance : TSc Go.Proofs.Try.prog 59 := ⟨by kernel_rfl⟩
instance : TZs Go.Proofs.Try.prog 60 256 := ⟨by kernel_rfl⟩
instance : TRw Go.Proofs.Try.prog 60 256 := ⟨by kernel_rfl⟩
instance : TZs Go.Proofs.Try.prog 61 1 := ⟨by kernel_rfl⟩
instance : TSc Go.Proofs.Try.prog 61 := ⟨by kernel_rfl⟩
instance : TIn Go.Proofs.Try.prog 61 .u64 := ⟨by kernel_rfl⟩
instance : TZc Go.Proofs.Try.prog 61 1 [.d (.s (.int .u64 0))] := tzc_of [(.int .u64 0)] (by kernel_rfl) rfl rfl rfl
instance : TZs Go.Proofs.Try.prog 62 1 := ⟨by kernel_rfl⟩
instance : TSc Go.Proofs.Try.prog 62 := ⟨by kernel_rfl⟩
instance : TZs Go.Proofs.Try.prog 63 1 := ⟨by kernel_rfl⟩
instance : TSc Go.Proofs.Try.prog 63 := ⟨by kernel_rfl⟩
instance : TZs Go.Proofs.Try.prog 64 1 := ⟨by kernel_rfl⟩
instance : TSc Go.Proofs.Try.prog 64 := ⟨by kernel_rfl⟩
instance : TZs Go.Proofs.Try.prog 65 1 := ⟨by kernel_rfl⟩
instance : TSc Go.Proofs.Try.prog 65 := ⟨by kernel_rfl⟩
instance : TZs Go.Proofs.Try.prog 66 1 := ⟨by kernel_rfl⟩
instance : TSc Go.Proofs.Try.prog 66 := ⟨by kernel_rfl⟩
instance : TSl Go.Proofs.Try.prog 66 24 1 := ⟨by kernel_rfl⟩
instance : TAp Go.Proofs.Try.prog 66 24 1 24 := tap_of (by kernel_rfl)
instance : TZc Go.Proofs.Try.prog 66 1 [.d (.s (.slice none 0 0))] := tzc_of [(.slice none 0 0)] (by kernel_rfl) rfl rfl rfl
instance : TZs Go.Proofs.Try.prog 67 1 := ⟨by kernel_rfl⟩
instance : TSc Go.Proofs.Try.prog 67 := ⟨by kernel_rfl⟩
instance : TZs Go.Proofs.Try.prog 68 1 := ⟨by kernel_rfl⟩
instance : TSc Go.Proofs.Try.prog 68 := ⟨by kernel_rfl⟩
instance : TZs Go.Proofs.Try.prog 69 1 := ⟨by kernel_rfl⟩
instance : TSc Go.Proofs.Try.prog 69 := ⟨by kernel_rfl⟩
instance : TZs Go.Proofs.Try.prog 70 1 := ⟨by kernel_rfl⟩
instance : TSc Go.Proofs.Try.prog 70 := ⟨by kernel_rfl⟩
instance : TZs Go.Proofs.Try.prog 76 1 := ⟨by kernel_rfl⟩
instance : TSc Go.Proofs.Try.prog 76 := ⟨by kernel_rfl⟩
instance : TZs Go.Proofs.Try.prog 77 1 := ⟨by kernel_rfl⟩
instance : TSc Go.Proofs.Try.prog 77 := ⟨by kernel_rfl⟩
instance : TIn Go.Proofs.Try.prog 77 .u32 := ⟨by kernel_rfl⟩
instance : TZc Go.Proofs.Try.prog 77 1 [.d (.s (.int .u32 0))] := tzc_of [(.int .u32 0)] (by kernel_rfl) rfl rfl rfl
instance : TZs Go.Proofs.Try.prog 81 1 := ⟨by kernel_rfl⟩
instance : TSc Go.Proofs.Try.prog 81 := ⟨by kernel_rfl⟩
end Go.Proofs.Ytohpbfcechbngaa
