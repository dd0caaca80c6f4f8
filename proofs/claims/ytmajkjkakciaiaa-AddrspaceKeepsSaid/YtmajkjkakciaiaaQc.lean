/- The types of this program's table: size, fields, zero values. -/
/- Literals of structs: parts laid over the cells of a zero value. -/
/- Literals of slices of data. -/
/- More operations that read: bits, comparisons, parts of slices, literals of slices and structs; elements of rows; words that say less. -/
/- Calls that may write: functions that are given blocks of the caller's, function values. -/
/- The walk's rules for calls that may write, function values, frozen variables, other numbers. -/
/- A range over a function. -/
/- Cells told otherwise. -/
/- The walk told once: it goes on as far as the rules decide by themselves; what is left is asked for. -/
import Derived.Test.YtmajkjkakciaiaaQb
import Derived.Great.BuildSlice
set_option linter.unusedSimpArgs false
set_option linter.unusedVariables false
namespace Go.Proofs.Ytmajkjkakciaiaa
open Go.RowKit

def tbd (P : Program) (T : Nat) : Option (List (Nat × Option Nat)) := match P.underlying T with
  | some (.struct fs) => some (fs.toList.map (fun f => (f.offset, (P.info? f.type).map (fun i => i.size))))
  | _ => none
/-- A struct's zero value and its fields' places. -/
class TBd (P : Program) (T : TypeId) (zs : outParam (List Value)) (pl : outParam (List (Nat × Nat))) : Prop where
  z : (P.info? T).bind (fun i => i.zero) = some (.agg zs.toArray)
  p : tbd P T = some (pl.map (fun p => (p.1, some p.2)))
  c : zs.all (·.oneCell') = true
class TBo (P : Program) (T : TypeId) : Prop where
  h : P.underlying T = some .bool
def tap (P : Program) (t e size bytes : Nat) : Bool := match P.underlying t, P.info? e with
  | some (.slice e'), some i => match i.zero with
    | some z => Nat.beq e' e && Nat.beq i.size size && Nat.beq i.bytes bytes && Nat.beq z.cells.size size && Nat.blt 0 size
    | none => false
  | _, _ => false
theorem tap_of {P : Program} {t e size bytes : Nat} (h : tap P t e size bytes = true) : TAp P t e size bytes := by
  unfold tap at h
  split at h
  · rename_i e' i hu hi
    split at h
    · rename_i z hz
      simp only [Bool.and_eq_true, Nat.blt_eq] at h
      obtain ⟨⟨⟨⟨h1, h2⟩, h3⟩, h4⟩, h5⟩ := h
      exact ⟨i, z, by rw [hu, Nat.eq_of_beq_eq_true h1], hi, hz, Nat.eq_of_beq_eq_true h2, Nat.eq_of_beq_eq_true h3, Nat.eq_of_beq_eq_true h4, h5⟩
    · cases h
  · cases h
theorem tzc_of {P : Program} {T n : Nat} {zs : List AV} (vs : List Value) (h : (P.info? T).bind (fun i => i.zero.map (fun z => (i.size, z.cells))) = some (n, vs.toArray)) (hl : vs.length = n) (hc : vs.all (·.oneCell') = true) (hz : zs = vs.map (fun v => .d (.s v))) : TZc P T n zs := by
  cases hi : P.info? T with
  | none => rw [hi] at h; cases h
  | some i =>
    cases hz0 : i.zero with
    | none => rw [hi] at h; simp [hz0] at h
    | some z =>
      rw [hi] at h
      simp only [Option.bind_some, hz0, Option.map_some, Option.some.injEq, Prod.mk.injEq] at h
      exact ⟨i, z, vs, hi, hz0, h.2, h.1, hl, hc, hz⟩
instance : TZs Go.Proofs.Try.prog 1 1 := ⟨by kernel_rfl⟩
instance : TSc Go.Proofs.Try.prog 1 := ⟨by kernel_rfl⟩
instance : TZs Go.Proofs.Try.prog 2 1 := ⟨by kernel_rfl⟩
instance : TSc Go.Proofs.Try.prog 2 := ⟨by kernel_rfl⟩
instance : TIn Go.Proofs.Try.prog 2 .i64 := ⟨by kernel_rfl⟩
instance : TZc Go.Proofs.Try.prog 2 1 [.d (.s (.int .i64 0))] := tzc_of [(.int .i64 0)] (by kernel_rfl) rfl rfl rfl
instance : TZs Go.Proofs.Try.prog 3 1 := ⟨by kernel_rfl⟩
instance : TSc Go.Proofs.Try.prog 3 := ⟨by kernel_rfl⟩
instance : TIn Go.Proofs.Try.prog 3 .i64 := ⟨by kernel_rfl⟩
instance : TZc Go.Proofs.Try.prog 3 1 [.d (.s (.int .i64 0))] := tzc_of [(.int .i64 0)] (by kernel_rfl) rfl rfl rfl
instance : TZs Go.Proofs.Try.prog 4 1 := ⟨by kernel_rfl⟩
instance : TSc Go.Proofs.Try.prog 4 := ⟨by kernel_rfl⟩
instance : TBo Go.Proofs.Try.prog 4 := ⟨by kernel_rfl⟩
instance : TZc Go.Proofs.Try.prog 4 1 [.d (.s (.bool false))] := tzc_of [(.bool false)] (by kernel_rfl) rfl rfl rfl
instance : TZs Go.Proofs.Try.prog 5 1 := ⟨by kernel_rfl⟩
instance : TSc Go.Proofs.Try.prog 5 := ⟨by kernel_rfl⟩
instance : TIn Go.Proofs.Try.prog 5 .u8 := ⟨by kernel_rfl⟩
instance : TZc Go.Proofs.Try.prog 5 1 [.d (.s (.int .u8 0))] := tzc_of [(.int .u8 0)] (by kernel_rfl) rfl rfl rfl
instance : TZs Go.Proofs.Try.prog 9 1 := ⟨by kernel_rfl⟩
instance : TSc Go.Proofs.Try.prog 9 := ⟨by kernel_rfl⟩
instance : TZs Go.Proofs.Try.prog 12 1 := ⟨by kernel_rfl⟩
instance : TSc Go.Proofs.Try.prog 12 := ⟨by kernel_rfl⟩
instance : TIn Go.Proofs.Try.prog 12 .u64 := ⟨by kernel_rfl⟩
instance : TZc Go.Proofs.Try.prog 12 1 [.d (.s (.int .u64 0))] := tzc_of [(.int .u64 0)] (by kernel_rfl) rfl rfl rfl
instance : TZs Go.Proofs.Try.prog 13 2 := ⟨by kernel_rfl⟩
instance : TRw Go.Proofs.Try.prog 13 2 := ⟨by kernel_rfl⟩
instance : TFo Go.Proofs.Try.prog 13 0 0 := ⟨by kernel_rfl⟩
instance : TFt Go.Proofs.Try.prog 13 0 9 := ⟨by kernel_rfl⟩
instance : TFo Go.Proofs.Try.prog 13 1 1 := ⟨by kernel_rfl⟩
instance : TFt Go.Proofs.Try.prog 13 1 12 := ⟨by kernel_rfl⟩
instance : TZs Go.Proofs.Try.prog 21 1 := ⟨by kernel_rfl⟩
instance : TSc Go.Proofs.Try.prog 21 := ⟨by kernel_rfl⟩
instance : TIn Go.Proofs.Try.prog 21 .i32 := ⟨by kernel_rfl⟩
instance : TZc Go.Proofs.Try.prog 21 1 [.d (.s (.int .i32 0))] := tzc_of [(.int .i32 0)] (by kernel_rfl) rfl rfl rfl
instance : TZs Go.Proofs.Try.prog 22 6 := ⟨by kernel_rfl⟩
instance : TRw Go.Proofs.Try.prog 22 6 := ⟨by kernel_rfl⟩
instance : TFo Go.Proofs.Try.prog 22 0 0 := ⟨by kernel_rfl⟩
instance : TFt Go.Proofs.Try.prog 22 0 3 := ⟨by kernel_rfl⟩
instance : TFo Go.Proofs.Try.prog 22 1 1 := ⟨by kernel_rfl⟩
instance : TFt Go.Proofs.Try.prog 22 1 3 := ⟨by kernel_rfl⟩
instance : TFo Go.Proofs.Try.prog 22 2 2 := ⟨by kernel_rfl⟩
instance : TFt Go.Proofs.Try.prog 22 2 3 := ⟨by kernel_rfl⟩
instance : TFo Go.Proofs.Try.prog 22 3 3 := ⟨by kernel_rfl⟩
instance : TFt Go.Proofs.Try.prog 22 3 3 := ⟨by kernel_rfl⟩
instance : TFo Go.Proofs.Try.prog 22 4 4 := ⟨by kernel_rfl⟩
instance : TFt Go.Proofs.Try.prog 22 4 3 := ⟨by kernel_rfl⟩
instance : TFo Go.Proofs.Try.prog 22 5 5 := ⟨by kernel_rfl⟩
instance : TFt Go.Proofs.Try.prog 22 5 3 := ⟨by kernel_rfl⟩
instance : TBd Go.Proofs.Try.prog 22 [(.int .i64 0), (.int .i64 0), (.int .i64 0), (.int .i64 0), (.int .i64 0), (.int .i64 0)] [(0, 1), (1, 1), (2, 1), (3, 1), (4, 1), (5, 1)] := ⟨by kernel_rfl, by kernel_rfl, rfl⟩
instance : TZc Go.Proofs.Try.prog 22 6 [.d (.s (.int .i64 0)), .d (.s (.int .i64 0)), .d (.s (.int .i64 0)), .d (.s (.int .i64 0)), .d (.s (.int .i64 0)), .d (.s (.int .i64 0))] := tzc_of [(.int .i64 0), (.int .i64 0), (.int .i64 0), (.int .i64 0), (.int .i64 0), (.int .i64 0)] (by kernel_rfl) rfl rfl rfl
instance : TZs Go.Proofs.Try.prog 23 6 := ⟨by kernel_rfl⟩
instance : TRw Go.Proofs.Try.prog 23 6 := ⟨by kernel_rfl⟩
instance : TFo Go.Proofs.Try.prog 23 0 0 := ⟨by kernel_rfl⟩
instance : TFt Go.Proofs.Try.prog 23 0 3 := ⟨by kernel_rfl⟩
instance : TFo Go.Proofs.Try.prog 23 1 1 := ⟨by kernel_rfl⟩
instance : TFt Go.Proofs.Try.prog 23 1 3 := ⟨by kernel_rfl⟩
instance : TFo Go.Proofs.Try.prog 23 2 2 := ⟨by kernel_rfl⟩
instance : TFt Go.Proofs.Try.prog 23 2 3 := ⟨by kernel_rfl⟩
instance : TFo Go.Proofs.Try.prog 23 3 3 := ⟨by kernel_rfl⟩
instance : TFt Go.Proofs.Try.prog 23 3 3 := ⟨by kernel_rfl⟩
instance : TFo Go.Proofs.Try.prog 23 4 4 := ⟨by kernel_rfl⟩
instance : TFt Go.Proofs.Try.prog 23 4 3 := ⟨by kernel_rfl⟩
instance : TFo Go.Proofs.Try.prog 23 5 5 := ⟨by kernel_rfl⟩
instance : TFt Go.Proofs.Try.prog 23 5 3 := ⟨by kernel_rfl⟩
instance : TBd Go.Proofs.Try.prog 23 [(.int .i64 0), (.int .i64 0), (.int .i64 0), (.int .i64 0), (.int .i64 0), (.int .i64 0)] [(0, 1), (1, 1), (2, 1), (3, 1), (4, 1), (5, 1)] := ⟨by kernel_rfl, by kernel_rfl, rfl⟩
instance : TZc Go.Proofs.Try.prog 23 6 [.d (.s (.int .i64 0)), .d (.s (.int .i64 0)), .d (.s (.int .i64 0)), .d (.s (.int .i64 0)), .d (.s (.int .i64 0)), .d (.s (.int .i64 0))] := tzc_of [(.int .i64 0), (.int .i64 0), (.int .i64 0), (.int .i64 0), (.int .i64 0), (.int .i64 0)] (by kernel_rfl) rfl rfl rfl
instance : TZs Go.Proofs.Try.prog 24 1 := ⟨by kernel_rfl⟩
instance : TSc Go.Proofs.Try.prog 24 := ⟨by kernel_rfl⟩
instance : TSl Go.Proofs.Try.prog 24 26 11 := ⟨by kernel_rfl⟩
instance : TAp Go.Proofs.Try.prog 24 26 11 104 := tap_of (by kernel_rfl)
instance : TZc Go.Proofs.Try.prog 24 1 [.d (.s (.slice none 0 0))] := tzc_of [(.slice none 0 0)] (by kernel_rfl) rfl rfl rfl
instance : TZs Go.Proofs.Try.prog 25 11 := ⟨by kernel_rfl⟩
instance : TRw Go.Proofs.Try.prog 25 11 := ⟨by kernel_rfl⟩
instance : TFo Go.Proofs.Try.prog 25 0 0 := ⟨by kernel_rfl⟩
instance : TFt Go.Proofs.Try.prog 25 0 3 := ⟨by kernel_rfl⟩
instance : TFo Go.Proofs.Try.prog 25 1 1 := ⟨by kernel_rfl⟩
instance : TFt Go.Proofs.Try.prog 25 1 3 := ⟨by kernel_rfl⟩
instance : TFo Go.Proofs.Try.prog 25 2 2 := ⟨by kernel_rfl⟩
instance : TFt Go.Proofs.Try.prog 25 2 3 := ⟨by kernel_rfl⟩
instance : TFo Go.Proofs.Try.prog 25 3 3 := ⟨by kernel_rfl⟩
instance : TFt Go.Proofs.Try.prog 25 3 3 := ⟨by kernel_rfl⟩
instance : TFo Go.Proofs.Try.prog 25 4 4 := ⟨by kernel_rfl⟩
instance : TFt Go.Proofs.Try.prog 25 4 23 := ⟨by kernel_rfl⟩
instance : TFo Go.Proofs.Try.prog 25 5 10 := ⟨by kernel_rfl⟩
instance : TFt Go.Proofs.Try.prog 25 5 24 := ⟨by kernel_rfl⟩
instance : TBd Go.Proofs.Try.prog 25 [(.int .i64 0), (.int .i64 0), (.int .i64 0), (.int .i64 0), (.int .i64 0), (.int .i64 0), (.int .i64 0), (.int .i64 0), (.int .i64 0), (.int .i64 0), (.slice none 0 0)] [(0, 1), (1, 1), (2, 1), (3, 1), (4, 6), (10, 1)] := ⟨by kernel_rfl, by kernel_rfl, rfl⟩
instance : TZc Go.Proofs.Try.prog 25 11 [.d (.s (.int .i64 0)), .d (.s (.int .i64 0)), .d (.s (.int .i64 0)), .d (.s (.int .i64 0)), .d (.s (.int .i64 0)), .d (.s (.int .i64 0)), .d (.s (.int .i64 0)), .d (.s (.int .i64 0)), .d (.s (.int .i64 0)), .d (.s (.int .i64 0)), .d (.s (.slice none 0 0))] := tzc_of [(.int .i64 0), (.int .i64 0), (.int .i64 0), (.int .i64 0), (.int .i64 0), (.int .i64 0), (.int .i64 0), (.int .i64 0), (.int .i64 0), (.int .i64 0), (.slice none 0 0)] (by kernel_rfl) rfl rfl rfl
instance : TZs Go.Proofs.Try.prog 26 11 := ⟨by kernel_rfl⟩
instance : TRw Go.Proofs.Try.prog 26 11 := ⟨by kernel_rfl⟩
instance : TFo Go.Proofs.Try.prog 26 0 0 := ⟨by kernel_rfl⟩
instance : TFt Go.Proofs.Try.prog 26 0 3 := ⟨by kernel_rfl⟩
instance : TFo Go.Proofs.Try.prog 26 1 1 := ⟨by kernel_rfl⟩
instance : TFt Go.Proofs.Try.prog 26 1 3 := ⟨by kernel_rfl⟩
instance : TFo Go.Proofs.Try.prog 26 2 2 := ⟨by kernel_rfl⟩
instance : TFt Go.Proofs.Try.prog 26 2 3 := ⟨by kernel_rfl⟩
instance : TFo Go.Proofs.Try.prog 26 3 3 := ⟨by kernel_rfl⟩
instance : TFt Go.Proofs.Try.prog 26 3 3 := ⟨by kernel_rfl⟩
instance : TFo Go.Proofs.Try.prog 26 4 4 := ⟨by kernel_rfl⟩
instance : TFt Go.Proofs.Try.prog 26 4 23 := ⟨by kernel_rfl⟩
instance : TFo Go.Proofs.Try.prog 26 5 10 := ⟨by kernel_rfl⟩
instance : TFt Go.Proofs.Try.prog 26 5 24 := ⟨by kernel_rfl⟩
instance : TBd Go.Proofs.Try.prog 26 [(.int .i64 0), (.int .i64 0), (.int .i64 0), (.int .i64 0), (.int .i64 0), (.int .i64 0), (.int .i64 0), (.int .i64 0), (.int .i64 0), (.int .i64 0), (.slice none 0 0)] [(0, 1), (1, 1), (2, 1), (3, 1), (4, 6), (10, 1)] := ⟨by kernel_rfl, by kernel_rfl, rfl⟩
instance : TZc Go.Proofs.Try.prog 26 11 [.d (.s (.int .i64 0)), .d (.s (.int .i64 0)), .d (.s (.int .i64 0)), .d (.s (.int .i64 0)), .d (.s (.int .i64 0)), .d (.s (.int .i64 0)), .d (.s (.int .i64 0)), .d (.s (.int .i64 0)), .d (.s (.int .i64 0)), .d (.s (.int .i64 0)), .d (.s (.slice none 0 0))] := tzc_of [(.int .i64 0), (.int .i64 0), (.int .i64 0), (.int .i64 0), (.int .i64 0), (.int .i64 0), (.int .i64 0), (.int .i64 0), (.int .i64 0), (.int .i64 0), (.slice none 0 0)] (by kernel_rfl) rfl rfl rfl
instance : TZs Go.Proofs.Try.prog 27 10 := ⟨by kernel_rfl⟩
instance : TRw Go.Proofs.Try.prog 27 10 := ⟨by kernel_rfl⟩
instance : TFo Go.Proofs.Try.prog 27 0 0 := ⟨by kernel_rfl⟩
instance : TFt Go.Proofs.Try.prog 27 0 3 := ⟨by kernel_rfl⟩
instance : TFo Go.Proofs.Try.prog 27 1 1 := ⟨by kernel_rfl⟩
instance : TFt Go.Proofs.Try.prog 27 1 23 := ⟨by kernel_rfl⟩
instance : TFo Go.Proofs.Try.prog 27 2 7 := ⟨by kernel_rfl⟩
instance : TFt Go.Proofs.Try.prog 27 2 3 := ⟨by kernel_rfl⟩
instance : TFo Go.Proofs.Try.prog 27 3 8 := ⟨by kernel_rfl⟩
instance : TFt Go.Proofs.Try.prog 27 3 3 := ⟨by kernel_rfl⟩
instance : TFo Go.Proofs.Try.prog 27 4 9 := ⟨by kernel_rfl⟩
instance : TFt Go.Proofs.Try.prog 27 4 3 := ⟨by kernel_rfl⟩
instance : TBd Go.Proofs.Try.prog 27 [(.int .i64 0), (.int .i64 0), (.int .i64 0), (.int .i64 0), (.int .i64 0), (.int .i64 0), (.int .i64 0), (.int .i64 0), (.int .i64 0), (.int .i64 0)] [(0, 1), (1, 6), (7, 1), (8, 1), (9, 1)] := ⟨by kernel_rfl, by kernel_rfl, rfl⟩
instance : TZc Go.Proofs.Try.prog 27 10 [.d (.s (.int .i64 0)), .d (.s (.int .i64 0)), .d (.s (.int .i64 0)), .d (.s (.int .i64 0)), .d (.s (.int .i64 0)), .d (.s (.int .i64 0)), .d (.s (.int .i64 0)), .d (.s (.int .i64 0)), .d (.s (.int .i64 0)), .d (.s (.int .i64 0))] := tzc_of [(.int .i64 0), (.int .i64 0), (.int .i64 0), (.int .i64 0), (.int .i64 0), (.int .i64 0), (.int .i64 0), (.int .i64 0), (.int .i64 0), (.int .i64 0)] (by kernel_rfl) rfl rfl rfl
instance : TZs Go.Proofs.Try.prog 28 10 := ⟨by kernel_rfl⟩
instance : TRw Go.Proofs.Try.prog 28 10 := ⟨by kernel_rfl⟩
instance : TFo Go.Proofs.Try.prog 28 0 0 := ⟨by kernel_rfl⟩
instance : TFt Go.Proofs.Try.prog 28 0 3 := ⟨by kernel_rfl⟩
instance : TFo Go.Proofs.Try.prog 28 1 1 := ⟨by kernel_rfl⟩
instance : TFt Go.Proofs.Try.prog 28 1 23 := ⟨by kernel_rfl⟩
instance : TFo Go.Proofs.Try.prog 28 2 7 := ⟨by kernel_rfl⟩
instance : TFt Go.Proofs.Try.prog 28 2 3 := ⟨by kernel_rfl⟩
instance : TFo Go.Proofs.Try.prog 28 3 8 := ⟨by kernel_rfl⟩
instance : TFt Go.Proofs.Try.prog 28 3 3 := ⟨by kernel_rfl⟩
instance : TFo Go.Proofs.Try.prog 28 4 9 := ⟨by kernel_rfl⟩
instance : TFt Go.Proofs.Try.prog 28 4 3 := ⟨by kernel_rfl⟩
instance : TBd Go.Proofs.Try.prog 28 [(.int .i64 0), (.int .i64 0), (.int .i64 0), (.int .i64 0), (.int .i64 0), (.int .i64 0), (.int .i64 0), (.int .i64 0), (.int .i64 0), (.int .i64 0)] [(0, 1), (1, 6), (7, 1), (8, 1), (9, 1)] := ⟨by kernel_rfl, by kernel_rfl, rfl⟩
instance : TZc Go.Proofs.Try.prog 28 10 [.d (.s (.int .i64 0)), .d (.s (.int .i64 0)), .d (.s (.int .i64 0)), .d (.s (.int .i64 0)), .d (.s (.int .i64 0)), .d (.s (.int .i64 0)), .d (.s (.int .i64 0)), .d (.s (.int .i64 0)), .d (.s (.int .i64 0)), .d (.s (.int .i64 0))] := tzc_of [(.int .i64 0), (.int .i64 0), (.int .i64 0), (.int .i64 0), (.int .i64 0), (.int .i64 0), (.int .i64 0), (.int .i64 0), (.int .i64 0), (.int .i64 0)] (by kernel_rfl) rfl rfl rfl
instance : TZs Go.Proofs.Try.prog 29 1 := ⟨by kernel_rfl⟩
instance : TSc Go.Proofs.Try.prog 29 := ⟨by kernel_rfl⟩
instance : TZs Go.Proofs.Try.prog 30 1 := ⟨by kernel_rfl⟩
instance : TSc Go.Proofs.Try.prog 30 := ⟨by kernel_rfl⟩
instance : TZs Go.Proofs.Try.prog 31 1 := ⟨by kernel_rfl⟩
instance : TSc Go.Proofs.Try.prog 31 := ⟨by kernel_rfl⟩
instance : TSl Go.Proofs.Try.prog 31 23 6 := ⟨by kernel_rfl⟩
instance : TAp Go.Proofs.Try.prog 31 23 6 48 := tap_of (by kernel_rfl)
instance : TZc Go.Proofs.Try.prog 31 1 [.d (.s (.slice none 0 0))] := tzc_of [(.slice none 0 0)] (by kernel_rfl) rfl rfl rfl
instance : TZs Go.Proofs.Try.prog 32 1 := ⟨by kernel_rfl⟩
instance : TSc Go.Proofs.Try.prog 32 := ⟨by kernel_rfl⟩
instance : TZs Go.Proofs.Try.prog 34 1 := ⟨by kernel_rfl⟩
instance : TSc Go.Proofs.Try.prog 34 := ⟨by kernel_rfl⟩
instance : TZs Go.Proofs.Try.prog 35 1 := ⟨by kernel_rfl⟩
instance : TSc Go.Proofs.Try.prog 35 := ⟨by kernel_rfl⟩
instance : TZs Go.Proofs.Try.prog 36 1 := ⟨by kernel_rfl⟩
instance : TSc Go.Proofs.Try.prog 36 := ⟨by kernel_rfl⟩
instance : TZs Go.Proofs.Try.prog 37 1 := ⟨by kernel_rfl⟩
instance : TSc Go.Proofs.Try.prog 37 := ⟨by kernel_rfl⟩
instance : TZs Go.Proofs.Try.prog 38 1 := ⟨by kernel_rfl⟩
instance : TSc Go.Proofs.Try.prog 38 := ⟨by kernel_rfl⟩
instance : TZs Go.Proofs.Try.prog 39 1 := ⟨by kernel_rfl⟩
instance : TSc Go.Proofs.Try.prog 39 := ⟨by kernel_rfl⟩
instance : TZs Go.Proofs.Try.prog 40 1 := ⟨by kernel_rfl⟩
instance : TSc Go.Proofs.Try.prog 40 := ⟨by kernel_rfl⟩
instance : TZs Go.Proofs.Try.prog 41 1 := ⟨by kernel_rfl⟩
instance : TSc Go.Proofs.Try.prog 41 := ⟨by kernel_rfl⟩
instance : TZs Go.Proofs.Try.prog 42 1 := ⟨by kernel_rfl⟩
instance : TSc Go.Proofs.Try.prog 42 := ⟨by kernel_rfl⟩
instance : TZs Go.Proofs.Try.prog 43 1 := ⟨by kernel_rfl⟩
instance : TSc Go.Proofs.Try.prog 43 := ⟨by kernel_rfl⟩
instance : TZs Go.Proofs.Try.prog 44 1 := ⟨by kernel_rfl⟩
instance : TSc Go.Proofs.Try.prog 44 := ⟨by kernel_rfl⟩
instance : TZs Go.Proofs.Try.prog 45 1 := ⟨by kernel_rfl⟩
instance : TSc Go.Proofs.Try.prog 45 := ⟨by kernel_rfl⟩
instance : TZs Go.Proofs.Try.prog 46 1 := ⟨by kernel_rfl⟩
instance : TSc Go.Proofs.Try.prog 46 := ⟨by kernel_rfl⟩
instance : TZs Go.Proofs.Try.prog 47 1 := ⟨by kernel_rfl⟩
instance : TSc Go.Proofs.Try.prog 47 := ⟨by kernel_rfl⟩
instance : TZs Go.Proofs.Try.prog 48 1 := ⟨by kernel_rfl⟩
instance : TSc Go.Proofs.Try.prog 48 := ⟨by kernel_rfl⟩
instance : TZs Go.Proofs.Try.prog 49 1 := ⟨by kernel_rfl⟩
instance : TSc Go.Proofs.Try.prog 49 := ⟨by kernel_rfl⟩
instance : TZs Go.Proofs.Try.prog 50 1 := ⟨by kernel_rfl⟩
instance : TSc Go.Proofs.Try.prog 50 := ⟨by kernel_rfl⟩
instance : TZs Go.Proofs.Try.prog 51 1 := ⟨by kernel_rfl⟩
instance : TSc Go.Proofs.Try.prog 51 := ⟨by kernel_rfl⟩
instance : TZs Go.Proofs.Try.prog 52 1 := ⟨by kernel_rfl⟩
instance : TSc Go.Proofs.Try.prog 52 := ⟨by kernel_rfl⟩
instance : TZs Go.Proofs.Try.prog 53 1 := ⟨by kernel_rfl⟩
instance : TSc Go.Proofs.Try.prog 53 := ⟨by kernel_rfl⟩
instance : TZs Go.Proofs.Try.prog 54 1 := ⟨by kernel_rfl⟩
instance : TSc Go.Proofs.Try.prog 54 := ⟨by kernel_rfl⟩
instance : TZs Go.Proofs.Try.prog 55 1 := ⟨by kernel_rfl⟩
instance : TSc Go.Proofs.Try.prog 55 := ⟨by kernel_rfl⟩
instance : TZs Go.Proofs.Try.prog 56 1 := ⟨by kernel_rfl⟩
instance : TSc Go.Proofs.Try.prog 56 := ⟨by kernel_rfl⟩
instance : TZs Go.Proofs.Try.prog 57 1 := ⟨by kernel_rfl⟩
instance : TSc Go.Proofs.Try.prog 57 := ⟨by kernel_rfl⟩
instance : TZs Go.Proofs.Try.prog 58 1 := ⟨by kernel_rfl⟩
instance : TSc Go.Proofs.Try.prog 58 := ⟨by kernel_rfl⟩
instance : TZs Go.Proofs.Try.prog 59 1 := ⟨by kernel_rfl⟩
instance : TSc Go.Proofs.Try.prog 59 := ⟨by kernel_rfl⟩
instance : TZs Go.Proofs.Try.prog 60 1 := ⟨by kernel_rfl⟩
instance : TSc Go.Proofs.Try.prog 60 := ⟨by kernel_rfl⟩
instance : TZs Go.Proofs.Try.prog 61 1 := ⟨by kernel_rfl⟩
instance : TSc Go.Proofs.Try.prog 61 := ⟨by kernel_rfl⟩
instance : TZs Go.Proofs.Try.prog 63 1 := ⟨by kernel_rfl⟩
instance : TSc Go.Proofs.Try.prog 63 := ⟨by kernel_rfl⟩
instance : TZs Go.Proofs.Try.prog 65 1 := ⟨by kernel_rfl⟩
instance : TSc Go.Proofs.Try.prog 65 := ⟨by kernel_rfl⟩
instance : TZs Go.Proofs.Try.prog 66 1 := ⟨by kernel_rfl⟩
instance : TSc Go.Proofs.Try.prog 66 := ⟨by kernel_rfl⟩
instance : TZs Go.Proofs.Try.prog 67 1 := ⟨by kernel_rfl⟩
instance : TSc Go.Proofs.Try.prog 67 := ⟨by kernel_rfl⟩
instance : TZs Go.Proofs.Try.prog 68 1 := ⟨by kernel_rfl⟩
instance : TSc Go.Proofs.Try.prog 68 := ⟨by kernel_rfl⟩
instance : TZs Go.Proofs.Try.prog 69 1 := ⟨by kernel_rfl⟩
instance : TSc Go.Proofs.Try.prog 69 := ⟨by kernel_rfl⟩
instance : TZs Go.Proofs.Try.prog 70 1 := ⟨by kernel_rfl⟩
instance : TSc Go.Proofs.Try.prog 70 := ⟨by kernel_rfl⟩
instance : TZs Go.Proofs.Try.prog 71 1 := ⟨by kernel_rfl⟩
instance : TSc Go.Proofs.Try.prog 71 := ⟨by kernel_rfl⟩
instance : TZs Go.Proofs.Try.prog 72 1 := ⟨by kernel_rfl⟩
instance : TSc Go.Proofs.Try.prog 72 := ⟨by kernel_rfl⟩
instance : TZs Go.Proofs.Try.prog 74 1 := ⟨by kernel_rfl⟩
instance : TSc Go.Proofs.Try.prog 74 := ⟨by kernel_rfl⟩
instance : TZs Go.Proofs.Try.prog 75 1 := ⟨by kernel_rfl⟩
instance : TSc Go.Proofs.Try.prog 75 := ⟨by kernel_rfl⟩
instance : TZs Go.Proofs.Try.prog 76 1 := ⟨by kernel_rfl⟩
instance : TSc Go.Proofs.Try.prog 76 := ⟨by kernel_rfl⟩
instance : TZs Go.Proofs.Try.prog 77 1 := ⟨by kernel_rfl⟩
instance : TSc Go.Proofs.Try.prog 77 := ⟨by kernel_rfl⟩
instance : TZs Go.Proofs.Try.prog 78 1 := ⟨by kernel_rfl⟩
instance : TSc Go.Proofs.Try.prog 78 := ⟨by kernel_rfl⟩
instance : TZs Go.Proofs.Try.prog 80 1 := ⟨by kernel_rfl⟩
instance : TSc Go.Proofs.Try.prog 80 := ⟨by kernel_rfl⟩
instance : TZs Go.Proofs.Try.prog 81 1 := ⟨by kernel_rfl⟩
instance : TSc Go.Proofs.Try.prog 81 := ⟨by kernel_rfl⟩
instance : TZs Go.Proofs.Try.prog 83 1 := ⟨by kernel_rfl⟩
instance : TSc Go.Proofs.Try.prog 83 := ⟨by kernel_rfl⟩
instance : TZs Go.Proofs.Try.prog 84 1 := ⟨by kernel_rfl⟩
instance : TSc Go.Proofs.Try.prog 84 := ⟨by kernel_rfl⟩
instance : TZs Go.Proofs.Try.prog 85 1 := ⟨by kernel_rfl⟩
instance : TSc Go.Proofs.Try.prog 85 := ⟨by kernel_rfl⟩
instance : TZs Go.Proofs.Try.prog 91 1 := ⟨by kernel_rfl⟩
instance : TSc Go.Proofs.Try.prog 91 := ⟨by kernel_rfl⟩
instance : TZs Go.Proofs.Try.prog 92 1 := ⟨by kernel_rfl⟩
instance : TSc Go.Proofs.Try.prog 92 := ⟨by kernel_rfl⟩
instance : TIn Go.Proofs.Try.prog 92 .u32 := ⟨by kernel_rfl⟩
instance : TZc Go.Proofs.Try.prog 92 1 [.d (.s (.int .u32 0))] := tzc_of [(.int .u32 0)] (by kernel_rfl) rfl rfl rfl
instance : TZs Go.Proofs.Try.prog 96 1 := ⟨by kernel_rfl⟩
instance : TSc Go.Proofs.Try.prog 96 := ⟨by kernel_rfl⟩
end Go.Proofs.Ytmajkjkakciaiaa

set_option linter.unusedSimpArgs false
set_option linter.unusedVariables false
namespace Go.Proofs.Ytmajkjkakciaiaa
open Go.RowKit

/-! ### Literals of structs -/
def spl {α : Type} : Nat → List α → List α → List α
  | 0, [], cs => cs
  | 0, u :: us, _ :: cs => u :: spl 0 us cs
  | 0, _ :: _, [] => []
  | n + 1, us, c :: cs => c :: spl n us cs
  | _ + 1, _, [] => []
def bldC {α : Type} (pl : List (Nat × Nat)) : List α → List (Nat × List α) → Option (List α)
  | cs, [] => some cs
  | cs, (i, us) :: rest => match pl[i]? with
    | some (off, size) => if us.length = size ∧ off + us.length ≤ cs.length then bldC pl (spl off us cs) rest else none
    | none => none
theorem spl_len {α : Type} : ∀ (n : Nat) (us cs : List α), (spl n us cs).length = cs.length
  | 0, [], cs => by cases cs <;> rfl
  | 0, u :: us, c :: cs => by simp only [spl, List.length_cons, spl_len 0 us cs]
  | 0, _ :: _, [] => rfl
  | n + 1, us, c :: cs => by simp only [spl, List.length_cons, spl_len n us cs]
  | _ + 1, _, [] => rfl
theorem spl_set {α : Type} : ∀ (n : Nat) (u : α) (us cs : List α), n < cs.length → spl n (u :: us) cs = spl (n + 1) us (cs.set n u)
  | 0, u, us, c :: cs, _ => rfl
  | n + 1, u, us, c :: cs, h => by
    simp only [spl, List.set_cons_succ]
    rw [spl_set n u us cs (by simpa using h)]
  | _, _, _, [], h => by simp at h
theorem spl_nil {α : Type} : ∀ (n : Nat) (cs : List α), spl n [] cs = cs
  | 0, cs => by cases cs <;> rfl
  | n + 1, c :: cs => by simp only [spl, spl_nil n cs]
  | _ + 1, [] => rfl
theorem fold_spl : ∀ (us : List Value) (k off : Nat) (cs : Array Value), off + k + us.length ≤ cs.size → ((us.zipIdx k).foldl (fun cs p => cs.setIfInBounds (off + p.2) p.1) cs).toList = spl (off + k) us cs.toList
  | [], k, off, cs, _ => by simp [spl_nil]
  | u :: us, k, off, cs, h => by
    simp only [List.zipIdx_cons, List.foldl_cons]
    simp only [List.length_cons] at h
    rw [fold_spl us (k + 1) off _ (by simp; omega), Array.toList_setIfInBounds, spl_set _ _ _ _ (by simp; omega)]
    rfl
theorem fill_eq (pl : List (Nat × Nat)) : ∀ (parts : List (Nat × Value)) (cs : Array Value), Instr.fill (fun x => pl[x]?) cs parts = (bldC pl cs.toList (parts.map (fun p => (p.1, p.2.cells.toList)))).map List.toArray
  | [], cs => by simp [Instr.fill, bldC]
  | (i, v) :: rest, cs => by
    simp only [Instr.fill, bldC, List.map_cons, List.getElem?_toArray]
    cases pl[i]? with
    | none => rfl
    | some p =>
      obtain ⟨off, size⟩ := p
      simp only [Array.length_toList]
      by_cases h : v.cells.size = size ∧ off + v.cells.size ≤ cs.size
      · rw [if_pos h, if_neg (by simp; omega)]
        rw [fill_eq pl rest]
        have e : (Array.foldl (fun cs x => cs.setIfInBounds (off + x.2) x.1) cs v.cells.zipIdx).toList = spl off v.cells.toList cs.toList := by
          rw [← Array.foldl_toList, Array.toList_zipIdx]
          have := fold_spl v.cells.toList 0 off cs (by simpa using h.2)
          simpa using this
        rw [← e]
      · rw [if_neg h, if_pos (by simp; omega)]
        rfl
section
variable {E : Env} {dm own : Nat → Prop} {W : World}
theorem RAL.spl : ∀ (n : Nat) {us cs : List AV} {vs zs : List Value}, RAL E dm own W vs us → RAL E dm own W zs cs → RAL E dm own W (Proofs.Ytmajkjkakciaiaa.spl n vs zs) (Proofs.Ytmajkjkakciaiaa.spl n us cs)
  | 0, _, _, _, _, .nil, h => by rw [spl_nil, spl_nil]; exact h
  | 0, _, _, _, _, .cons _ _, .nil => .nil
  | 0, _, _, _, _, .cons h t, .cons _ t' => .cons h (RAL.spl 0 t t')
  | n + 1, [], _, _, _, .nil, .nil => .nil
  | n + 1, _ :: _, _, _, _, .cons _ _, .nil => .nil
  | n + 1, _, _, _, _, h, .cons h' t' => .cons h' (RAL.spl n h t')
/-- Parts, value by value. -/
inductive PaL (E : Env) (dm own : Nat → Prop) (W : World) : List (Nat × Value) → List (Nat × List AV) → Prop
  | nil : PaL E dm own W [] []
  | cons {i : Nat} {v : Value} {us : List AV} {ps : List (Nat × Value)} {qs : List (Nat × List AV)} (h : RAL E dm own W v.cells.toList us) (t : PaL E dm own W ps qs) : PaL E dm own W ((i, v) :: ps) ((i, us) :: qs)
theorem PaL.bld {pl : List (Nat × Nat)} : ∀ {ps : List (Nat × Value)} {qs : List (Nat × List AV)} {zs : List Value} {cs cs' : List AV}, PaL E dm own W ps qs → RAL E dm own W zs cs → bldC pl cs qs = some cs' → ∃ zs', bldC pl zs (ps.map (fun p => (p.1, p.2.cells.toList))) = some zs' ∧ RAL E dm own W zs' cs'
  | [], _, zs, cs, cs', .nil, h, e => by
    simp only [bldC, Option.some.injEq] at e
    subst e
    exact ⟨zs, rfl, h⟩
  | (i, v) :: ps, _, zs, cs, cs', .cons (us := us) hv t, h, e => by
    simp only [bldC, List.map_cons] at e ⊢
    cases hp : pl[i]? with
    | none => rw [hp] at e; cases e
    | some p =>
      obtain ⟨off, size⟩ := p
      rw [hp] at e
      dsimp only at e ⊢
      have h1 := hv.len
      have h2 := h.len
      split at e
      · rename_i hc
        rw [if_pos (by rw [h1, h2]; exact hc)]
        exact PaL.bld t (RAL.spl off hv h) e
      · cases e
end
section
variable {P : Program} {a : Act} {W : World} {X : Cx} {al : List (Nat × AV)} {bs : Bs} {T : TypeId}
theorem run_places {fs : List Field} {g : Field → Nat} (hg : ∀ f ∈ fs, (P.info? f.type).map (fun i => i.size) = some (g f)) : (fs.mapM (fun f => (do pure (f.offset, ← sizeOf f.type) : Sem (Nat × Nat)))).run P W = .ok (fs.map (fun f => (f.offset, g f))) W := by
  induction fs with
  | nil => simp
  | cons f fs ih =>
    have h1 := hg f (List.mem_cons_self ..)
    cases hi : P.info? f.type with
    | none => rw [hi] at h1; cases h1
    | some inf =>
      rw [hi] at h1
      simp only [Option.map_some, Option.some.injEq] at h1
      have hs : (do pure (f.offset, ← sizeOf f.type) : Sem (Nat × Nat)).run P W = .ok (f.offset, g f) W := by
        simp [sizeOf, typeInfo, hi, h1]
      have ih' := ih (fun f' hf => hg f' (List.mem_cons_of_mem _ hf))
      rw [List.mapM_cons, Sem.run_bind, hs]
      simp only [Result.andThen]
      rw [Sem.run_bind, ih']
      simp
/-- The parts' operands. -/
inductive EvP (al : List (Nat × AV)) : List (Nat × Operand) → List (Nat × List AV) → Prop
  | nil : EvP al [] []
  | cons {i : Nat} {x : Operand} {u : AV} {us : List AV} {xs : List (Nat × Operand)} {qs : List (Nat × List AV)} (h : Evd al x u) (hu : u.cells = us) (hc : us.all AV.cell = true) (t : EvP al xs qs) : EvP al ((i, x) :: xs) ((i, us) :: qs)
theorem EvP.cs {i : Nat} {x : Operand} {ds : List D} {xs : List (Nat × Operand)} {qs : List (Nat × List AV)} (h : Evd al x (.d (.st ds))) (hc : ds.all D.cell = true) (t : EvP al xs qs) : EvP al ((i, x) :: xs) ((i, ds.map .d) :: qs) := .cons h rfl (by rw [List.all_map]; exact hc) t
theorem EvP.cA {i : Nat} {x : Operand} {cs : List AV} {xs : List (Nat × Operand)} {qs : List (Nat × List AV)} (h : Evd al x (.st cs)) (hc : cs.all AV.cell = true) (t : EvP al xs qs) : EvP al ((i, x) :: xs) ((i, cs) :: qs) := .cons h rfl hc t
theorem EvP.one {i : Nat} {x : Operand} {u : AV} {xs : List (Nat × Operand)} {qs : List (Nat × List AV)} (h : Evd al x u) (h1 : u.cells = [u]) (hc : u.cell = true) (t : EvP al xs qs) : EvP al ((i, x) :: xs) ((i, [u]) :: qs) := .cons h h1 (by rw [List.all_cons, List.all_nil, Bool.and_true]; exact hc) t
theorem EvP.pal {E : Env} (h : HdE P X al bs E a W) : ∀ {xs : List (Nat × Operand)} {qs : List (Nat × List AV)}, EvP al xs qs → PaL E (dom bs) (ownS E X.o bs) W (xs.map (fun p => (p.1, a.eval p.2))) qs
  | [], _, .nil => .nil
  | (i, x) :: xs, _, .cons hx hu hc t => .cons (by subst hu; exact ((h.evd hx).cellsOf hc).1) (EvP.pal h t)
theorem EvP.loc {op : Op} {al2 : List (Nat × AV)} (hL : Loc op al al2) : ∀ {xs : List (Nat × Operand)} {qs : List (Nat × List AV)}, (∀ p ∈ xs, p.2 ∈ op.operands.toList) → EvP al xs qs → EvP al2 xs qs
  | [], _, _, .nil => .nil
  | (i, x) :: xs, _, hm, .cons h hu hc t => .cons (hL.evd h (hm (i, x) (List.mem_cons_self ..))) hu hc (EvP.loc hL (fun p hp => hm p (List.mem_cons_of_mem _ hp)) t)
theorem Rd.bldA {zs : List Value} {pl : List (Nat × Nat)} {parts : List (Nat × Operand)} {qs : List (Nat × List AV)} {cs : List AV} [hT : TBd P T zs pl] (hp : EvP al parts qs) (hb : bldC pl (zs.map (fun v => AV.d (.s v))) qs = some cs) : Rd P X al bs [] (.build T parts.toArray) (.st cs) := fun al2 bs2 hl hB E a W h => by
  have hpa := (EvP.loc hl (fun p hp => by simp [Op.operands]; exact ⟨_, hp⟩) hp).pal h
  obtain ⟨zs', h1, h2⟩ := hpa.bld (RAL.zeros hT.c) hb
  refine ⟨_, .st h2, ?_⟩
  intro op ho
  have hz := hT.z
  cases hi : P.info? T with
  | none => rw [hi] at hz; cases hz
  | some inf =>
    rw [hi] at hz
    simp only [Option.bind_some] at hz
    have hpl := hT.p
    unfold tbd at hpl
    split at hpl
    · rename_i fs hu
      simp only [Option.some.injEq] at hpl
      have hlen : fs.toList.length = pl.length := by
        have := congrArg List.length hpl
        simpa using this
      have hrun : (fs.mapM (fun f => (do pure (f.offset, ← sizeOf f.type) : Sem (Nat × Nat)))).run P W = .ok pl.toArray W := by
        rw [Array.mapM_eq_mapM_toList]
        have hg : ∀ f ∈ fs.toList, (P.info? f.type).map (fun i => i.size) = some (((P.info? f.type).map (fun i => i.size)).getD 0) := by
          intro f hf
          have : (f.offset, (P.info? f.type).map (fun i => i.size)) ∈ fs.toList.map (fun f => (f.offset, (P.info? f.type).map (fun i => i.size))) := List.mem_map_of_mem hf
          rw [hpl] at this
          obtain ⟨p, _, hp⟩ := List.mem_map.1 this
          have := congrArg Prod.snd hp
          dsimp only at this
          rw [← this]
          rfl
        have e : fs.toList.map (fun f => (f.offset, ((P.info? f.type).map (fun i => i.size)).getD 0)) = pl := by
          have := congrArg (List.map (fun p : Nat × Option Nat => (p.1, p.2.getD 0))) hpl
          simpa [Function.comp_def] using this
        have := run_places (P := P) (W := W) hg
        rw [e] at this
        rw [Sem.run_map, this]
        rfl
      unfold execOp
      have hparts : (List.map (fun (p : Nat × Operand) => (p.1, a.eval p.2)) parts) = List.map (fun p => (p.1, a.eval p.2)) parts := rfl
      simp only [bind_pure_comp] at hrun
      simp only [ho, Instr.build, zeroValue, typeInfo, Sem.run_bind]
      simp only [List.map_map, Function.comp_def] at h1
      have hc : (Value.agg zs.toArray).cells = zs.toArray := rfl
      simp [hi, hz, run_underlying hu, hrun, hc, fill_eq, h1, Function.comp_def]
    · cases hpl
/-- A literal of a struct of data. -/
theorem Rd.bld {zs : List Value} {pl : List (Nat × Nat)} {parts : List (Nat × Operand)} {qs : List (Nat × List AV)} {cs : List AV} {ds : List D} [hT : TBd P T zs pl] (hp : EvP al parts qs) (hb : bldC pl (zs.map (fun v => AV.d (.s v))) qs = some cs) (hd : Pl cs ds) : Rd P X al bs [] (.build T parts.toArray) (.d (.st ds)) := fun al2 bs2 hl hB E a W h => by
  obtain ⟨v, h1, h2⟩ := Rd.bldA (hT := hT) hp hb al2 bs2 hl hB E a W h
  refine ⟨v, ?_, h2⟩
  cases h1 with
  | st h1 =>
    rw [hd.h] at h1
    exact .d (.st h1.unmap)
end


end Go.Proofs.Ytmajkjkakciaiaa

set_option linter.unusedSimpArgs false
set_option linter.unusedVariables false
namespace Go.Proofs.Ytmajkjkakciaiaa
open Go.RowKit

section
variable {P : Program} {a : Act} {W : World} {X : Cx} {al : List (Nat × AV)} {bs : Bs} {d : Nat}
/-- The parts' operands, row by row. -/
inductive EvR (al : List (Nat × AV)) : List (Nat × Operand) → List (List D) → Prop
  | nil : EvR al [] []
  | cons {i : Nat} {x : Operand} {u : AV} {us : List AV} {ds : List D} {xs : List (Nat × Operand)} {rows : List (List D)} (h : Evd al x u) (hu : u.cells = us) (hc : us.all AV.cell = true) (hp : Pl us ds) (t : EvR al xs rows) : EvR al ((i, x) :: xs) (ds :: rows)
theorem EvR.cs {i : Nat} {x : Operand} {ds : List D} {xs : List (Nat × Operand)} {rows : List (List D)} (h : Evd al x (.d (.st ds))) (hc : ds.all D.cell = true) (t : EvR al xs rows) : EvR al ((i, x) :: xs) (ds :: rows) := .cons h rfl (by show (ds.map AV.d).all AV.cell = true; rw [List.all_map]; exact hc) ⟨rfl⟩ t
theorem EvR.c1 {i : Nat} {x : Operand} {v : D} {xs : List (Nat × Operand)} {rows : List (List D)} (h : Evd al x (.d v)) (h1 : (AV.d v).cells = [.d v]) (hc : v.cell = true) (t : EvR al xs rows) : EvR al ((i, x) :: xs) ([v] :: rows) := .cons h h1 (by rw [List.all_cons, List.all_nil, Bool.and_true]; exact hc) ⟨rfl⟩ t
theorem EvR.loc {op : Op} {al2 : List (Nat × AV)} (hL : Loc op al al2) : ∀ {xs : List (Nat × Operand)} {rows : List (List D)}, (∀ p ∈ xs, p.2 ∈ op.operands.toList) → EvR al xs rows → EvR al2 xs rows
  | [], _, _, .nil => .nil
  | (i, x) :: xs, _, hm, .cons h hu hc hp t => .cons (hL.evd h (hm (i, x) (List.mem_cons_self ..))) hu hc hp (EvR.loc hL (fun p hp => hm p (List.mem_cons_of_mem _ hp)) t)
theorem EvR.rl {E : Env} (h : HdE P X al bs E a W) : ∀ {xs : List (Nat × Operand)} {rows : List (List D)}, EvR al xs rows → RL (ownS E X.o bs) W ((xs.map (fun p => a.eval p.2)).flatMap (fun v => v.cells.toList)) rows.flatten
  | [], _, .nil => .nil
  | (i, x) :: xs, _, .cons hx hu hc hp t => by
    subst hu
    have h1 := ((h.evd hx).cellsOf hc).1
    rw [hp.h] at h1
    exact h1.unmap.app (EvR.rl h t)
theorem EvR.sz {E : Env} {m : Nat} (h : HdE P X al bs E a W) : ∀ {xs : List (Nat × Operand)} {rows : List (List D)}, EvR al xs rows → (∀ r ∈ rows, r.length = m) → ∀ v ∈ xs.map (fun p => a.eval p.2), v.cells.size = m
  | [], _, .nil, _, v, hv => by simp at hv
  | (i, x) :: xs, _, .cons hx hu hc hp t, hm, v, hv => by
    subst hu
    rcases List.mem_cons.1 hv with rfl | hv
    · have h1 := ((h.evd hx).cellsOf hc).1
      have h2 := h1.len
      rw [hp.h, List.length_map, hm _ (List.mem_cons_self ..)] at h2
      simpa using h2
    · exact EvR.sz h t (fun r hr => hm r (List.mem_cons_of_mem _ hr)) v hv
theorem EvR.len : ∀ {xs : List (Nat × Operand)} {rows : List (List D)}, EvR al xs rows → xs.length = rows.length
  | [], _, .nil => rfl
  | _ :: _, _, .cons _ _ _ _ t => by simp only [List.length_cons]; rw [EvR.len t]
theorem parts_zip {α : Type} : ∀ (l : List (Nat × α)) (s : Nat), l.map (·.1) = List.range' s l.length → l = ((l.map (·.2)).zipIdx s).map fun x => (x.2, x.1)
  | [], s, _ => rfl
  | (i, x) :: l, s, h => by
    simp only [List.map_cons, List.length_cons, List.range'_succ, List.cons.injEq] at h
    obtain ⟨h1, h2⟩ := h
    simp only [List.map_cons, List.zipIdx_cons, h1]
    rw [← parts_zip l (s + 1) h2]
/-- A literal that nobody will change: data. -/
theorem LT.bsD {t e size bytes n : Nat} {parts : List (Nat × Operand)} {rows : List (List D)} [hT : TAp P t e size bytes] (hp : EvR al parts rows) (hm : ∀ r ∈ rows, r.length = size) (hi : parts.map (·.1) = List.range' 0 parts.length := by rfl) (hn : parts.length = n := by rfl) (h0 : Nat.blt 0 n = true := by rfl) (hb : Nat.ble (n * size) 10000 = true := by rfl) (hd : Nat.blt d X.N = true := by rfl) :
    LT P X al bs (.buildSlice t n parts.toArray) (some d) [] [(d, .d (.l rows))] [] := fun ro al2 bs2 hL hB E a W hh o ho hdst K Q hK => by
  obtain ⟨i0, z, hu, hie, hz, hsz, hbs, hzs, hpos⟩ := hT.h
  have hp2 := EvR.loc hL (fun p hp => by simp [Op.operands]; exact ⟨_, hp⟩) hp
  have hlen := hp2.len
  have hrl := hp2.rl hh
  have hsz2 := hp2.sz hh hm
  simp only [Nat.ble_eq] at hb
  have h0' : 0 < n := by simpa using h0
  have hns : 0 < n * size := Nat.mul_pos h0' hpos
  generalize hvs : parts.map (fun p => a.eval p.2) = vs at hrl hsz2
  have hvl : vs.length = n := by rw [← hvs, List.length_map, hn]
  generalize hfl : vs.flatMap (fun v => v.cells.toList) = flat at hrl
  have hflen : flat.length = n * size := by rw [hrl.len, flat_len rows hm, ← hlen, hn]
  have hpz : parts.map (fun p => (p.1, a.eval p.2)) = (vs.zipIdx 0).map fun x => (x.2, x.1) := by
    have := parts_zip (parts.map (fun p => (p.1, a.eval p.2))) 0 (by simpa [Function.comp_def] using hi)
    rw [this, List.map_map, ← hvs]
    rfl
  have hfill := Great.fill_whole hpos vs ((Array.range (n * i0.size)).map (z.cells[· % z.cells.size]!)) hsz2 (by rw [hvl, hsz]; simp)
  rw [hfl] at hfill
  have hrun := run_buildSlice (P := P) W t e n (parts.toArray.map fun (i, x) => (i, a.eval x)) flat.toArray i0 z hu hie hz (by rw [hsz]; omega) (by rw [hsz]; omega) (by rw [hsz] at hfill ⊢; simpa [hpz] using hfill)
  have hx := ext_alloc W (.cells flat.toArray e)
  have hh' := hh.grow hx
  refine WO.of (by rw [ho]; intro c h; cases h) ?_
  unfold execOp
  simp only [ho, Sem.run_bind, hrun, Result.andThen_ok, Sem.run_pure]
  dsimp only [Oper.uponIn]
  rw [hdst]
  refine hK _ _ _ (hh'.put (.d ?_) (by simpa using hd))
  have kk : Keeps (ownS E X.o bs2) (ownS E X.o bs2) W (W.alloc (.cells flat.toArray e)) := .of (fun r hr _ => hx.below.block r hr) hx.below.size (fun _ _ h => h)
  refine .l (m := size) (fun i => (flat.drop (i * size)).take size) (by rw [← hlen, hn]) (Nat.le_refl _) ?_ (by simp) (fun h => ?_) (fun i row hi => hm row (List.mem_of_getElem? hi)) ?_ ?_
  · unfold maxLen
    have : n * 1 ≤ n * size := Nat.mul_le_mul_left _ hpos
    omega
  · have := hh.own_lt h
    omega
  · intro i row hi j u hu
    have hj : j < size := by
      have := (List.getElem?_eq_some_iff.1 hu).1
      simp only [List.length_take, List.length_drop] at this
      omega
    rw [List.getElem?_take_of_lt hj, List.getElem?_drop] at hu
    rw [World.cell?_alloc_at _ _ _ _ rfl, Nat.zero_add]
    simpa using hu
  · intro i row hi
    have := (hrl.drop (i * size)).take size
    rw [flat_at rows i row hm hi] at this
    exact this.keeps kk
/-- append to nil: a row of one's own. -/
theorem LT.ap0 {t e size bytes k : Nat} {x y : Operand} {rows : List (List D)} [hT : TAp P t e size bytes] 
    (hk : bs.length = k := by simp only [List.length_cons, List.length_nil, Nat.reduceAdd]; rfl) (hf : lk bs k = none := by rfl) (hf1 : lk bs (k + 1) = none := by rfl) (hx : ev al x = some (.d (.s (.slice none 0 0))) := by rfl) (hy : ev al y = some (.d (.l rows)) := by rfl) (hm : rows.all (fun r => Nat.beq r.length size) = true := by rfl) (hc : rows.flatten.all D.cell = true := by rfl) (h63 : Nat.ble rows.length 100000 = true := by rfl) (hby : Nat.ble bytes 1000000 = true := by rfl) (hd : Nat.blt d X.N = true := by rfl) :
    LT P X al bs (.call { callee := .builtin .append, args := #[x, y], argTypes := #[t, t] }) (some d) [k, k + 1] [(d, .o (k + 1) rows.length)] [(k + 1, some (e, rows.flatten.map .d)), (k, none), (k, some (e, []))] := fun ro al2 bs2 hL hB E a W hh o ho hdst K Q hK => by
  simp only [Nat.ble_eq] at hby h63
  have hf2 : lk bs2 k = none := (hB k (by simp)).trans hf
  have hf3 : lk bs2 (k + 1) = none := (hB (k + 1) (by simp)).trans hf1
  have hh1 := hh.nilRow k e hf2
  have hv := hh.ev (hL.ev hx (by simp [Op.operands, Call.operands]))
  have hv := hv.scalar
  have hy1 := hh1.ev (hL.ev hy (by simp [Op.operands, Call.operands]))
  have hm' : ∀ r ∈ rows, r.length = size := fun r hr => by
    have := (List.all_eq_true.1 hm) r hr
    exact Nat.eq_of_beq_eq_true this
  obtain ⟨v', W', E', hrun, g1, g2⟩ := hh1.append (n := 0) (v := .slice none 0 0) (ty := o.type) (k + 1) (by rw [lk_ne _ _ (by omega)]; exact hf3) hT (lk_self _ _ _) (.o ⟨_, lk_self _ _ _⟩ (by rw [Env.set_V])) hy1 hm' hc (by unfold maxLen; omega) (by
    have := Nat.mul_le_mul h63 hby
    rw [Nat.zero_add]
    omega)
  simp only [Nat.zero_add, List.nil_append] at g1 g2
  refine WO.of (by rw [ho]; intro c h; cases h) ?_
  unfold execOp
  have : (do let dd ← resolve a.eval { callee := .builtin .append, args := #[x, y], argTypes := #[t, t] } o.type; invoke dd.target dd.args : Sem Next).run P W = .ok (.value v') W' := by
    simp [resolve, invoke, builtin, hrun, hv]
  simp only [ho]
  rw [this]
  dsimp only [Oper.uponIn]
  rw [hdst]
  exact hK _ _ _ (g1.put g2 (by simpa using hd))
/-- append of rows that are written out. -/
theorem LT.apB {t e size bytes n b k : Nat} {x y : Operand} {rows0 rows : List (List D)} [hT : TAp P t e size bytes] 
    (hk : bs.length = k := by simp only [List.length_cons, List.length_nil, Nat.reduceAdd]; rfl) (hf : lk bs k = none := by rfl) (hx : ev al x = some (.o b n) := by rfl) (hy : ev al y = some (.d (.l rows)) := by rfl) (hb : lk bs b = some (some (e, rows0.flatten.map .d)) := by rfl) (hm : rows.all (fun r => Nat.beq r.length size) = true := by rfl) (hc : rows.flatten.all D.cell = true := by rfl) (hby : Nat.ble bytes 1000000 = true := by rfl) (h63 : n + rows.length ≤ 100000 := by first | (simp only [List.length_cons, List.length_nil]; omega) | omega) (hd : Nat.blt d X.N = true := by rfl) :
    LT P X al bs (.call { callee := .builtin .append, args := #[x, y], argTypes := #[t, t] }) (some d) [b, k] [(d, .o k (n + rows.length))] [(k, some (e, (rows0 ++ rows).flatten.map .d)), (b, none)] :=
  LT.ap (fun r hr => Nat.eq_of_beq_eq_true ((List.all_eq_true.1 hm) r hr)) hc h63 hby hk hf hx hy hb hd
theorem G.frzB {c : Act → World → Prop} {b k m : Nat} {T : TypeId} {rows : List (List D)} (n : Nat) (h : G P X ((n, .d (.l rows)) :: al) ((b, none) :: bs) c) (hx : lk al n = some (.o b k) := by rfl) (hb : lk bs b = some (some (T, rows.flatten.map .d)) := by rfl) (hT : TZs P T m := by infer_instance) (hm : rows.all (fun r => Nat.beq r.length m) = true := by rfl) (hk : k = rows.length := by rfl) : G P X al bs c :=
  G.frz (hT := hT) n h (fun r hr => Nat.eq_of_beq_eq_true ((List.all_eq_true.1 hm) r hr)) hk hx hb
section
variable {ro : Option Nat} {ops : Array Oper} {Q : Exit → Act → World → Prop} {rest l : List Oper} {ty id : Nat} {ps : String} {af : Array Edge} {op : Op} {rb : List Nat} {s : Nat × AV} {e e' e'' : Nat × Option (TypeId × List AV)} {al0 : List (Nat × AV)} {bs0 : Bs} {sts : List Stp} {dst : Option Nat}
theorem G.w4 (h : G P X (s :: al) (e :: e' :: e'' :: bs) (WL P ro ops Q rest)) (lt : LT P X al bs op dst rb [s] [e, e', e'']) : G P X al bs (WL P ro ops Q ({ dst := dst, op := op, type := ty, pos := ps, after := af, guard := none } :: rest)) := G.w lt h
theorem GD.w4 (h : GD P X l Q id al0 bs0 (sts ++ [⟨opT op, [s.1], rb, [e.1, e'.1, e''.1]⟩]) (s :: al) (e :: e' :: e'' :: bs) rest) (lt : LT P X al bs op dst rb [s] [e, e', e'']) : GD P X l Q id al0 bs0 sts al bs ({ dst := dst, op := op, type := ty, pos := ps, after := af, guard := none } :: rest) := GD.go (sl := [s]) (bl := [e, e', e'']) (fun ho => LT.lop lt rfl ho) h
end
end

end Go.Proofs.Ytmajkjkakciaiaa

set_option linter.unusedSimpArgs false
set_option linter.unusedVariables false
namespace Go.Proofs.Ytmajkjkakciaiaa
open Go.RowKit

instance {α β : Type} {f : α → β} {a : α} {b : β} {l : List α} : LSet (List.map f (a :: l)) 0 b (b :: List.map f l) := ⟨rfl⟩
instance {α β : Type} {f : α → β} {a : α} {b : β} {l : List α} {l' : List β} {n : Nat} [i : LSet (List.map f l) n b l'] : LSet (List.map f (a :: l)) (n + 1) b (f a :: l') := ⟨by rw [List.map_cons, List.set_cons_succ, i.h]⟩
section
variable {P : Program} {a : Act} {W : World}
section
variable {T T' : TypeId} {x y : Operand} {k : IntKind} {m n : Int} (hx : a.eval x = .int k m) (hy : a.eval y = .int k n)
include hx hy
theorem yl_and : Yld P a W (.binOp .and T x y T') (.int k (bits .and k m n)) := by
  intro op ho; unfold execOp; simp [ho, hx, hy, eqGuard, binOp, Op.intBits, bits]
theorem yl_or : Yld P a W (.binOp .or T x y T') (.int k (bits .or k m n)) := by
  intro op ho; unfold execOp; simp [ho, hx, hy, eqGuard, binOp, Op.intBits, bits]
theorem yl_xor : Yld P a W (.binOp .xor T x y T') (.int k (bits .xor k m n)) := by
  intro op ho; unfold execOp; simp [ho, hx, hy, eqGuard, binOp, Op.intBits, bits]
theorem yl_andNot : Yld P a W (.binOp .andNot T x y T') (.int k (bits .andNot k m n)) := by
  intro op ho; unfold execOp; simp [ho, hx, hy, eqGuard, binOp, Op.intBits, bits]
end
theorem yl_eqlB {T T' : TypeId} {x y : Operand} {p q : Bool} [hT : TBo P T] (hx : a.eval x = .bool p) (hy : a.eval y = .bool q) : Yld P a W (.binOp .eql T x y T') (.bool (p == q)) := by
  intro op ho; unfold execOp; simp [ho, hx, hy, eqGuard, run_eql_bool (P := P) W T p q hT.h]
theorem yl_neqB {T T' : TypeId} {x y : Operand} {p q : Bool} [hT : TBo P T] (hx : a.eval x = .bool p) (hy : a.eval y = .bool q) : Yld P a W (.binOp .neq T x y T') (.bool (!(p == q))) := by
  intro op ho; unfold execOp; simp [ho, hx, hy, eqGuard, binOp, run_equal_bool (P := P) W T p q hT.h]
theorem yl_max {ats : Array TypeId} {x y : Operand} {m n : Int} (hx : a.eval x = .int .i64 m) (hy : a.eval y = .int .i64 n) : Yld P a W (.call { callee := .builtin .max, args := #[x, y], argTypes := ats }) (.int .i64 (max m n)) := by
  intro op ho
  unfold execOp
  simp only [ho, resolve, invoke, builtin, Builtin.max_, Sem.run_bind, Sem.run_pure, Result.andThen_ok, List.map_toArray, List.map_cons, List.map_nil, hx, hy]
  simp [Builtin.max2]
  omega
theorem yl_min {ats : Array TypeId} {x y : Operand} {m n : Int} (hx : a.eval x = .int .i64 m) (hy : a.eval y = .int .i64 n) : Yld P a W (.call { callee := .builtin .min, args := #[x, y], argTypes := ats }) (.int .i64 (min m n)) := by
  intro op ho
  unfold execOp
  simp only [ho, resolve, invoke, builtin, Builtin.min_, Sem.run_bind, Sem.run_pure, Result.andThen_ok, List.map_toArray, List.map_cons, List.map_nil, hx, hy]
  simp [Builtin.min2]
  omega

variable {X : Cx} {al : List (Nat × AV)} {bs : Bs} {E : Env}
section
variable {T T' : TypeId} {x y c : Operand} {k : IntKind} {m n : Int} {b off : Nat} {u : AV}
section
variable (hx : Evd al x (.d (.s (.int k m))) := by exact ⟨_, rfl, by (try (apply Und.gd; assumption; try (apply Und.gd; assumption; try (apply Und.gd; assumption)))); exact Und.refl _⟩) (hy : Evd al y (.d (.s (.int k n))) := by exact ⟨_, rfl, by (try (apply Und.gd; assumption; try (apply Und.gd; assumption; try (apply Und.gd; assumption)))); exact Und.refl _⟩)
include hx hy
theorem Rd.and : Rd P X al bs [] (.binOp .and T x y T') (.d (.s (.int k (bits .and k m n)))) := fun al2 bs2 hl hB E a W h => ⟨_, .d (.s rfl), yl_and (h.evs (hl.evd hx (by simp [Op.operands]))) (h.evs (hl.evd hy (by simp [Op.operands])))⟩
theorem Rd.or : Rd P X al bs [] (.binOp .or T x y T') (.d (.s (.int k (bits .or k m n)))) := fun al2 bs2 hl hB E a W h => ⟨_, .d (.s rfl), yl_or (h.evs (hl.evd hx (by simp [Op.operands]))) (h.evs (hl.evd hy (by simp [Op.operands])))⟩
theorem Rd.xor : Rd P X al bs [] (.binOp .xor T x y T') (.d (.s (.int k (bits .xor k m n)))) := fun al2 bs2 hl hB E a W h => ⟨_, .d (.s rfl), yl_xor (h.evs (hl.evd hx (by simp [Op.operands]))) (h.evs (hl.evd hy (by simp [Op.operands])))⟩
theorem Rd.andNot : Rd P X al bs [] (.binOp .andNot T x y T') (.d (.s (.int k (bits .andNot k m n)))) := fun al2 bs2 hl hB E a W h => ⟨_, .d (.s rfl), yl_andNot (h.evs (hl.evd hx (by simp [Op.operands]))) (h.evs (hl.evd hy (by simp [Op.operands])))⟩
end
section
variable {p q : Bool} (hx : Evd al x (.d (.s (.bool p))) := by exact ⟨_, rfl, by (try (apply Und.gd; assumption; try (apply Und.gd; assumption; try (apply Und.gd; assumption)))); exact Und.refl _⟩) (hy : Evd al y (.d (.s (.bool q))) := by exact ⟨_, rfl, by (try (apply Und.gd; assumption; try (apply Und.gd; assumption; try (apply Und.gd; assumption)))); exact Und.refl _⟩)
include hx hy
theorem Rd.eqlB [hT : TBo P T] : Rd P X al bs [] (.binOp .eql T x y T') (.d (.s (.bool (p == q)))) := fun al2 bs2 hl hB E a W h => ⟨_, .d (.s rfl), yl_eqlB (h.evs (hl.evd hx (by simp [Op.operands]))) (h.evs (hl.evd hy (by simp [Op.operands])))⟩
theorem Rd.neqB [hT : TBo P T] : Rd P X al bs [] (.binOp .neq T x y T') (.d (.s (.bool (!(p == q))))) := fun al2 bs2 hl hB E a W h => ⟨_, .d (.s rfl), yl_neqB (h.evs (hl.evd hx (by simp [Op.operands]))) (h.evs (hl.evd hy (by simp [Op.operands])))⟩
end
theorem Rd.max {ats : Array TypeId} (hx : Evd al x (.d (.s (.int .i64 m))) := by exact ⟨_, rfl, by (try (apply Und.gd; assumption; try (apply Und.gd; assumption; try (apply Und.gd; assumption)))); exact Und.refl _⟩) (hy : Evd al y (.d (.s (.int .i64 n))) := by exact ⟨_, rfl, by (try (apply Und.gd; assumption; try (apply Und.gd; assumption; try (apply Und.gd; assumption)))); exact Und.refl _⟩) : Rd P X al bs [] (.call { callee := .builtin .max, args := #[x, y], argTypes := ats }) (.d (.s (.int .i64 (Max.max m n)))) := fun al2 bs2 hl hB E a W h => ⟨_, .d (.s rfl), yl_max (h.evs (hl.evd hx (by simp [Op.operands, Call.operands]))) (h.evs (hl.evd hy (by simp [Op.operands, Call.operands])))⟩
theorem Rd.min {ats : Array TypeId} (hx : Evd al x (.d (.s (.int .i64 m))) := by exact ⟨_, rfl, by (try (apply Und.gd; assumption; try (apply Und.gd; assumption; try (apply Und.gd; assumption)))); exact Und.refl _⟩) (hy : Evd al y (.d (.s (.int .i64 n))) := by exact ⟨_, rfl, by (try (apply Und.gd; assumption; try (apply Und.gd; assumption; try (apply Und.gd; assumption)))); exact Und.refl _⟩) : Rd P X al bs [] (.call { callee := .builtin .min, args := #[x, y], argTypes := ats }) (.d (.s (.int .i64 (Min.min m n)))) := fun al2 bs2 hl hB E a W h => ⟨_, .d (.s rfl), yl_min (h.evs (hl.evd hx (by simp [Op.operands, Call.operands]))) (h.evs (hl.evd hy (by simp [Op.operands, Call.operands])))⟩
/-- Either of two Booleans. -/
theorem Rd.pkB {t p q : Bool} (hc : Evd al c (.d (.s (.bool t))) := by exact ⟨_, rfl, by (try (apply Und.gd; assumption; try (apply Und.gd; assumption; try (apply Und.gd; assumption)))); exact Und.refl _⟩) (hx : Evd al x (.d (.s (.bool p))) := by exact ⟨_, rfl, by (try (apply Und.gd; assumption; try (apply Und.gd; assumption; try (apply Und.gd; assumption)))); exact Und.refl _⟩) (hy : Evd al y (.d (.s (.bool q))) := by exact ⟨_, rfl, by (try (apply Und.gd; assumption; try (apply Und.gd; assumption; try (apply Und.gd; assumption)))); exact Und.refl _⟩) : Rd P X al bs [] (.pick c x y) (.d (.s (.bool (bif t then p else q)))) := fun al2 bs2 hl hB E a W h => by
  have h1 := h.evs (hl.evd hc (by simp [Op.operands]))
  have h2 := h.evs (hl.evd hx (by simp [Op.operands]))
  have h3 := h.evs (hl.evd hy (by simp [Op.operands]))
  have := yl_pick (P := P) (W := W) (x := x) (y := y) h1
  rw [h2, h3] at this
  exact ⟨_, .d (.s (by cases t <;> rfl)), by cases t <;> exact this⟩
/-- An element of a row of one's own. -/
theorem Rd.ldRow {N : Nat} {rows : List (List D)} {row : List D} (j : Nat) [hT : TRw P T N] (hm : ∀ r ∈ rows, r.length = N) (hr : rows[j]? = some row) (hx : Evd al x (.p b (j * N)) := by exact ⟨_, rfl, by (try (apply Und.gd; assumption; try (apply Und.gd; assumption; try (apply Und.gd; assumption)))); exact Und.refl _⟩) (hb : lk bs b = some (some (T', rows.flatten.map .d)) := by rfl) : Rd P X al bs [b] (.load T x) (.d (.st row)) :=
  Rd.ldpP (hx := hx) (hb := hb) (hN := by rw [← List.map_drop, ← List.map_take, flat_at rows j row hm hr]) (hdl := hm row (List.mem_of_getElem? hr))
/-- A cell of such an element. -/
theorem Rd.ldRowC {N : Nat} {rows : List (List D)} {row : List D} {d : D} (j o : Nat) [hT : TSc P T] (hm : ∀ r ∈ rows, r.length = N) (hr : rows[j]? = some row) (hd : row[o]? = some d) (hx : Evd al x (.p b (j * N + o)) := by exact ⟨_, rfl, by (try (apply Und.gd; assumption; try (apply Und.gd; assumption; try (apply Und.gd; assumption)))); exact Und.refl _⟩) (hb : lk bs b = some (some (T', rows.flatten.map .d)) := by rfl) : Rd P X al bs [b] (.load T x) (.d d) :=
  Rd.ldp (hx := hx) (hb := hb) (hc := by
    have h1 := flat_at rows j row hm hr
    have h2 : ((rows.flatten.drop (j * N)).take N)[o]? = some d := by rw [h1]; exact hd
    have ho : o < N := by
      have := (List.getElem?_eq_some_iff.1 hd).1
      rw [hm row (List.mem_of_getElem? hr)] at this
      exact this
    rw [List.getElem?_take_of_lt ho, List.getElem?_drop] at h2
    rw [List.getElem?_map, h2]
    rfl)
end

/-! ### Guards, decided by the facts at hand -/
section
variable {ro : Option Nat} {ops : Array Oper} {Q : Exit → Act → World → Prop} {rest : List Oper} {d ty : Nat} {ps : String} {af : Array Edge} {u : AV} {op : Op} {dst : Option Nat} {rb : List Nat} {s : Nat × AV} {l : List Oper} {dj : Nat} {t want : Bool} {j : Nat}
/-- A guard: both ways. -/
theorem G.gS (h1 : t = want → G P X al bs (WL P ro l.toArray Q ({ dst := some d, op := op, type := ty, pos := ps, after := af, guard := none } :: rest))) (h2 : t = !want → G P X ((d, .any) :: al) bs (WL P ro l.toArray Q rest)) (hj : (l[j]?).bind (·.dst) = some dj := by rfl) (hs : lk al dj = some (.d (.s (.bool t))) := by rfl) (hd : Nat.blt d X.N = true := by rfl) :
    G P X al bs (WL P ro l.toArray Q ({ dst := some d, op := op, type := ty, pos := ps, after := af, guard := some (j, want) } :: rest)) := by
  by_cases h : t = want
  · exact G.gT (h1 h) hs h hj
  · have h' : t = !want := by cases t <;> cases want <;> simp_all
    exact G.gF (h2 h') hs h' hj hd
theorem G.gt (h : G P X al bs (WL P ro l.toArray Q ({ dst := dst, op := op, type := ty, pos := ps, after := af, guard := none } :: rest))) (hj : (l[j]?).bind (·.dst) = some dj := by rfl) (hs : lk al dj = some (.d (.s (.bool t))) := by rfl) (ht : t = want := by first | rfl | assumption | (simp; done) | (simp; omega)) :
    G P X al bs (WL P ro l.toArray Q ({ dst := dst, op := op, type := ty, pos := ps, after := af, guard := some (j, want) } :: rest)) := G.gT h hs ht hj
theorem G.gf (h : G P X ((d, .any) :: al) bs (WL P ro l.toArray Q rest)) (hj : (l[j]?).bind (·.dst) = some dj := by rfl) (hs : lk al dj = some (.d (.s (.bool t))) := by rfl) (ht : t = !want := by first | rfl | assumption | (simp; done) | (simp; omega)) (hd : Nat.blt d X.N = true := by rfl) :
    G P X al bs (WL P ro l.toArray Q ({ dst := some d, op := op, type := ty, pos := ps, after := af, guard := some (j, want) } :: rest)) := G.gF h hs ht hj hd
/-- An operation in a region that draws its order: whether its guard says yes is decided. -/
theorem GD.gf {id : Nat} {al0 : List (Nat × AV)} {bs0 : Bs} {sts : List Stp} (h : GD P X l Q id al0 bs0 (sts ++ [⟨[dj], [d], [], []⟩]) ((d, .any) :: al) bs rest) (hj : (l[j]?).bind (·.dst) = some dj := by rfl) (hs : lk al dj = some (.d (.s (.bool t))) := by rfl) (ht : t = !want := by first | rfl | assumption | (simp; done) | (simp; omega)) (hd : Nat.blt d X.N = true := by rfl) :
    GD P X l Q id al0 bs0 sts al bs ({ dst := some d, op := op, type := ty, pos := ps, after := af, guard := some (j, want) } :: rest) := GD.gF h hs ht hj hd
theorem GD.gt {id : Nat} {al0 : List (Nat × AV)} {bs0 : Bs} {sts : List Stp} (h : GD P X l Q id al0 bs0 (sts ++ [⟨dj :: opT op, [s.1], rb, []⟩]) (s :: al) bs rest) (lt : LT P X al bs op dst rb [s] []) (hj : (l[j]?).bind (·.dst) = some dj := by rfl) (hs : lk al dj = some (.d (.s (.bool t))) := by rfl) (ht : t = want := by first | rfl | assumption | (simp; done) | (simp; omega)) :
    GD P X l Q id al0 bs0 sts al bs ({ dst := dst, op := op, type := ty, pos := ps, after := af, guard := some (j, want) } :: rest) := GD.g1 h lt hs ht hj
/-- A guard in a region that draws its order: both ways. -/
theorem GD.gS {id : Nat} {al0 : List (Nat × AV)} {bs0 : Bs} {sts : List Stp} (h1 : t = want → GD P X l Q id al0 bs0 sts al bs ({ dst := some d, op := op, type := ty, pos := ps, after := af, guard := some (j, want) } :: rest)) (h2 : t = !want → GD P X l Q id al0 bs0 sts al bs ({ dst := some d, op := op, type := ty, pos := ps, after := af, guard := some (j, want) } :: rest)) (hj : (l[j]?).bind (·.dst) = some dj := by rfl) (hs : lk al dj = some (.d (.s (.bool t))) := by rfl) :
    GD P X l Q id al0 bs0 sts al bs ({ dst := some d, op := op, type := ty, pos := ps, after := af, guard := some (j, want) } :: rest) := by
  by_cases h : t = want
  · exact h1 h
  · exact h2 (by cases t <;> cases want <;> simp_all)
end
/-! ### Words that say less -/
/-- Whatever means x means y. -/
def D.le (x y : D) : Prop := ∀ own W v, RD own W v x → RD own W v y
def DL.le (xs ys : List D) : Prop := ∀ own W vs, RL own W vs xs → RL own W vs ys
theorem D.le.refl (x : D) : D.le x x := fun _ _ _ h => h
theorem DL.le.refl (xs : List D) : DL.le xs xs := fun _ _ _ h => h
theorem DL.le.cons {x y : D} {xs ys : List D} (h : D.le x y) (t : DL.le xs ys) : DL.le (x :: xs) (y :: ys) := fun own W vs hr => by
  cases hr with
  | cons h1 t1 => exact .cons (h _ _ _ h1) (t _ _ _ t1)
theorem D.le.st {xs ys : List D} (h : DL.le xs ys) : D.le (.st xs) (.st ys) := fun own W v hr => by
  cases hr with
  | st h1 => exact .st (h _ _ _ h1)
theorem D.le.nil : D.le (.s (.slice none 0 0)) (.l []) := fun own W v h => h.nilL
theorem rvOk.le {r : ResultVar} {x y : D} (h : rvOk P X al bs r x) (hl : D.le x y) : rvOk P X al bs r y := fun E a W hh => let ⟨v, h1, h2⟩ := h E a W hh; ⟨v, h1, hl _ _ _ h2⟩
theorem G.le {c : Act → World → Prop} (n : Nat) {x : D} (y : D) (hl : D.le x y) (h : G P X ((n, .d y) :: al) bs c) (hx : lk al n = some (.d x) := by rfl) : G P X al bs c :=
  G.tell n hx (fun _ _ _ _ _ h => by cases h with | d h => exact .d (hl _ _ _ h)) h
end

/-! ### Parts of slices -/
section
variable {P : Program} {a : Act} {W : World} {X : Cx} {al : List (Nat × AV)} {bs : Bs} {E : Env} {T : TypeId} {x : Operand} {e sz : Nat}
theorem RD.part {own : Nat → Prop} {p : Option Addr} {n c lo hi : Nat} {rows : List (List D)} (m : Nat) (h : RD own W (.slice p n c) (.l rows)) (h1 : lo ≤ hi) (h2 : hi ≤ n) (hm : ∀ r ∈ rows, r.length = m) : RD own W (.slice (if c = lo then p else p.map (·.add (lo * m))) (hi - lo) (c - lo)) (.l ((rows.drop lo).take (hi - lo))) := by
  cases h with
  | nl =>
    obtain rfl : hi = 0 := by omega
    obtain rfl : lo = 0 := by omega
    exact .nl
  | @l r o _ _ m' _ f hn hc hmx hr ho g1 g2 g3 =>
    subst hn
    by_cases he : hi - lo = 0
    · rw [he, List.take_zero]
      exact .nl
    · rw [if_neg (by omega), Option.map_some, Addr.add_mid]
      have hlt : lo < rows.length := by omega
      have hmm : m' = m := by
        have := g1 lo rows[lo] (List.getElem?_eq_getElem hlt)
        rw [← this]
        exact hm _ (List.getElem_mem hlt)
      subst hmm
      have hget : ∀ (i : Nat) (row : List D), ((rows.drop lo).take (hi - lo))[i]? = some row → rows[lo + i]? = some row := by
        intro i row hi'
        have hlt2 : i < hi - lo := by
          have := (List.getElem?_eq_some_iff.1 hi').1
          simp only [List.length_take] at this
          omega
        rw [List.getElem?_take_of_lt hlt2, List.getElem?_drop] at hi'
        exact hi'
      refine .l (m := m') (fun i => f (lo + i)) (by simp; omega) (by omega) (by omega) hr ho (fun i row hi' => g1 _ _ (hget i row hi')) (fun i row hi' => ?_) (fun i row hi' => g3 _ _ (hget i row hi'))
      have := g2 _ _ (hget i row hi')
      rw [Nat.add_mul, ← Nat.add_assoc] at this
      exact this
theorem yl_slice {p : Option Addr} {n c : Nat} {lo hi : Option Operand} {l h : Nat} (hT : TSl P T e sz) (hx : a.eval x = .slice p n c) (hl : (lo = none ∧ l = 0) ∨ ∃ y, lo = some y ∧ a.eval y = .int .i64 l) (hh : (hi = none ∧ h = n) ∨ ∃ y, hi = some y ∧ a.eval y = .int .i64 h) (h1 : l ≤ h) (h2 : h ≤ n) (h3 : n ≤ c) :
    Yld P a W (.slice T x lo hi none) (.slice (if c = l then p else p.map (·.add (l * sz))) (h - l) (c - l)) := by
  intro op ho
  obtain ⟨inf, hu, hi', hs⟩ := hT.get
  unfold execOp
  rcases hl with ⟨rfl, rfl⟩ | ⟨y, rfl, hy⟩ <;> rcases hh with ⟨rfl, rfl⟩ | ⟨z, rfl, hz⟩
  · simp [ho, hx, Instr.sliceAt, run_underlying hu, Instr.slice, Instr.sliceBounds, sizeOf, typeInfo, hi', hs]
  · simp [ho, hx, hz, Instr.sliceAt, run_underlying hu, Instr.slice, Instr.sliceBounds, Instr.sliceBound, asIntOf, sizeOf, typeInfo, hi', hs]
    intro hq; omega
  · simp [ho, hx, hy, Instr.sliceAt, run_underlying hu, Instr.slice, Instr.sliceBounds, Instr.sliceBound, asIntOf, sizeOf, typeInfo, hi', hs]
    intro hq; omega
  · simp [ho, hx, hy, hz, show h ≤ c by omega, h1, Instr.sliceAt, run_underlying hu, Instr.slice, Instr.sliceBounds, Instr.sliceBound, asIntOf, sizeOf, typeInfo, hi', hs]
end

section
variable {P : Program} {X : Cx} {al : List (Nat × AV)} {bs : Bs} {T : TypeId} {x : Operand} {k : IntKind}
/-- A part of a variable of data. -/
theorem Rd.ldpQ {b off T' N : Nat} {es : List D} [hT : TRw P T N] (hx : Evd al x (.p b off) := by exact ⟨_, rfl, by (try (apply Und.gd; assumption; try (apply Und.gd; assumption; try (apply Und.gd; assumption)))); exact Und.refl _⟩) (hb : lk bs b = some (some (T', es.map .d)) := by rfl) (hdl : ((es.drop off).take N).length = N := by rfl) : Rd P X al bs [b] (.load T x) (.d (.st ((es.drop off).take N))) :=
  Rd.ldpP hx hb (by rw [← List.map_drop, ← List.map_take]) hdl
/-- An element at an index that is written out, of rows that are. -/
theorem Rd.ixk {e sz : Nat} {rows : List (List D)} {row : List D} {i : Int} (hx : Evd al x (.d (.l rows)) := by exact ⟨_, rfl, by (try (apply Und.gd; assumption; try (apply Und.gd; assumption; try (apply Und.gd; assumption)))); exact Und.refl _⟩) (hi : 0 ≤ i := by decide) (hrow : rows[i.toNat]? = some row := by rfl) (hT : TSl P T e sz := by infer_instance) (hsz : row.length = sz := by rfl) :
    Rd P X al bs [] (.indexAddr T x (.const (.int k i))) (.e row 0) := Rd.ixl (k := k) (i := i) (hT := hT) i.toNat hrow (by omega) hsz hx ⟨_, rfl, Und.refl _⟩
end

/-! ### One step, whichever -/
section
variable {P : Program} {X : Cx} {al : List (Nat × AV)} {bs : Bs} {ro : Option Nat} {ops : Array Oper} {Q : Exit → Act → World → Prop} {rest l : List Oper} {d ty id : Nat} {ps : String} {af : Array Edge} {u : AV} {op : Op} {rb : List Nat} {al0 : List (Nat × AV)} {bs0 : Bs} {sts : List Stp} {t want : Bool} {j dj : Nat} {x y : Code} {c : Operand}
theorem G.r (h : G P X ((d, u) :: al) bs (WL P ro ops Q rest)) (hr : Rd P X al bs rb op u := by first | (show Rd _ _ _ _ _ (.move _) _; first | exact Rd.mv) | (show Rd _ _ _ _ _ (.assign _) _; first | exact Rd.as) | (show Rd _ _ _ _ _ (.fieldAddr _ _ _) _; first | exact Rd.fap | exact Rd.fae) | (show Rd _ _ _ _ _ (.load _ _) _; first | exact Rd.ldp | exact Rd.ldpS | exact Rd.lde | exact Rd.ldeS | exact Rd.ldpQ | exact Rd.ldpA | exact Rd.ldpP | exact Rd.ldeP) | (show Rd _ _ _ _ _ (.field _ _ _) _; first | exact Rd.fld | exact Rd.fldA) | (show Rd _ _ _ _ _ (.extract _ _) _; first | exact Rd.ext | exact Rd.extA) | (show Rd _ _ _ _ _ (.pick _ _ _) _; first | exact Rd.pkOr | exact Rd.pkAnd | exact Rd.pkT | exact Rd.pkF | exact Rd.pkB) | (show Rd _ _ _ _ _ (.unOp _ _ _) _; first | exact Rd.not) | (show Rd _ _ _ _ _ (.indexAddr _ _ _) _; first | exact Rd.ixk | exact Rd.ixl _ (by assumption) rfl rfl | exact Rd.ixo _ rfl (by omega)) | (show Rd _ _ _ _ _ (.call _) _; first | exact Rd.lenL | exact Rd.lenO | exact Rd.lenN | exact Rd.max | exact Rd.min) | (show Rd _ _ _ _ _ (.build _ _) _; first | exact Rd.bld (by repeat (first | exact EvP.nil | (apply EvP.cs; exact ⟨_, rfl, by (try (apply Und.gd; assumption; try (apply Und.gd; assumption; try (apply Und.gd; assumption)))); exact Und.refl _⟩; exact rfl) | (apply EvP.cA; exact ⟨_, rfl, by (try (apply Und.gd; assumption; try (apply Und.gd; assumption; try (apply Und.gd; assumption)))); exact Und.refl _⟩; exact rfl) | (apply EvP.one; exact ⟨_, rfl, by (try (apply Und.gd; assumption; try (apply Und.gd; assumption; try (apply Und.gd; assumption)))); exact Und.refl _⟩; exact rfl; exact rfl))) (by simp only [go_sem, bldC, spl, List.map_cons, List.map_nil, List.length_cons, List.length_nil, List.getElem?_cons_zero, List.getElem?_cons_succ, Nat.zero_add, Nat.add_zero, Nat.reduceAdd, Nat.reduceLeDiff, Nat.reduceLT, Nat.reduceEqDiff, and_self, true_and, and_true, if_true, ite_true, Nat.le_refl] <;> rfl) inferInstance | exact Rd.bldA (by repeat (first | exact EvP.nil | (apply EvP.cs; exact ⟨_, rfl, by (try (apply Und.gd; assumption; try (apply Und.gd; assumption; try (apply Und.gd; assumption)))); exact Und.refl _⟩; exact rfl) | (apply EvP.cA; exact ⟨_, rfl, by (try (apply Und.gd; assumption; try (apply Und.gd; assumption; try (apply Und.gd; assumption)))); exact Und.refl _⟩; exact rfl) | (apply EvP.one; exact ⟨_, rfl, by (try (apply Und.gd; assumption; try (apply Und.gd; assumption; try (apply Und.gd; assumption)))); exact Und.refl _⟩; exact rfl; exact rfl))) (by simp only [go_sem, bldC, spl, List.map_cons, List.map_nil, List.length_cons, List.length_nil, List.getElem?_cons_zero, List.getElem?_cons_succ, Nat.zero_add, Nat.add_zero, Nat.reduceAdd, Nat.reduceLeDiff, Nat.reduceLT, Nat.reduceEqDiff, and_self, true_and, and_true, if_true, ite_true, Nat.le_refl] <;> rfl)) | (show Rd _ _ _ _ _ (.binOp _ _ _ _ _) _; first | (show Rd _ _ _ _ _ (.binOp .add _ _ _ _) _; exact Rd.add) | (show Rd _ _ _ _ _ (.binOp .sub _ _ _ _) _; exact Rd.sub) | (show Rd _ _ _ _ _ (.binOp .lss _ _ _ _) _; exact Rd.lss) | (show Rd _ _ _ _ _ (.binOp .leq _ _ _ _) _; exact Rd.leq) | (show Rd _ _ _ _ _ (.binOp .gtr _ _ _ _) _; exact Rd.gtr) | (show Rd _ _ _ _ _ (.binOp .geq _ _ _ _) _; exact Rd.geq) | (show Rd _ _ _ _ _ (.binOp .mul _ _ _ _) _; exact Rd.mul) | (show Rd _ _ _ _ _ (.binOp .quo _ _ _ _) _; exact Rd.quo) | (show Rd _ _ _ _ _ (.binOp .rem _ _ _ _) _; exact Rd.rem) | (show Rd _ _ _ _ _ (.binOp .and _ _ _ _) _; exact Rd.and) | (show Rd _ _ _ _ _ (.binOp .or _ _ _ _) _; exact Rd.or) | (show Rd _ _ _ _ _ (.binOp .xor _ _ _ _) _; exact Rd.xor) | (show Rd _ _ _ _ _ (.binOp .andNot _ _ _ _) _; exact Rd.andNot) | (show Rd _ _ _ _ _ (.binOp .eql _ _ _ _) _; first | exact Rd.eql | exact Rd.eqlB) | (show Rd _ _ _ _ _ (.binOp .neq _ _ _ _) _; first | exact Rd.neq | exact Rd.neqB)) | fail) (hd : Nat.blt d X.N = true := by rfl) :
    G P X al bs (WL P ro ops Q ({ dst := some d, op := op, type := ty, pos := ps, after := af, guard := none } :: rest)) := G.w1 h (LT.rd hr hd)
theorem GD.r (h : GD P X l Q id al0 bs0 (sts ++ [⟨opT op, [d], rb, []⟩]) ((d, u) :: al) bs rest) (hr : Rd P X al bs rb op u := by first | (show Rd _ _ _ _ _ (.move _) _; first | exact Rd.mv) | (show Rd _ _ _ _ _ (.assign _) _; first | exact Rd.as) | (show Rd _ _ _ _ _ (.fieldAddr _ _ _) _; first | exact Rd.fap | exact Rd.fae) | (show Rd _ _ _ _ _ (.load _ _) _; first | exact Rd.ldp | exact Rd.ldpS | exact Rd.lde | exact Rd.ldeS | exact Rd.ldpQ | exact Rd.ldpA | exact Rd.ldpP | exact Rd.ldeP) | (show Rd _ _ _ _ _ (.field _ _ _) _; first | exact Rd.fld | exact Rd.fldA) | (show Rd _ _ _ _ _ (.extract _ _) _; first | exact Rd.ext | exact Rd.extA) | (show Rd _ _ _ _ _ (.pick _ _ _) _; first | exact Rd.pkOr | exact Rd.pkAnd | exact Rd.pkT | exact Rd.pkF | exact Rd.pkB) | (show Rd _ _ _ _ _ (.unOp _ _ _) _; first | exact Rd.not) | (show Rd _ _ _ _ _ (.indexAddr _ _ _) _; first | exact Rd.ixk | exact Rd.ixl _ (by assumption) rfl rfl | exact Rd.ixo _ rfl (by omega)) | (show Rd _ _ _ _ _ (.call _) _; first | exact Rd.lenL | exact Rd.lenO | exact Rd.lenN | exact Rd.max | exact Rd.min) | (show Rd _ _ _ _ _ (.build _ _) _; first | exact Rd.bld (by repeat (first | exact EvP.nil | (apply EvP.cs; exact ⟨_, rfl, by (try (apply Und.gd; assumption; try (apply Und.gd; assumption; try (apply Und.gd; assumption)))); exact Und.refl _⟩; exact rfl) | (apply EvP.cA; exact ⟨_, rfl, by (try (apply Und.gd; assumption; try (apply Und.gd; assumption; try (apply Und.gd; assumption)))); exact Und.refl _⟩; exact rfl) | (apply EvP.one; exact ⟨_, rfl, by (try (apply Und.gd; assumption; try (apply Und.gd; assumption; try (apply Und.gd; assumption)))); exact Und.refl _⟩; exact rfl; exact rfl))) (by simp only [go_sem, bldC, spl, List.map_cons, List.map_nil, List.length_cons, List.length_nil, List.getElem?_cons_zero, List.getElem?_cons_succ, Nat.zero_add, Nat.add_zero, Nat.reduceAdd, Nat.reduceLeDiff, Nat.reduceLT, Nat.reduceEqDiff, and_self, true_and, and_true, if_true, ite_true, Nat.le_refl] <;> rfl) inferInstance | exact Rd.bldA (by repeat (first | exact EvP.nil | (apply EvP.cs; exact ⟨_, rfl, by (try (apply Und.gd; assumption; try (apply Und.gd; assumption; try (apply Und.gd; assumption)))); exact Und.refl _⟩; exact rfl) | (apply EvP.cA; exact ⟨_, rfl, by (try (apply Und.gd; assumption; try (apply Und.gd; assumption; try (apply Und.gd; assumption)))); exact Und.refl _⟩; exact rfl) | (apply EvP.one; exact ⟨_, rfl, by (try (apply Und.gd; assumption; try (apply Und.gd; assumption; try (apply Und.gd; assumption)))); exact Und.refl _⟩; exact rfl; exact rfl))) (by simp only [go_sem, bldC, spl, List.map_cons, List.map_nil, List.length_cons, List.length_nil, List.getElem?_cons_zero, List.getElem?_cons_succ, Nat.zero_add, Nat.add_zero, Nat.reduceAdd, Nat.reduceLeDiff, Nat.reduceLT, Nat.reduceEqDiff, and_self, true_and, and_true, if_true, ite_true, Nat.le_refl] <;> rfl)) | (show Rd _ _ _ _ _ (.binOp _ _ _ _ _) _; first | (show Rd _ _ _ _ _ (.binOp .add _ _ _ _) _; exact Rd.add) | (show Rd _ _ _ _ _ (.binOp .sub _ _ _ _) _; exact Rd.sub) | (show Rd _ _ _ _ _ (.binOp .lss _ _ _ _) _; exact Rd.lss) | (show Rd _ _ _ _ _ (.binOp .leq _ _ _ _) _; exact Rd.leq) | (show Rd _ _ _ _ _ (.binOp .gtr _ _ _ _) _; exact Rd.gtr) | (show Rd _ _ _ _ _ (.binOp .geq _ _ _ _) _; exact Rd.geq) | (show Rd _ _ _ _ _ (.binOp .mul _ _ _ _) _; exact Rd.mul) | (show Rd _ _ _ _ _ (.binOp .quo _ _ _ _) _; exact Rd.quo) | (show Rd _ _ _ _ _ (.binOp .rem _ _ _ _) _; exact Rd.rem) | (show Rd _ _ _ _ _ (.binOp .and _ _ _ _) _; exact Rd.and) | (show Rd _ _ _ _ _ (.binOp .or _ _ _ _) _; exact Rd.or) | (show Rd _ _ _ _ _ (.binOp .xor _ _ _ _) _; exact Rd.xor) | (show Rd _ _ _ _ _ (.binOp .andNot _ _ _ _) _; exact Rd.andNot) | (show Rd _ _ _ _ _ (.binOp .eql _ _ _ _) _; first | exact Rd.eql | exact Rd.eqlB) | (show Rd _ _ _ _ _ (.binOp .neq _ _ _ _) _; first | exact Rd.neq | exact Rd.neqB)) | fail) (hd : Nat.blt d X.N = true := by rfl) :
    GD P X l Q id al0 bs0 sts al bs ({ dst := some d, op := op, type := ty, pos := ps, after := af, guard := none } :: rest) := GD.w1 h (LT.rd hr hd)
theorem GD.gr (h : GD P X l Q id al0 bs0 (sts ++ [⟨dj :: opT op, [d], rb, []⟩]) ((d, u) :: al) bs rest) (hj : (l[j]?).bind (·.dst) = some dj := by rfl) (hs : lk al dj = some (.d (.s (.bool t))) := by rfl) (ht : t = want := by first | rfl | assumption | (simp; done) | (simp; omega)) (hr : Rd P X al bs rb op u := by first | (show Rd _ _ _ _ _ (.move _) _; first | exact Rd.mv) | (show Rd _ _ _ _ _ (.assign _) _; first | exact Rd.as) | (show Rd _ _ _ _ _ (.fieldAddr _ _ _) _; first | exact Rd.fap | exact Rd.fae) | (show Rd _ _ _ _ _ (.load _ _) _; first | exact Rd.ldp | exact Rd.ldpS | exact Rd.lde | exact Rd.ldeS | exact Rd.ldpQ | exact Rd.ldpA | exact Rd.ldpP | exact Rd.ldeP) | (show Rd _ _ _ _ _ (.field _ _ _) _; first | exact Rd.fld | exact Rd.fldA) | (show Rd _ _ _ _ _ (.extract _ _) _; first | exact Rd.ext | exact Rd.extA) | (show Rd _ _ _ _ _ (.pick _ _ _) _; first | exact Rd.pkOr | exact Rd.pkAnd | exact Rd.pkT | exact Rd.pkF | exact Rd.pkB) | (show Rd _ _ _ _ _ (.unOp _ _ _) _; first | exact Rd.not) | (show Rd _ _ _ _ _ (.indexAddr _ _ _) _; first | exact Rd.ixk | exact Rd.ixl _ (by assumption) rfl rfl | exact Rd.ixo _ rfl (by omega)) | (show Rd _ _ _ _ _ (.call _) _; first | exact Rd.lenL | exact Rd.lenO | exact Rd.lenN | exact Rd.max | exact Rd.min) | (show Rd _ _ _ _ _ (.build _ _) _; first | exact Rd.bld (by repeat (first | exact EvP.nil | (apply EvP.cs; exact ⟨_, rfl, by (try (apply Und.gd; assumption; try (apply Und.gd; assumption; try (apply Und.gd; assumption)))); exact Und.refl _⟩; exact rfl) | (apply EvP.cA; exact ⟨_, rfl, by (try (apply Und.gd; assumption; try (apply Und.gd; assumption; try (apply Und.gd; assumption)))); exact Und.refl _⟩; exact rfl) | (apply EvP.one; exact ⟨_, rfl, by (try (apply Und.gd; assumption; try (apply Und.gd; assumption; try (apply Und.gd; assumption)))); exact Und.refl _⟩; exact rfl; exact rfl))) (by simp only [go_sem, bldC, spl, List.map_cons, List.map_nil, List.length_cons, List.length_nil, List.getElem?_cons_zero, List.getElem?_cons_succ, Nat.zero_add, Nat.add_zero, Nat.reduceAdd, Nat.reduceLeDiff, Nat.reduceLT, Nat.reduceEqDiff, and_self, true_and, and_true, if_true, ite_true, Nat.le_refl] <;> rfl) inferInstance | exact Rd.bldA (by repeat (first | exact EvP.nil | (apply EvP.cs; exact ⟨_, rfl, by (try (apply Und.gd; assumption; try (apply Und.gd; assumption; try (apply Und.gd; assumption)))); exact Und.refl _⟩; exact rfl) | (apply EvP.cA; exact ⟨_, rfl, by (try (apply Und.gd; assumption; try (apply Und.gd; assumption; try (apply Und.gd; assumption)))); exact Und.refl _⟩; exact rfl) | (apply EvP.one; exact ⟨_, rfl, by (try (apply Und.gd; assumption; try (apply Und.gd; assumption; try (apply Und.gd; assumption)))); exact Und.refl _⟩; exact rfl; exact rfl))) (by simp only [go_sem, bldC, spl, List.map_cons, List.map_nil, List.length_cons, List.length_nil, List.getElem?_cons_zero, List.getElem?_cons_succ, Nat.zero_add, Nat.add_zero, Nat.reduceAdd, Nat.reduceLeDiff, Nat.reduceLT, Nat.reduceEqDiff, and_self, true_and, and_true, if_true, ite_true, Nat.le_refl] <;> rfl)) | (show Rd _ _ _ _ _ (.binOp _ _ _ _ _) _; first | (show Rd _ _ _ _ _ (.binOp .add _ _ _ _) _; exact Rd.add) | (show Rd _ _ _ _ _ (.binOp .sub _ _ _ _) _; exact Rd.sub) | (show Rd _ _ _ _ _ (.binOp .lss _ _ _ _) _; exact Rd.lss) | (show Rd _ _ _ _ _ (.binOp .leq _ _ _ _) _; exact Rd.leq) | (show Rd _ _ _ _ _ (.binOp .gtr _ _ _ _) _; exact Rd.gtr) | (show Rd _ _ _ _ _ (.binOp .geq _ _ _ _) _; exact Rd.geq) | (show Rd _ _ _ _ _ (.binOp .mul _ _ _ _) _; exact Rd.mul) | (show Rd _ _ _ _ _ (.binOp .quo _ _ _ _) _; exact Rd.quo) | (show Rd _ _ _ _ _ (.binOp .rem _ _ _ _) _; exact Rd.rem) | (show Rd _ _ _ _ _ (.binOp .and _ _ _ _) _; exact Rd.and) | (show Rd _ _ _ _ _ (.binOp .or _ _ _ _) _; exact Rd.or) | (show Rd _ _ _ _ _ (.binOp .xor _ _ _ _) _; exact Rd.xor) | (show Rd _ _ _ _ _ (.binOp .andNot _ _ _ _) _; exact Rd.andNot) | (show Rd _ _ _ _ _ (.binOp .eql _ _ _ _) _; first | exact Rd.eql | exact Rd.eqlB) | (show Rd _ _ _ _ _ (.binOp .neq _ _ _ _) _; first | exact Rd.neq | exact Rd.neqB)) | fail) (hd : Nat.blt d X.N = true := by rfl) :
    GD P X l Q id al0 bs0 sts al bs ({ dst := some d, op := op, type := ty, pos := ps, after := af, guard := some (j, want) } :: rest) := GD.g1 h (LT.rd hr hd) hs ht hj
/-- The result is told under the guard. -/
theorem G.gl {y y' : AV} (h : G P X ((d, y') :: al) bs (WL P ro l.toArray Q rest)) (hj : (l[j]?).bind (·.dst) = some dj := by rfl) (hs : lk al dj = some y := by rfl) (hr : y.says want → Rd P X al bs rb op u := by (intro hg; (have hf := hg; (try simp only [AV.says, Bool.and_eq_true, Bool.or_eq_true, Bool.and_eq_false_iff, Bool.or_eq_false_iff, decide_eq_true_eq, decide_eq_false_iff_not, Bool.not_eq_true', Bool.not_eq_false', bne_iff_ne, beq_iff_eq, bne_eq_false_iff_eq, beq_eq_false_iff_ne, ne_eq, Int.not_lt, Int.not_le] at hf)); (try simp only [AV.says] at hg); (repeat (have hg0 := hg.1; replace hg := hg.2)); first | (show Rd _ _ _ _ _ (.move _) _; first | exact Rd.mv) | (show Rd _ _ _ _ _ (.assign _) _; first | exact Rd.as) | (show Rd _ _ _ _ _ (.fieldAddr _ _ _) _; first | exact Rd.fap | exact Rd.fae) | (show Rd _ _ _ _ _ (.load _ _) _; first | exact Rd.ldp | exact Rd.ldpS | exact Rd.lde | exact Rd.ldeS | exact Rd.ldpQ | exact Rd.ldpA | exact Rd.ldpP | exact Rd.ldeP) | (show Rd _ _ _ _ _ (.field _ _ _) _; first | exact Rd.fld | exact Rd.fldA) | (show Rd _ _ _ _ _ (.extract _ _) _; first | exact Rd.ext | exact Rd.extA) | (show Rd _ _ _ _ _ (.pick _ _ _) _; first | exact Rd.pkOr | exact Rd.pkAnd | exact Rd.pkT | exact Rd.pkF | exact Rd.pkB) | (show Rd _ _ _ _ _ (.unOp _ _ _) _; first | exact Rd.not) | (show Rd _ _ _ _ _ (.indexAddr _ _ _) _; first | exact Rd.ixk | exact Rd.ixl _ (by assumption) rfl rfl | exact Rd.ixo _ rfl (by omega)) | (show Rd _ _ _ _ _ (.call _) _; first | exact Rd.lenL | exact Rd.lenO | exact Rd.lenN | exact Rd.max | exact Rd.min) | (show Rd _ _ _ _ _ (.build _ _) _; first | exact Rd.bld (by repeat (first | exact EvP.nil | (apply EvP.cs; exact ⟨_, rfl, by (try (apply Und.gd; assumption; try (apply Und.gd; assumption; try (apply Und.gd; assumption)))); exact Und.refl _⟩; exact rfl) | (apply EvP.cA; exact ⟨_, rfl, by (try (apply Und.gd; assumption; try (apply Und.gd; assumption; try (apply Und.gd; assumption)))); exact Und.refl _⟩; exact rfl) | (apply EvP.one; exact ⟨_, rfl, by (try (apply Und.gd; assumption; try (apply Und.gd; assumption; try (apply Und.gd; assumption)))); exact Und.refl _⟩; exact rfl; exact rfl))) (by simp only [go_sem, bldC, spl, List.map_cons, List.map_nil, List.length_cons, List.length_nil, List.getElem?_cons_zero, List.getElem?_cons_succ, Nat.zero_add, Nat.add_zero, Nat.reduceAdd, Nat.reduceLeDiff, Nat.reduceLT, Nat.reduceEqDiff, and_self, true_and, and_true, if_true, ite_true, Nat.le_refl] <;> rfl) inferInstance | exact Rd.bldA (by repeat (first | exact EvP.nil | (apply EvP.cs; exact ⟨_, rfl, by (try (apply Und.gd; assumption; try (apply Und.gd; assumption; try (apply Und.gd; assumption)))); exact Und.refl _⟩; exact rfl) | (apply EvP.cA; exact ⟨_, rfl, by (try (apply Und.gd; assumption; try (apply Und.gd; assumption; try (apply Und.gd; assumption)))); exact Und.refl _⟩; exact rfl) | (apply EvP.one; exact ⟨_, rfl, by (try (apply Und.gd; assumption; try (apply Und.gd; assumption; try (apply Und.gd; assumption)))); exact Und.refl _⟩; exact rfl; exact rfl))) (by simp only [go_sem, bldC, spl, List.map_cons, List.map_nil, List.length_cons, List.length_nil, List.getElem?_cons_zero, List.getElem?_cons_succ, Nat.zero_add, Nat.add_zero, Nat.reduceAdd, Nat.reduceLeDiff, Nat.reduceLT, Nat.reduceEqDiff, and_self, true_and, and_true, if_true, ite_true, Nat.le_refl] <;> rfl)) | (show Rd _ _ _ _ _ (.binOp _ _ _ _ _) _; first | (show Rd _ _ _ _ _ (.binOp .add _ _ _ _) _; exact Rd.add) | (show Rd _ _ _ _ _ (.binOp .sub _ _ _ _) _; exact Rd.sub) | (show Rd _ _ _ _ _ (.binOp .lss _ _ _ _) _; exact Rd.lss) | (show Rd _ _ _ _ _ (.binOp .leq _ _ _ _) _; exact Rd.leq) | (show Rd _ _ _ _ _ (.binOp .gtr _ _ _ _) _; exact Rd.gtr) | (show Rd _ _ _ _ _ (.binOp .geq _ _ _ _) _; exact Rd.geq) | (show Rd _ _ _ _ _ (.binOp .mul _ _ _ _) _; exact Rd.mul) | (show Rd _ _ _ _ _ (.binOp .quo _ _ _ _) _; exact Rd.quo) | (show Rd _ _ _ _ _ (.binOp .rem _ _ _ _) _; exact Rd.rem) | (show Rd _ _ _ _ _ (.binOp .and _ _ _ _) _; exact Rd.and) | (show Rd _ _ _ _ _ (.binOp .or _ _ _ _) _; exact Rd.or) | (show Rd _ _ _ _ _ (.binOp .xor _ _ _ _) _; exact Rd.xor) | (show Rd _ _ _ _ _ (.binOp .andNot _ _ _ _) _; exact Rd.andNot) | (show Rd _ _ _ _ _ (.binOp .eql _ _ _ _) _; first | exact Rd.eql | exact Rd.eqlB) | (show Rd _ _ _ _ _ (.binOp .neq _ _ _ _) _; first | exact Rd.neq | exact Rd.neqB)) | fail)) (hy : y.wrap want u = y' := by (simp only [AV.wrap] <;> rfl)) (hG : y.isG = true := by rfl) (hd : Nat.blt d X.N = true := by rfl) :
    G P X al bs (WL P ro l.toArray Q ({ dst := some d, op := op, type := ty, pos := ps, after := af, guard := some (j, want) } :: rest)) := G.gN h (fun ht => LT.rd (hr ht) hd) hy hj hs hG hd
theorem G.gC {y y' : AV} (h : G P X ((d, y') :: al) bs (WL P ro l.toArray Q rest)) (lt : y.says want → LT P X al bs op (some d) rb [(d, u)] []) (hj : (l[j]?).bind (·.dst) = some dj) (hs : lk al dj = some y) (hy : y.wrap want u = y' := by (simp only [AV.wrap] <;> rfl)) (hG : y.isG = true := by rfl) (hd : Nat.blt d X.N = true := by rfl) :
    G P X al bs (WL P ro l.toArray Q ({ dst := some d, op := op, type := ty, pos := ps, after := af, guard := some (j, want) } :: rest)) := G.gN h lt hy hj hs hG hd
theorem GD.gl {y y' : AV} (h : GD P X l Q id al0 bs0 (sts ++ [⟨dj :: opT op, [d], rb, []⟩]) ((d, y') :: al) bs rest) (hj : (l[j]?).bind (·.dst) = some dj := by rfl) (hs : lk al dj = some y := by rfl) (hr : y.says want → Rd P X al bs rb op u := by (intro hg; (have hf := hg; (try simp only [AV.says, Bool.and_eq_true, Bool.or_eq_true, Bool.and_eq_false_iff, Bool.or_eq_false_iff, decide_eq_true_eq, decide_eq_false_iff_not, Bool.not_eq_true', Bool.not_eq_false', bne_iff_ne, beq_iff_eq, bne_eq_false_iff_eq, beq_eq_false_iff_ne, ne_eq, Int.not_lt, Int.not_le] at hf)); (try simp only [AV.says] at hg); (repeat (have hg0 := hg.1; replace hg := hg.2)); first | (show Rd _ _ _ _ _ (.move _) _; first | exact Rd.mv) | (show Rd _ _ _ _ _ (.assign _) _; first | exact Rd.as) | (show Rd _ _ _ _ _ (.fieldAddr _ _ _) _; first | exact Rd.fap | exact Rd.fae) | (show Rd _ _ _ _ _ (.load _ _) _; first | exact Rd.ldp | exact Rd.ldpS | exact Rd.lde | exact Rd.ldeS | exact Rd.ldpQ | exact Rd.ldpA | exact Rd.ldpP | exact Rd.ldeP) | (show Rd _ _ _ _ _ (.field _ _ _) _; first | exact Rd.fld | exact Rd.fldA) | (show Rd _ _ _ _ _ (.extract _ _) _; first | exact Rd.ext | exact Rd.extA) | (show Rd _ _ _ _ _ (.pick _ _ _) _; first | exact Rd.pkOr | exact Rd.pkAnd | exact Rd.pkT | exact Rd.pkF | exact Rd.pkB) | (show Rd _ _ _ _ _ (.unOp _ _ _) _; first | exact Rd.not) | (show Rd _ _ _ _ _ (.indexAddr _ _ _) _; first | exact Rd.ixk | exact Rd.ixl _ (by assumption) rfl rfl | exact Rd.ixo _ rfl (by omega)) | (show Rd _ _ _ _ _ (.call _) _; first | exact Rd.lenL | exact Rd.lenO | exact Rd.lenN | exact Rd.max | exact Rd.min) | (show Rd _ _ _ _ _ (.build _ _) _; first | exact Rd.bld (by repeat (first | exact EvP.nil | (apply EvP.cs; exact ⟨_, rfl, by (try (apply Und.gd; assumption; try (apply Und.gd; assumption; try (apply Und.gd; assumption)))); exact Und.refl _⟩; exact rfl) | (apply EvP.cA; exact ⟨_, rfl, by (try (apply Und.gd; assumption; try (apply Und.gd; assumption; try (apply Und.gd; assumption)))); exact Und.refl _⟩; exact rfl) | (apply EvP.one; exact ⟨_, rfl, by (try (apply Und.gd; assumption; try (apply Und.gd; assumption; try (apply Und.gd; assumption)))); exact Und.refl _⟩; exact rfl; exact rfl))) (by simp only [go_sem, bldC, spl, List.map_cons, List.map_nil, List.length_cons, List.length_nil, List.getElem?_cons_zero, List.getElem?_cons_succ, Nat.zero_add, Nat.add_zero, Nat.reduceAdd, Nat.reduceLeDiff, Nat.reduceLT, Nat.reduceEqDiff, and_self, true_and, and_true, if_true, ite_true, Nat.le_refl] <;> rfl) inferInstance | exact Rd.bldA (by repeat (first | exact EvP.nil | (apply EvP.cs; exact ⟨_, rfl, by (try (apply Und.gd; assumption; try (apply Und.gd; assumption; try (apply Und.gd; assumption)))); exact Und.refl _⟩; exact rfl) | (apply EvP.cA; exact ⟨_, rfl, by (try (apply Und.gd; assumption; try (apply Und.gd; assumption; try (apply Und.gd; assumption)))); exact Und.refl _⟩; exact rfl) | (apply EvP.one; exact ⟨_, rfl, by (try (apply Und.gd; assumption; try (apply Und.gd; assumption; try (apply Und.gd; assumption)))); exact Und.refl _⟩; exact rfl; exact rfl))) (by simp only [go_sem, bldC, spl, List.map_cons, List.map_nil, List.length_cons, List.length_nil, List.getElem?_cons_zero, List.getElem?_cons_succ, Nat.zero_add, Nat.add_zero, Nat.reduceAdd, Nat.reduceLeDiff, Nat.reduceLT, Nat.reduceEqDiff, and_self, true_and, and_true, if_true, ite_true, Nat.le_refl] <;> rfl)) | (show Rd _ _ _ _ _ (.binOp _ _ _ _ _) _; first | (show Rd _ _ _ _ _ (.binOp .add _ _ _ _) _; exact Rd.add) | (show Rd _ _ _ _ _ (.binOp .sub _ _ _ _) _; exact Rd.sub) | (show Rd _ _ _ _ _ (.binOp .lss _ _ _ _) _; exact Rd.lss) | (show Rd _ _ _ _ _ (.binOp .leq _ _ _ _) _; exact Rd.leq) | (show Rd _ _ _ _ _ (.binOp .gtr _ _ _ _) _; exact Rd.gtr) | (show Rd _ _ _ _ _ (.binOp .geq _ _ _ _) _; exact Rd.geq) | (show Rd _ _ _ _ _ (.binOp .mul _ _ _ _) _; exact Rd.mul) | (show Rd _ _ _ _ _ (.binOp .quo _ _ _ _) _; exact Rd.quo) | (show Rd _ _ _ _ _ (.binOp .rem _ _ _ _) _; exact Rd.rem) | (show Rd _ _ _ _ _ (.binOp .and _ _ _ _) _; exact Rd.and) | (show Rd _ _ _ _ _ (.binOp .or _ _ _ _) _; exact Rd.or) | (show Rd _ _ _ _ _ (.binOp .xor _ _ _ _) _; exact Rd.xor) | (show Rd _ _ _ _ _ (.binOp .andNot _ _ _ _) _; exact Rd.andNot) | (show Rd _ _ _ _ _ (.binOp .eql _ _ _ _) _; first | exact Rd.eql | exact Rd.eqlB) | (show Rd _ _ _ _ _ (.binOp .neq _ _ _ _) _; first | exact Rd.neq | exact Rd.neqB)) | fail)) (hy : y.wrap want u = y' := by (simp only [AV.wrap] <;> rfl)) (hG : y.isG = true := by rfl) (hd : Nat.blt d X.N = true := by rfl) :
    GD P X l Q id al0 bs0 sts al bs ({ dst := some d, op := op, type := ty, pos := ps, after := af, guard := some (j, want) } :: rest) := GD.gN h (fun ht => LT.rd (hr ht) hd) hy hj hs hG hd
theorem GD.gC {y y' : AV} (h : GD P X l Q id al0 bs0 (sts ++ [⟨dj :: opT op, [d], rb, []⟩]) ((d, y') :: al) bs rest) (lt : y.says want → LT P X al bs op (some d) rb [(d, u)] []) (hj : (l[j]?).bind (·.dst) = some dj) (hs : lk al dj = some y) (hy : y.wrap want u = y' := by (simp only [AV.wrap] <;> rfl)) (hG : y.isG = true := by rfl) (hd : Nat.blt d X.N = true := by rfl) :
    GD P X l Q id al0 bs0 sts al bs ({ dst := some d, op := op, type := ty, pos := ps, after := af, guard := some (j, want) } :: rest) := GD.gN h lt hy hj hs hG hd
theorem G.iT (h : G P X al bs (Wp P ro x Q)) (hc : ev al c = some (.d (.s (.bool t))) := by rfl) (ht : t = true := by first | rfl | assumption | (simp; done) | (simp; omega)) : G P X al bs (Wp P ro (Code.cond c x y) Q) := G.ifT ht h hc
theorem G.iF (h : G P X al bs (Wp P ro y Q)) (hc : ev al c = some (.d (.s (.bool t))) := by rfl) (ht : t = false := by first | rfl | assumption | (simp; done) | (simp; omega)) : G P X al bs (Wp P ro (Code.cond c x y) Q) := G.ifF ht h hc
end

end Go.Proofs.Ytmajkjkakciaiaa

set_option linter.unusedSimpArgs false
set_option linter.unusedVariables false
namespace Go.Proofs.Ytmajkjkakciaiaa
open Go.RowKit

mutual
/-- All the numbers that the word names are such. -/
def AV.nums (p : Nat → Bool) : AV → Bool
  | .p b _ => p b
  | .o b _ => p b
  | .vw b _ _ _ => p b
  | .st cs => AV.numsL p cs
  | .tup cs => AV.numsL p cs
  | .fn _ cs => AV.numsL p cs
  | .gd _ _ x => AV.nums p x
  | .d _ => true
  | .any => true
def AV.numsL (p : Nat → Bool) : List AV → Bool
  | [] => true
  | c :: cs => AV.nums p c && AV.numsL p cs
end
mutual
theorem RA.nums {E : Env} {dm dm' own : Nat → Prop} {W : World} {p : Nat → Bool} (hp : ∀ b, dm b → p b = true → dm' b) : ∀ {v : Value} {x : AV}, RA E dm own W v x → x.nums p = true → RA E dm' own W v x
  | _, _, .d h, _ => .d h
  | _, _, .p hb hn, h => .p (hp _ hb h) hn
  | _, _, .o hb hv, h => .o (hp _ hb h) hv
  | _, _, .vw hb hn hc hm h0, h => .vw (hp _ hb h) hn hc hm h0
  | _, _, .st h, hx => .st (RAL.nums hp h hx)
  | _, _, .tup h, hx => .tup (RAL.nums hp h hx)
  | _, _, .fn h, hx => .fn (RAL.nums hp h hx)
  | _, _, .gd h h', hx => .gd (fun e => RA.nums hp (h e) hx) h'
  | _, _, .any, _ => .any
theorem RAL.nums {E : Env} {dm dm' own : Nat → Prop} {W : World} {p : Nat → Bool} (hp : ∀ b, dm b → p b = true → dm' b) : ∀ {vs : List Value} {xs : List AV}, RAL E dm own W vs xs → AV.numsL p xs = true → RAL E dm' own W vs xs
  | _, _, .nil, _ => .nil
  | _, _, .cons h t, hx => by
    simp only [AV.numsL, Bool.and_eq_true] at hx
    exact .cons (RA.nums hp h hx.1) (RAL.nums hp t hx.2)
end
/-- The numbers that stay what they are across a call: odd ones from 100 on are rows that may move. -/
def kn (b : Nat) : Bool := Nat.blt b 100 || Nat.beq (b % 2) 0
def kns (bs : Bs) : List Nat := (bs.map (·.1)).filter kn
def inB (bs : Bs) (b : Nat) : Bool := bs.any (fun e => Nat.beq e.1 b)
theorem inB_iff {bs : Bs} {b : Nat} : inB bs b = true ↔ dom bs b := by
  unfold dom
  induction bs with
  | nil => simp [inB, lk]
  | cons e bs ih =>
    obtain ⟨m, x⟩ := e
    rw [lk_cons]
    simp only [inB, List.any_cons, Bool.or_eq_true, Nat.beq_eq] at ih ⊢
    by_cases h : m = b
    · simp [h]
    · simp only [h, false_or, if_false]
      exact ih
theorem kns_iff {bs : Bs} {b : Nat} : b ∈ kns bs ↔ dom bs b ∧ kn b = true := by
  rw [← inB_iff]
  simp only [kns, List.mem_filter, List.mem_map, inB, List.any_eq_true, Nat.beq_eq]

/-- What holds of blocks, told without a frame. -/
structure HB (P : Program) (X : Cx) (bs : Bs) (E : Env) (W : World) : Prop where
  ext : ExtM X.m X.w W
  o0 : ∀ r, X.o r → r < X.w.heap.size ∧ ¬ X.m r
  en : EnK X.k X.E0 E bs
  bk : ∀ b T cs, lk bs b = some (some (T, cs)) → EnOk P E (dom bs) (ownS E X.o bs) W b T cs
  lo : ∀ b, live E bs b → X.w.heap.size ≤ E.A b ∨ X.m (E.A b)
  nd : ∀ b b', live E bs b → live E bs b' → E.A b = E.A b' → b = b'
section
variable {P : Program} {X : Cx} {al : List (Nat × AV)} {bs : Bs} {E : Env} {a : Act} {W : World}
theorem HdE.hb (h : HdE P X al bs E a W) : HB P X bs E W := ⟨h.ext, h.o0, h.en, h.bk, h.lo, h.nd⟩
theorem HB.hd (h : HB P X bs E W) (hd : DfOk (fun D => X.w.heap.size ≤ D ∨ X.m D) a W) (hz : a.tmps.size = X.N) (hs : ∀ n x, lk al n = some x → ∃ v, a.tmps[n]? = some v ∧ RA E (dom bs) (ownS E X.o bs) W v x) : HdE P X al bs E a W := ⟨h.ext, h.o0, hd, hz, h.en, hs, h.bk, h.lo, h.nd⟩
theorem HB.blkOf (h : HB P X bs E W) {b : Nat} (hl : live E bs b) : ∃ T cs, Blk W (E.A b) T cs := by
  obtain ⟨⟨⟨T, cs⟩, he⟩, hn⟩ := hl
  rcases h.bk b T cs he with ⟨h1, _⟩ | ⟨_, vs, sp, m, n, c, h1, _⟩
  · rw [hn] at h1; cases h1
  · exact ⟨_, _, h1⟩
theorem HB.own_lt (h : HB P X bs E W) {r : Nat} (ho : ownS E X.o bs r) : r < W.heap.size := by
  rcases ho with ho | ⟨b, hb, rfl⟩
  · exact Nat.lt_of_lt_of_le (h.o0 r ho).1 h.ext.size
  · obtain ⟨T, cs, h1⟩ := h.blkOf hb
    exact h1.lt
end

/-! ### Contracts -/
/-- The callee's context: what the caller hands over (its blocks bs), at the moment of the call. -/
structure SubX (X X' : Cx) (bs : Bs) (E : Env) (W : World) : Prop where
  w : X'.w = W
  E0 : X'.E0 = E
  m : ∀ r, X'.m r → ∃ b, live E bs b ∧ E.A b = r
  o : ∀ r, X'.o r → ownS E X.o bs r
  k : ∀ b ∈ X.k, Nat.ble 100 b = true → b ∈ X'.k
/-- A word on contexts that callees hand on. -/
structure Cc (C : Cx → Prop) : Prop where
  sub : ∀ (P : Program) (X X' : Cx) (bs : Bs) (E : Env) (W : World), C X → HB P X bs E W → SubX X X' bs E W → C X'
  N : ∀ (X : Cx) (N : Nat), C X → C { X with N := N }
def CT : Cx → Prop := fun _ => True
theorem CT.c : Cc CT := ⟨fun _ _ _ _ _ _ _ _ _ => trivial, fun _ _ _ => trivial⟩
/-- A call of a function value. -/
def CallsV (P : Program) (f : Value) (args : Array Value) (W : World) (R : Ending → World → Prop) : Prop :=
  (∃ K caps, f = .func (.func K) #[] caps ∧ fbody P K = true ∧ Calls P K (args ++ caps) W R) ∨
  (∃ l, f = .func (.yield l) #[] #[] ∧ YieldAt (FR none) 0 P l args W R)
/-- What is left when a call has ended that told x and left the blocks as bs'. -/
def Left (P : Program) (X : Cx) (x : AV) (bs' : Bs) (e : Ending) (W' : World) : Prop := ∃ u E', e = .returned u ∧ HB P X bs' E' W' ∧ RA E' (dom bs') (ownS E' X.o bs') W' u x
/-- Function value fv, called with as while the blocks are bs, answers x and leaves them as bs'. -/
def FvB (P : Program) (C : Cx → Prop) (fv : AV) (xs : List AV) (bs : Bs) (x : AV) (bs' : Bs) : Prop :=
  ∀ (X : Cx) (f : Value) (vs : List Value), C X → X.k = kns bs → HB P X bs X.E0 X.w → RA X.E0 (dom bs) (ownS X.E0 X.o bs) X.w f fv → RAL X.E0 (dom bs) (ownS X.E0 X.o bs) X.w vs xs → CallsV P f vs.toArray X.w (Left P X x bs')
/-- Function K likewise. -/
def FnB (P : Program) (C : Cx → Prop) (K : Nat) (xs : List AV) (bs : Bs) (x : AV) (bs' : Bs) : Prop :=
  fbody P K = true ∧ ∀ (X : Cx) (vs : List Value), C X → X.k = kns bs → HB P X bs X.E0 X.w → RAL X.E0 (dom bs) (ownS X.E0 X.o bs) X.w vs xs → Calls P K vs.toArray X.w (Left P X x bs')
section
variable {P : Program} {C : Cx → Prop} {K : Nat} {xs cs : List AV} {bs bs' : Bs} {x : AV}
theorem FnB.v (h : FnB P C K (xs ++ cs) bs x bs') : FvB P C (.fn K cs) xs bs x bs' := fun X f vs hC hk hb hf ha => by
  cases hf with
  | @fn _ us _ hc =>
    have := h.2 X (vs ++ us) hC hk hb (ha.app hc)
    exact .inl ⟨K, us.toArray, rfl, h.1, by rw [List.append_toArray]; exact this⟩
theorem FnB.v0 (h : FnB P C K xs bs x bs') : FvB P C (.fn K []) xs bs x bs' := FnB.v (cs := []) (by rw [List.append_nil]; exact h)
theorem FnB.vd {ds : List D} (h : FnB P C K (xs ++ ds.map .d) bs x bs') : FvB P C (.d (.fn K ds)) xs bs x bs' := fun X f vs hC hk hb hf ha => by
  cases hf with
  | d hf =>
    cases hf with
    | @fn _ us _ hc =>
      have := h.2 X (vs ++ us) hC hk hb (ha.app (RAL.map hc))
      exact .inl ⟨K, us.toArray, rfl, h.1, by rw [List.append_toArray]; exact this⟩
theorem FvB.ct {fv : AV} (h : FvB P CT fv xs bs x bs') : FvB P C fv xs bs x bs' := fun X f vs _ hk hb hf ha => h X f vs trivial hk hb hf ha
theorem HB.grow {X : Cx} {E : Env} {W W' : World} (h : HB P X bs E W) (hE : Ext W W') : HB P X bs E W' := by
  have hb := hE.below
  have k : Keeps (ownS E X.o bs) (ownS E X.o bs) W W' := .of (fun r hr _ => hb.block r hr) hb.size (fun r _ ho => ho)
  exact ⟨h.ext.trans hE, h.o0, h.en, fun b T cs hc => (h.bk b T cs hc).keeps k (Env.le.refl _ _) (fun _ h => h) ⟨_, hc⟩ (fun hn => hb.block _ (by obtain ⟨T, cs, h1⟩ := h.blkOf ⟨⟨_, hc⟩, hn⟩; exact h1.lt)), h.lo, h.nd⟩
/-- A function that takes data changes no blocks. -/
theorem Fn.b {ds : List D} {r : D} (h : Fn P K ds (· = r)) : FnB P C K (ds.map .d) bs (.d r) bs := ⟨h.1, fun X vs _ hk hb ha => by
  refine (h.2 (ownS X.E0 X.o bs) X.w vs (fun r ho => hb.own_lt ho) ha.unmap).mono ?_
  rintro e W' ⟨v, y, rfl, rfl, hE, hv⟩
  exact ⟨v, X.E0, rfl, hb.grow hE, .d hv⟩⟩
end

/-! ### The caller's step -/
/-- The slots that may still be told when numbers have moved. -/
inductive Fk : List (Nat × AV) → List (Nat × AV) → Prop
  | nil : Fk [] []
  | k {n : Nat} {x : AV} {l l' : List (Nat × AV)} (h : x.nums kn = true) (t : Fk l l') : Fk ((n, x) :: l) ((n, x) :: l')
  | x {n : Nat} {x : AV} {l l' : List (Nat × AV)} (t : Fk l l') : Fk ((n, x) :: l) ((n, .any) :: l')
inductive FkB : Bs → Bs → Prop
  | nil : FkB [] []
  | n {b : Nat} {l l' : Bs} (t : FkB l l') : FkB ((b, none) :: l) ((b, none) :: l')
  | k {b : Nat} {T : TypeId} {cs : List AV} {l l' : Bs} (h : AV.numsL kn cs = true) (t : FkB l l') : FkB ((b, some (T, cs)) :: l) ((b, some (T, cs)) :: l')
  | x {b : Nat} {e : Option (TypeId × List AV)} {l l' : Bs} (t : FkB l l') : FkB ((b, e) :: l) ((b, none) :: l')
theorem Fk.get {al al' : List (Nat × AV)} (h : Fk al al') : ∀ {n : Nat} {y : AV}, lk al' n = some y → ∃ x, lk al n = some x ∧ (y = .any ∨ (y = x ∧ x.nums kn = true)) := by
  induction h with
  | nil => intro n y h; simp [lk] at h
  | k hx t ih =>
    intro n y h
    rw [lk_cons] at h ⊢
    split at h
    · rename_i he
      rw [if_pos he]
      simp only [Option.some.injEq] at h
      subst h
      exact ⟨_, rfl, .inr ⟨rfl, hx⟩⟩
    · rename_i he
      rw [if_neg he]
      exact ih h
  | x t ih =>
    intro n y h
    rw [lk_cons] at h ⊢
    split at h
    · rename_i he
      rw [if_pos he]
      simp only [Option.some.injEq] at h
      subst h
      exact ⟨_, rfl, .inl rfl⟩
    · rename_i he
      rw [if_neg he]
      exact ih h
theorem FkB.dom {bs bs' : Bs} (h : FkB bs bs') : ∀ b, dom bs b ↔ dom bs' b := by
  intro b
  rw [← inB_iff, ← inB_iff]
  induction h with
  | nil => exact Iff.rfl
  | _ => simp only [inB, List.any_cons, Bool.or_eq_true] at *; rename_i ih; rw [ih]
theorem FkB.get {bs bs' : Bs} (h : FkB bs bs') : ∀ {b T : Nat} {cs : List AV}, lk bs' b = some (some (T, cs)) → lk bs b = some (some (T, cs)) ∧ AV.numsL kn cs = true := by
  induction h with
  | nil => intro b T cs h; simp [lk] at h
  | n t ih =>
    intro b T cs h
    rw [lk_cons] at h ⊢
    split at h
    · simp at h
    · rename_i he; rw [if_neg he]; exact ih h
  | k hx t ih =>
    intro b T cs h
    rw [lk_cons] at h ⊢
    split at h
    · rename_i he
      rw [if_pos he]
      simp only [Option.some.injEq, Prod.mk.injEq] at h
      obtain ⟨rfl, rfl⟩ := h
      exact ⟨rfl, hx⟩
    · rename_i he; rw [if_neg he]; exact ih h
  | x t ih =>
    intro b T cs h
    rw [lk_cons] at h ⊢
    split at h
    · simp at h
    · rename_i he; rw [if_neg he]; exact ih h
/-- The callee's blocks are among the caller's. -/
def SubB (bs : Bs) : Bs → Prop
  | [] => True
  | (b, e) :: l => (lk bs b = some e ∨ e = none) ∧ SubB bs l
theorem SubB.get {bs : Bs} : ∀ {bsC : Bs}, SubB bs bsC → ∀ {b : Nat} {q : TypeId × List AV}, lk bsC b = some (some q) → lk bs b = some (some q)
  | [], _, b, q, h => by simp [lk] at h
  | (m, e) :: l, ⟨h1, h2⟩, b, q, h => by
    rw [lk_cons] at h
    split at h
    · rename_i he
      subst he
      simp only [Option.some.injEq] at h
      subst h
      rcases h1 with h1 | h1
      · exact h1
      · cases h1
    · exact SubB.get h2 h
/-- The cells name no other numbers. -/
def ClE (p : Nat → Bool) (e : Option (TypeId × List AV)) : Prop := ∀ T cs, e = some (T, cs) → AV.numsL p cs = true
theorem ClE.none {p : Nat → Bool} : ClE p none := fun _ _ h => by cases h
theorem ClE.some {p : Nat → Bool} {T : TypeId} {cs : List AV} (h : AV.numsL p cs = true) : ClE p (some (T, cs)) := fun _ _ e => by cases e; exact h
def ClB (p : Nat → Bool) : Bs → Prop
  | [] => True
  | (_, e) :: l => ClE p e ∧ ClB p l
theorem ClB.get {p : Nat → Bool} : ∀ {bs : Bs}, ClB p bs → ∀ {b T : Nat} {cs : List AV}, lk bs b = some (some (T, cs)) → AV.numsL p cs = true
  | [], _, b, T, cs, h => by simp [lk] at h
  | (m, e) :: l, ⟨h1, h2⟩, b, T, cs, h => by
    rw [lk_cons] at h
    split at h
    · simp only [Option.some.injEq] at h
      exact h1 _ _ h
    · exact ClB.get h2 h
/-- The old words, the new ones for what p names. -/
def Env.up (E E' : Env) (p : Nat → Bool) : Env := ⟨fun b => bif p b then E'.A b else E.A b, fun b => bif p b then E'.V b else E.V b, fun b => bif p b then E'.nl b else E.nl b⟩
section
variable {E E' : Env} {p : Nat → Bool} {b : Nat}
theorem Env.up_t (h : p b = true) : (E.up E' p).A b = E'.A b ∧ (E.up E' p).V b = E'.V b ∧ (E.up E' p).nl b = E'.nl b := by simp [Env.up, h]
theorem Env.up_f (h : p b = false) : (E.up E' p).A b = E.A b ∧ (E.up E' p).V b = E.V b ∧ (E.up E' p).nl b = E.nl b := by simp [Env.up, h]
end
theorem EnOk.turn {P : Program} {E E' : Env} {dm dm' own own' : Nat → Prop} {W W' : World} {b T : Nat} {cs : List AV} (h : EnOk P E dm own W b T cs) (hA : E'.A b = E.A b) (hV : E'.V b = E.V b) (hn : E'.nl b = E.nl b) (hk : E.nl b = false → W'.heap[E.A b]? = W.heap[E.A b]?) (hc : ∀ vs, RAL E dm own W vs cs → RAL E' dm' own' W' vs cs) : EnOk P E' dm' own' W' b T cs := by
  unfold EnOk at *
  rw [hn, hA, hV]
  rcases h with h | ⟨h0, vs, sp, m, n, c, h1, h2, h3⟩
  · exact .inl h
  · exact .inr ⟨h0, vs, sp, m, n, c, (hk h0).trans h1, hc vs h2, h3⟩
theorem dom_map {bs bs' : Bs} (h : bs'.map (·.1) = bs.map (·.1)) (b : Nat) : inB bs' b = inB bs b := by
  have e : ∀ l : Bs, inB l b = (l.map (·.1)).any (fun m => Nat.beq m b) := fun l => by simp only [inB, List.any_map]; rfl
  rw [e, e, h]
theorem lk_app_some {α : Type} {w l : List (Nat × α)} {n : Nat} {v : α} (h : lk (w ++ l) n = some v) : lk w n = some v ∨ (lk w n = none ∧ lk l n = some v) := by
  rw [lk_app] at h
  cases hw : lk w n with
  | none => rw [hw] at h; exact .inr ⟨rfl, h⟩
  | some u => rw [hw] at h; exact .inl h
section
variable {P : Program} {X : Cx} {al al' : List (Nat × AV)} {bs bsC bs' bsF : Bs} {E : Env} {a : Act} {W : World} {fv x : AV} {xs : List AV} {C : Cx → Prop}
/-- The context that the callee is given. -/
def subx (X : Cx) (bs bsC : Bs) (E : Env) (W : World) : Cx := ⟨W, fun r => ownS E X.o bs r ∧ ¬ ∃ b, live E bsC b ∧ E.A b = r, 0, fun r => ∃ b, live E bsC b ∧ E.A b = r, E, kns bsC⟩
theorem HB.enter (h : HB P X bs E W) (hs : SubB bs bsC) (hcl : ClB (inB bsC) bsC) : HB P (subx X bs bsC E W) bsC E W := by
  have hl : ∀ b, live E bsC b → live E bs b := fun b ⟨⟨q, h1⟩, h2⟩ => ⟨⟨q, hs.get h1⟩, h2⟩
  have ho : ∀ r, ownS E (subx X bs bsC E W).o bsC r → ownS E X.o bs r := by
    rintro r (h1 | ⟨b, h1, rfl⟩)
    · exact h1.1
    · exact .inr ⟨b, hl b h1, rfl⟩
  have k : Keeps (ownS E X.o bs) (ownS E (subx X bs bsC E W).o bsC) W W := .of (fun _ _ _ => rfl) (Nat.le_refl _) (fun r _ h => ho r h)
  refine ⟨ExtM.refl _ _, fun r hr => ⟨h.own_lt hr.1, hr.2⟩, ⟨fun b hb => (kns_iff.1 hb).1, fun _ _ => rfl, fun _ _ => rfl, fun _ _ => rfl⟩, fun b T cs hb => ?_, fun b hb => .inr ⟨b, hb, rfl⟩, fun b b' h1 h2 => h.nd b b' (hl b h1) (hl b' h2)⟩
  refine (h.bk b T cs (hs.get hb)).turn rfl rfl rfl (fun _ => rfl) (fun vs hr => ?_)
  exact (hr.nums (dm' := dom bsC) (fun b _ hb => inB_iff.1 hb) (hcl.get hb)).keeps k (Env.le.refl _ _) (fun _ h => h)
theorem HB.back (h : HB P X bs E W) (hs : SubB bs bsC) (hdm : bs'.map (·.1) = bsC.map (·.1)) {E' : Env} {W' : World} (h' : HB P (subx X bs bsC E W) bs' E' W') (hF : FkB bs bsF) (hk : X.k.all kn = true) :
    HB P X (bs' ++ bsF) (E.up E' (inB bs')) W' ∧ (∀ v y, RA E' (dom bs') (ownS E' (subx X bs bsC E W).o bs') W' v y → RA (E.up E' (inB bs')) (dom (bs' ++ bsF)) (ownS (E.up E' (inB bs')) X.o (bs' ++ bsF)) W' v y) ∧
    (∀ v y, RA E (dom bs) (ownS E X.o bs) W v y → y.nums kn = true → RA (E.up E' (inB bs')) (dom (bs' ++ bsF)) (ownS (E.up E' (inB bs')) X.o (bs' ++ bsF)) W' v y) ∧ W.heap.size ≤ W'.heap.size ∧ (∀ (r : Nat) (o : Obj), W.heap[r]? = some o → o.isCells = false → W'.heap[r]? = some o) := by
  have hl : ∀ b, live E bsC b → live E bs b := fun b ⟨⟨q, h1⟩, h2⟩ => ⟨⟨q, hs.get h1⟩, h2⟩
  have hdom : ∀ b, inB bs' b = inB bsC b := dom_map hdm
  -- a number of the new state
  have hlive : ∀ b, live (E.up E' (inB bs')) (bs' ++ bsF) b → (inB bs' b = true ∧ live E' bs' b) ∨ (inB bs' b = false ∧ live E bs b) := by
    rintro b ⟨⟨q, h1⟩, h2⟩
    rcases lk_app_some h1 with h1 | ⟨h0, h1⟩
    · have hin : inB bs' b = true := inB_iff.2 ⟨_, h1⟩
      rw [(Env.up_t hin).2.2] at h2
      exact .inl ⟨hin, ⟨q, h1⟩, h2⟩
    · have hin : inB bs' b = false := by
        cases hq : inB bs' b with
        | false => rfl
        | true => obtain ⟨y, hy⟩ := inB_iff.1 hq; rw [h0] at hy; cases hy
      rw [(Env.up_f hin).2.2] at h2
      obtain ⟨T, cs⟩ := q
      exact .inr ⟨hin, ⟨_, (hF.get h1).1⟩, h2⟩
  have hoX : ∀ r, X.o r → (subx X bs bsC E W).o r := fun r hr => ⟨.inl hr, fun ⟨b, h1, h2⟩ => by
    rcases h.lo b (hl b h1) with h3 | h3
    · have := (h.o0 r hr).1; omega
    · rw [h2] at h3; exact (h.o0 r hr).2 h3⟩
  have hnew : ∀ r, ownS (E.up E' (inB bs')) X.o (bs' ++ bsF) r → ownS E' (subx X bs bsC E W).o bs' r := by
    rintro r (hr | ⟨b, h1, rfl⟩)
    · exact .inl (hoX r hr)
    · rcases hlive b h1 with ⟨h2, h3⟩ | ⟨h2, h3⟩
      · rw [(Env.up_t h2).1]
        exact .inr ⟨b, h3, rfl⟩
      · rw [(Env.up_f h2).1]
        refine .inl ⟨.inr ⟨b, h3, rfl⟩, fun ⟨b', h4, h5⟩ => ?_⟩
        have := h.nd b' b (hl b' h4) h3 h5
        subst this
        have hq : inB bs' b' = true := by rw [hdom]; obtain ⟨⟨q, h6⟩, _⟩ := h4; exact inB_iff.2 ⟨_, h6⟩
        rw [h2] at hq; cases hq
  have hold : ∀ r, r < W.heap.size → ownS (E.up E' (inB bs')) X.o (bs' ++ bsF) r → ownS E X.o bs r := by
    rintro r hr (ho | ⟨b, h1, rfl⟩)
    · exact .inl ho
    · rcases hlive b h1 with ⟨h2, h3⟩ | ⟨h2, h3⟩
      · rw [(Env.up_t h2).1] at hr ⊢
        rcases h'.lo b h3 with h4 | ⟨b', h4, h5⟩
        · have : W.heap.size ≤ E'.A b := h4
          omega
        · exact .inr ⟨b', hl b' h4, h5⟩
      · rw [(Env.up_f h2).1]
        exact .inr ⟨b, h3, rfl⟩
  have kw : Keeps (ownS E' (subx X bs bsC E W).o bs') (ownS (E.up E' (inB bs')) X.o (bs' ++ bsF)) W' W' := .of (fun _ _ _ => rfl) (Nat.le_refl _) (fun r _ hr => hnew r hr)
  have ko : Keeps (ownS E X.o bs) (ownS (E.up E' (inB bs')) X.o (bs' ++ bsF)) W W' :=
    .of (fun r hr hno => h'.ext.blk r hr (fun ⟨b, h1, h2⟩ => hno (.inr ⟨b, hl b h1, h2⟩))) h'.ext.size hold
  have hd1 : ∀ b, dom bs' b → dom (bs' ++ bsF) b := fun b ⟨y, hy⟩ => ⟨y, by rw [lk_app, hy]; rfl⟩
  have hd2 : ∀ b, dom bs b → dom (bs' ++ bsF) b := fun b hb => by
    obtain ⟨y, hy⟩ := (hF.dom b).1 hb
    rw [← inB_iff]
    have : inB bsF b = true := inB_iff.2 ⟨y, hy⟩
    simp only [inB, List.any_append, Bool.or_eq_true] at this ⊢
    exact .inr this
  have le1 : Env.le (dom bs') E' (E.up E' (inB bs')) := ⟨fun b hb => (Env.up_t (inB_iff.2 hb)).1, fun b hb => (Env.up_t (inB_iff.2 hb)).2.1, fun b hb => (Env.up_t (inB_iff.2 hb)).2.2⟩
  have le2 : ∀ b, kn b = true → (E.up E' (inB bs')).A b = E.A b ∧ (E.up E' (inB bs')).V b = E.V b ∧ (E.up E' (inB bs')).nl b = E.nl b := fun b hb => by
    cases hq : inB bs' b with
    | false => exact Env.up_f hq
    | true =>
      obtain ⟨h1, h2, h3⟩ := Env.up_t (E := E) (E' := E') hq
      have hkb : b ∈ kns bsC := kns_iff.2 ⟨inB_iff.1 (by rw [← hdom]; exact hq), hb⟩
      exact ⟨h1.trans (h'.en.A b hkb), h2.trans (h'.en.V b hkb), h3.trans (h'.en.nl b hkb)⟩
  have hra1 : ∀ v y, RA E' (dom bs') (ownS E' (subx X bs bsC E W).o bs') W' v y → RA (E.up E' (inB bs')) (dom (bs' ++ bsF)) (ownS (E.up E' (inB bs')) X.o (bs' ++ bsF)) W' v y := fun v y hr => hr.keeps kw le1 hd1
  have lek : Env.le (fun b => dom bs b ∧ kn b = true) E (E.up E' (inB bs')) := ⟨fun b hb => (le2 b hb.2).1, fun b hb => (le2 b hb.2).2.1, fun b hb => (le2 b hb.2).2.2⟩
  have hra2 : ∀ v y, RA E (dom bs) (ownS E X.o bs) W v y → y.nums kn = true → RA (E.up E' (inB bs')) (dom (bs' ++ bsF)) (ownS (E.up E' (inB bs')) X.o (bs' ++ bsF)) W' v y := fun v y hr hy =>
    (hr.nums (dm' := fun b => dom bs b ∧ kn b = true) (fun b hb hp => ⟨hb, hp⟩) hy).keeps ko lek (fun b hb => hd2 b hb.1)
  have hcells : ∀ (r : Nat) (o : Obj), W.heap[r]? = some o → o.isCells = false → W'.heap[r]? = some o := fun r o ho hc => by
    rw [h'.ext.blk r (Array.getElem?_eq_some_iff.1 ho).1 (fun ⟨b, h1, h2⟩ => ?_)]
    · exact ho
    · obtain ⟨T, cs, hb⟩ := h.blkOf (hl b h1)
      unfold Blk at hb
      rw [h2, ho] at hb
      simp only [Option.some.injEq] at hb
      subst hb
      cases hc
  refine ⟨⟨h.ext.step h'.ext (fun r ⟨b, h1, h2⟩ => by rw [← h2]; exact h.lo b (hl b h1)), h.o0, ?_, ?_, ?_, ?_⟩, hra1, hra2, h'.ext.size, hcells⟩
  · refine ⟨fun b hb => hd2 b (h.en.dk b hb), fun b hb => ?_, fun b hb => ?_, fun b hb => ?_⟩
    · exact (le2 b (List.all_eq_true.1 hk b hb)).1.trans (h.en.A b hb)
    · exact (le2 b (List.all_eq_true.1 hk b hb)).2.1.trans (h.en.V b hb)
    · exact (le2 b (List.all_eq_true.1 hk b hb)).2.2.trans (h.en.nl b hb)
  · intro b T cs hb
    rcases lk_app_some hb with hb | ⟨h0, hb⟩
    · have hin : inB bs' b = true := inB_iff.2 ⟨_, hb⟩
      obtain ⟨e1, e2, e3⟩ := Env.up_t (E := E) (E' := E') hin
      exact (h'.bk b T cs hb).turn e1 e2 e3 (fun _ => rfl) (fun vs hr => hr.keeps kw le1 hd1)
    · have hin : inB bs' b = false := by
        cases hq : inB bs' b with
        | false => rfl
        | true => obtain ⟨y, hy⟩ := inB_iff.1 hq; rw [h0] at hy; cases hy
      obtain ⟨e1, e2, e3⟩ := Env.up_f (E := E) (E' := E') hin
      obtain ⟨hb1, hb2⟩ := hF.get hb
      refine (h.bk b T cs hb1).turn e1 e2 e3 (fun hn => ?_) (fun vs hr => (hr.nums (dm' := fun b => dom bs b ∧ kn b = true) (fun b hb hp => ⟨hb, hp⟩) hb2).keeps ko lek (fun b hb => hd2 b hb.1))
      have hlb : live E bs b := ⟨⟨_, hb1⟩, hn⟩
      obtain ⟨T', cs', hB⟩ := h.blkOf hlb
      refine h'.ext.blk _ hB.lt (fun ⟨b', h1, h2⟩ => ?_)
      have := h.nd b' b (hl b' h1) hlb h2
      subst this
      have hq : inB bs' b' = true := by rw [hdom]; obtain ⟨⟨q, h6⟩, _⟩ := h1; exact inB_iff.2 ⟨_, h6⟩
      rw [hin] at hq; cases hq
  · intro b hb
    rcases hlive b hb with ⟨h2, h3⟩ | ⟨h2, h3⟩
    · rw [(Env.up_t h2).1]
      rcases h'.lo b h3 with h4 | ⟨b', h4, h5⟩
      · exact .inl (Nat.le_trans h.ext.size h4)
      · rw [← h5]; exact h.lo b' (hl b' h4)
    · rw [(Env.up_f h2).1]
      exact h.lo b h3
  · intro b1 b2 g1 g2 he
    have cross : ∀ {b c : Nat}, live E' bs' b → live E bs c → inB bs' c = false → E'.A b = E.A c → False := by
      intro b c h3 h4 h5 h6
      obtain ⟨T, cs, hB⟩ := h.blkOf h4
      rcases h'.lo b h3 with h7 | ⟨b', h7, h8⟩
      · have h9 : W.heap.size ≤ E'.A b := h7
        have h10 : E.A c < W.heap.size := hB.lt
        omega
      · have := h.nd b' c (hl b' h7) h4 (by rw [h8, h6])
        subst this
        have hq : inB bs' b' = true := by rw [hdom]; obtain ⟨⟨q, h6⟩, _⟩ := h7; exact inB_iff.2 ⟨_, h6⟩
        rw [h5] at hq; cases hq
    rcases hlive b1 g1 with ⟨e1, f1⟩ | ⟨e1, f1⟩ <;> rcases hlive b2 g2 with ⟨e2, f2⟩ | ⟨e2, f2⟩
    · rw [(Env.up_t e1).1, (Env.up_t e2).1] at he
      exact h'.nd b1 b2 f1 f2 he
    · rw [(Env.up_t e1).1, (Env.up_f e2).1] at he
      exact (cross f1 f2 e2 he).elim
    · rw [(Env.up_f e1).1, (Env.up_t e2).1] at he
      exact (cross f2 f1 e1 he.symm).elim
    · rw [(Env.up_f e1).1, (Env.up_f e2).1] at he
      exact h.nd b1 b2 f1 f2 he
end

end Go.Proofs.Ytmajkjkakciaiaa

set_option linter.unusedSimpArgs false
set_option linter.unusedVariables false
namespace Go.Proofs.Ytmajkjkakciaiaa
open Go.RowKit

section
variable {P : Program} {ro : Option Nat} {X : Cx} {al al' : List (Nat × AV)} {bs bsC bs' bsF bs2 : Bs} {E : Env} {a : Act} {W : World} {fv x : AV} {xs : List AV} {C : Cx → Prop}
/-! ### Function values, nil checks -/
theorem Rd.mkf {K : Nat} {caps : List Operand} {cs : List AV} {ds : List D} (he : EvL al caps cs) [hp : Pl cs ds] : Rd P X al bs [] (.makeFunc (.func K) #[] caps.toArray) (.d (.fn K ds)) := fun al2 bs2 hl hB E a W h => by
  have hr := h.evsOk (EvL.loc hl (fun x hx => by simp [Op.operands, hx]) he)
  rw [hp.h] at hr
  refine ⟨_, .d (.fn hr.unmap), fun o ho => ?_⟩
  unfold execOp
  simp [ho, Instr.makeFunc]
theorem Rd.mkfA {K : Nat} {caps : List Operand} {cs : List AV} (he : EvL al caps cs) : Rd P X al bs [] (.makeFunc (.func K) #[] caps.toArray) (.fn K cs) := fun al2 bs2 hl hB E a W h => by
  have hr := h.evsOk (EvL.loc hl (fun x hx => by simp [Op.operands, hx]) he)
  refine ⟨_, .fn hr, fun o ho => ?_⟩
  unfold execOp
  simp [ho, Instr.makeFunc]
theorem Rd.nckP {y : Operand} {b off : Nat} (hx : Evd al y (.p b off)) : Rd P X al bs [] (.nilCheck y) (.p b off) := fun al2 bs2 hl hB E a W h => by
  have hv := h.evd (hl.evd hx (by simp [Op.operands]))
  generalize hq : a.eval y = q at hv
  cases hv with
  | p hb hn => exact ⟨_, .p hb hn, fun o ho => by unfold execOp; simp [ho, hq]⟩
theorem Rd.nckE {y : Operand} {row : List D} {off : Nat} (hx : Evd al y (.e row off)) : Rd P X al bs [] (.nilCheck y) (.e row off) := fun al2 bs2 hl hB E a W h => by
  have hv := h.evd (hl.evd hx (by simp [Op.operands]))
  generalize hq : a.eval y = q at hv
  cases hv with
  | d hv =>
    cases hv with
    | pe h1 h2 h3 h4 => exact ⟨_, .d (.pe h1 h2 h3 h4), fun o ho => by unfold execOp; simp [ho, hq]⟩

/-! ### Slots and blocks told otherwise -/
/-- A variable that is not changed any more is data. -/
theorem HdE.pdata (h : HdE P X al bs E a W) {b : Nat} {T : TypeId} {ds : List D} {v : Value} {off : Nat} (hb : lk bs b = some (some (T, ds.map .d))) (hv : RA E (dom bs) (ownS E X.o bs) W v (.p b off)) : RD (ownS E X.o ((b, none) :: bs)) W v (.pe ds off) := by
  cases hv with
  | p hb' hn =>
    rcases h.bk b T _ hb with ⟨h0, h1, h2⟩ | ⟨h0, vs, sp, m', n, c', h1, h2, h3, h4, h5, h6, h7, h8⟩
    · rw [hn] at h0; cases h0
    · have hl : live E bs b := ⟨⟨_, hb⟩, h0⟩
      have ho : ∀ r, ownS E X.o ((b, none) :: bs) r → ownS E X.o bs r := by
        rintro r (ho | ⟨b', hl, rfl⟩)
        · exact .inl ho
        · exact .inr ⟨b', (live_none hl).1, rfl⟩
      have kk : Keeps (ownS E X.o bs) (ownS E X.o ((b, none) :: bs)) W W := .of (fun r _ _ => rfl) (Nat.le_refl _) (fun r _ h => ho r h)
      have := RD.pe (own := ownS E X.o ((b, none) :: bs)) (W := W) (r := E.A b) (o := 0) (off := off) (vs := vs) (row := ds) h1.lt ?_ (h1.rangeIn 0 vs (fun j hj => by rw [Nat.zero_add, List.getElem?_append_left hj])) (h2.unmap.keeps kk)
      · rw [Nat.zero_add] at this
        exact this
      · rintro (hh | ⟨b', hl', he⟩)
        · have h6 := h.o0 _ hh
          rcases h.lo b hl with h7 | h7
          · omega
          · exact h6.2 h7
        · exact (live_none hl').2 (h.nd b' b (live_none hl').1 hl he)
theorem G.frzP {c : Act → World → Prop} {b : Nat} {T : TypeId} {ds : List D} (n : Nat) (h : G P X ((n, .d (.pe ds 0)) :: al) ((b, none) :: bs) c) (hx : lk al n = some (.p b 0) := by rfl) (hb : lk bs b = some (some (T, ds.map .d)) := by rfl) : G P X al bs c := fun E a W hh => by
  obtain ⟨v, e1, e2⟩ := hh.sl n _ hx
  exact G.slots (al' := al) (hh.drop b) e1 (.d (hh.pdata hb e2)) h
/-- Other numbers. -/
theorem G.ren {c : Act → World → Prop} (π : List (Nat × Nat)) (h : G P X al' bs' c) (hs : SubR π al al') (hb : BsR bs π π bs') (hd : (π.map (·.2)).Nodup) (hk : X.k.all (fun b => (lk bs' b).isSome && Nat.beq ((lk π b).getD 0) b) = true) : G P X al bs c := fun E a W hh => h _ a W (hh.ren π hs hb hd hk)
/-- Fewer blocks, fewer slots. -/
def SubA (p : Nat → Bool) (al : List (Nat × AV)) : List (Nat × AV) → Prop
  | [] => True
  | (n, x) :: l => (lk al n = some x ∧ x.nums p = true) ∧ SubA p al l
theorem SubA.get {p : Nat → Bool} : ∀ {al' : List (Nat × AV)}, SubA p al al' → ∀ {n : Nat} {x : AV}, lk al' n = some x → lk al n = some x ∧ x.nums p = true
  | [], _, n, x, h => by simp [lk] at h
  | (m, y) :: l, ⟨h1, h2⟩, n, x, h => by
    rw [lk_cons] at h
    split at h
    · rename_i he
      subst he
      simp only [Option.some.injEq] at h
      subst h
      exact h1
    · exact SubA.get h2 h
theorem HB.res (h : HB P X bs E W) (hs : SubB bs bs') (hcl : ClB (inB bs') bs') (hk : X.k.all (inB bs') = true) : HB P X bs' E W ∧ (∀ v y, RA E (dom bs) (ownS E X.o bs) W v y → y.nums (inB bs') = true → RA E (dom bs') (ownS E X.o bs') W v y) := by
  have hl : ∀ b, live E bs' b → live E bs b := fun b ⟨⟨q, h1⟩, h2⟩ => ⟨⟨q, hs.get h1⟩, h2⟩
  have ho : ∀ r, ownS E X.o bs' r → ownS E X.o bs r := by
    rintro r (h1 | ⟨b, h1, rfl⟩)
    · exact .inl h1
    · exact .inr ⟨b, hl b h1, rfl⟩
  have k : Keeps (ownS E X.o bs) (ownS E X.o bs') W W := .of (fun _ _ _ => rfl) (Nat.le_refl _) (fun r _ h => ho r h)
  refine ⟨⟨h.ext, h.o0, ⟨fun b hb => inB_iff.1 (List.all_eq_true.1 hk b hb), h.en.A, h.en.V, h.en.nl⟩, fun b T cs hb => ?_, fun b hb => h.lo b (hl b hb), fun b b' h1 h2 => h.nd b b' (hl b h1) (hl b' h2)⟩, fun v y hr hy => (hr.nums (dm' := dom bs') (fun b _ hb => inB_iff.1 hb) hy).keeps k (Env.le.refl _ _) (fun _ h => h)⟩
  refine (h.bk b T cs (hs.get hb)).turn rfl rfl rfl (fun _ => rfl) (fun vs hr => ?_)
  exact (hr.nums (dm' := dom bs') (fun b _ hb => inB_iff.1 hb) (hcl.get hb)).keeps k (Env.le.refl _ _) (fun _ h => h)
theorem HdE.res (h : HdE P X al bs E a W) (hs : SubB bs bs') (hcl : ClB (inB bs') bs') (hk : X.k.all (inB bs') = true) (ha : SubA (inB bs') al al') : HdE P X al' bs' E a W := by
  obtain ⟨h1, h2⟩ := h.hb.res hs hcl hk
  exact h1.hd h.df h.sz (fun n x hn => let ⟨g1, g2⟩ := ha.get hn; let ⟨v, e1, e2⟩ := h.sl n x g1; ⟨v, e1, h2 v x e2 g2⟩)
theorem G.res {c : Act → World → Prop} (h : G P X al' bs' c) (hs : SubB bs bs') (hcl : ClB (inB bs') bs') (hk : X.k.all (inB bs') = true) (ha : SubA (inB bs') al al') : G P X al bs c := fun E a W hh => h E a W (hh.res hs hcl hk ha)
/-- At the end of a loop's round: the state is a member of the family, with fewer words. -/
theorem G.atR {α : Type} {I : α → List (Nat × AV) × Bs} {Φ : α → Prop} (z : α) (hΦ : Φ z) (hs : SubB bs (I z).2) (hcl : ClB (inB (I z).2) (I z).2) (hk : X.k.all (inB (I z).2) = true) (ha : SubA (inB (I z).2) al (I z).1) : G P X al bs (At P X I Φ) := fun E a W hh => ⟨z, E, hΦ, hh.res hs hcl hk ha⟩

/-! ### Calls -/
theorem HdE.cv {ops : Array Oper} {args : List Operand} {ats : Array TypeId} {y : Operand} {Q : Exit → Act → World → Prop} {d : Nat} (hh : HdE P X al bs E a W) (hf : FvB P C fv xs bsC x bs') (hC : C (subx X bs bsC E W)) (hfx : Evd al y fv) (hax : EvL al args xs) (hnf : fv.nums (inB bsC) = true) (hna : AV.numsL (inB bsC) xs = true) (hs : SubB bs bsC) (hcl : ClB (inB bsC) bsC) (hdm : bs'.map (·.1) = bsC.map (·.1)) (hF : FkB bs bsF) (hA : Fk al al') (hk : X.k.all kn = true)
    (o : Oper) (ho : o.op = .call { callee := .value y, args := args.toArray, argTypes := ats }) (hdst : o.dst = some d) (hd : Nat.blt d X.N = true) (K : Act → World → Prop) (hK : ∀ E' a' W', HdE P X ((d, x) :: al') (bs' ++ bsF) E' a' W' → K a' W') : WO P ro o a W K Q := by
  refine WO.of (by rw [ho]; intro c h; cases h) ?_
  have hent := hh.hb.enter hs hcl
  have ho' : ∀ r, ownS E (subx X bs bsC E W).o bsC r → ownS E X.o bs r := by
    rintro r (h1 | ⟨b, ⟨⟨q, h1⟩, h2⟩, rfl⟩)
    · exact h1.1
    · exact .inr ⟨b, ⟨⟨q, hs.get h1⟩, h2⟩, rfl⟩
  have k0 : Keeps (ownS E X.o bs) (ownS E (subx X bs bsC E W).o bsC) W W := .of (fun _ _ _ => rfl) (Nat.le_refl _) (fun r _ h => ho' r h)
  have hrf := ((hh.evd hfx).nums (dm' := dom bsC) (fun b _ hb => inB_iff.1 hb) hnf).keeps k0 (Env.le.refl _ _) (fun _ h => h)
  have hra := ((hh.evsOk hax).nums (dm' := dom bsC) (fun b _ hb => inB_iff.1 hb) hna).keeps k0 (Env.le.refl _ _) (fun _ h => h)
  have hcall := hf (subx X bs bsC E W) (a.eval y) (args.map a.eval) hC rfl hent hrf hra
  have key : ∀ {e : Ending} {W' : World}, Left P (subx X bs bsC E W) x bs' e W' → ∃ u, e = .returned u ∧ K (a.put (some d) u) W' := by
    rintro e W' ⟨u, E', rfl, h1, h2⟩
    obtain ⟨g1, g2, g3, g4, g5⟩ := hh.hb.back hs hdm h1 hF hk
    refine ⟨u, rfl, hK _ _ W' (HdE.put (g1.hd (al := al') (a := a) ?_ hh.sz (fun n z hn => ?_)) (g2 u x h2) (by simpa using hd))⟩
    · obtain ⟨Ds, d1, d2, d3⟩ := hh.df
      exact ⟨Ds, d1, d2, fun D hD => ⟨(d3 D hD).1, g5 _ _ (d3 D hD).2 rfl⟩⟩
    · obtain ⟨z', hz1, hz2⟩ := hA.get hn
      obtain ⟨v, hv1, hv2⟩ := hh.sl n z' hz1
      rcases hz2 with rfl | ⟨rfl, hz3⟩
      · exact ⟨v, hv1, .any⟩
      · exact ⟨v, hv1, g3 v z hv2 hz3⟩
  unfold execOp
  simp only [ho]
  rcases hcall with ⟨K', caps, hq, hbd, hcalls⟩ | ⟨l, hq, fn, tmps, asg, body, hy, hR⟩
  · have hrun : (do let dd ← resolve a.eval { callee := .value y, args := args.toArray, argTypes := ats } o.type; invoke dd.target dd.args : Sem Next).run P W = .ok (.enter K' ((args.map a.eval).toArray ++ caps)) W := by
      simp [resolve, Deferred.ofValue, hq, invoke, callFunc_enter hbd]
    rw [hrun, Oper.uponIn_enter]
    refine ⟨(fun hq => by cases hq), (callsIn_wide (n := 0)).2 (hcalls.mono fun e W' hl => ?_)⟩
    obtain ⟨u, rfl, hu⟩ := key hl
    dsimp only
    rw [hdst]
    exact hu
  · have hrun : (do let dd ← resolve a.eval { callee := .value y, args := args.toArray, argTypes := ats } o.type; invoke dd.target dd.args : Sem Next).run P W = .ok (.round l fn tmps asg body) W := by
      have hy' : (Instr.yield l (args.map a.eval).toArray).run P W = .ok (.round l fn tmps asg body) W := hy
      simp [resolve, Deferred.ofValue, hq, invoke]
      exact hy'
    rw [hrun, Oper.uponIn_round]
    refine ⟨(fun hq => by cases hq), ⟨trivial, fun c cs hr => ?_⟩⟩
    obtain ⟨e, W', hl, hs⟩ := hR.2 c cs hr
    refine ⟨e, W', ?_, hs⟩
    obtain ⟨u, rfl, hu⟩ := key hl
    dsimp only
    rw [hdst]
    exact hu
section
variable {ops : Array Oper} {Q : Exit → Act → World → Prop} {rest : List Oper} {d ty : Nat} {ps : String} {af : Array Edge} {args : List Operand} {ats : Array TypeId} {y : Operand}
theorem G.cvC (hf : FvB P C fv xs bsC x bs') (hCc : Cc C) (hC : C X) (h : G P X ((d, x) :: al') bs2 (WL P ro ops Q rest)) (hfx : Evd al y fv) (hax : EvL al args xs) (hs : SubB bs bsC) (hcl : ClB (inB bsC) bsC) (hF : FkB bs bsF) (hA : Fk al al') (hb2 : bs' ++ bsF = bs2) (hnf : fv.nums (inB bsC) = true) (hna : AV.numsL (inB bsC) xs = true) (hdm : bs'.map (·.1) = bsC.map (·.1)) (hk : X.k.all (fun b => kn b && (!(Nat.ble 100 b) || inB bsC b)) = true) (hd : Nat.blt d X.N = true) :
    G P X al bs (WL P ro ops Q ({ dst := some d, op := .call { callee := .value y, args := args.toArray, argTypes := ats }, type := ty, pos := ps, after := af, guard := none } :: rest)) := fun E a W hh => by
  subst hb2
  have hk1 : X.k.all kn = true := by
    rw [List.all_eq_true] at hk ⊢
    intro b hb
    have := hk b hb
    simp only [Bool.and_eq_true] at this
    exact this.1
  refine WL.plain rfl (fun K hK => hh.cv (ops := ops) hf ?_ hfx hax hnf hna hs hcl hdm hF hA hk1 _ rfl rfl hd K (fun E' a' W' h' => hK _ _ (h E' a' W' h')))
  refine hCc.sub P X _ bs E W hC hh.hb ⟨rfl, rfl, fun r ⟨b, h1, h2⟩ => ?_, fun r hr => hr.1, fun b hb h1 => ?_⟩
  · obtain ⟨⟨q, h3⟩, h4⟩ := h1
    exact ⟨b, ⟨⟨q, hs.get h3⟩, h4⟩, h2⟩
  · have := List.all_eq_true.1 hk b hb
    simp only [Bool.and_eq_true, Bool.or_eq_true, Bool.not_eq_true', h1, Bool.true_eq_false, false_or] at this
    exact kns_iff.2 ⟨inB_iff.1 this.2, this.1⟩
theorem G.cv (hf : FvB P CT fv xs bsC x bs') (h : G P X ((d, x) :: al') bs2 (WL P ro ops Q rest)) (hfx : Evd al y fv) (hax : EvL al args xs) (hs : SubB bs bsC) (hcl : ClB (inB bsC) bsC) (hF : FkB bs bsF) (hA : Fk al al') (hb2 : bs' ++ bsF = bs2) (hnf : fv.nums (inB bsC) = true) (hna : AV.numsL (inB bsC) xs = true) (hdm : bs'.map (·.1) = bsC.map (·.1)) (hk : X.k.all kn = true) (hd : Nat.blt d X.N = true) :
    G P X al bs (WL P ro ops Q ({ dst := some d, op := .call { callee := .value y, args := args.toArray, argTypes := ats }, type := ty, pos := ps, after := af, guard := none } :: rest)) := fun E a W hh => by
  subst hb2
  exact WL.plain rfl (fun K hK => hh.cv (ops := ops) hf trivial hfx hax hnf hna hs hcl hdm hF hA hk _ rfl rfl hd K (fun E' a' W' h' => hK _ _ (h E' a' W' h')))
/-- A call of a function value that is data and takes data: in any region. -/
theorem LT.cd {K : Nat} {ds es : List D} {r : D} (hf : Fn P K (ds ++ es) (· = r)) (hfx : Evd al y (.d (.fn K es))) (he : EvL al args xs) (hp : Pl xs ds) (hd : Nat.blt d X.N = true) : LT P X al bs (.call { callee := .value y, args := args.toArray, argTypes := ats }) (some d) [] [(d, .d r)] [] := fun ro al2 bs2 hL hB E a W hh o ho hdst K' Q hK => by
  refine WO.of (by rw [ho]; intro c h; cases h) ?_
  have hm : ∀ z ∈ args, z ∈ (Op.call { callee := .value y, args := args.toArray, argTypes := ats }).operands.toList := fun z hz => by simp [Op.operands, Call.operands, hz]
  have hv := hh.evd (hL.evd hfx (by simp [Op.operands, Call.operands]))
  have hr := hh.evsOk (EvL.loc hL hm he)
  rw [hp.h] at hr
  generalize hq : a.eval y = q at hv
  cases hv with
  | d hv =>
    cases hv with
    | @fn _ us _ hc =>
      unfold execOp
      have hrun : (do let dd ← resolve a.eval { callee := .value y, args := args.toArray, argTypes := ats } o.type; invoke dd.target dd.args : Sem Next).run P W = .ok (.enter K ((args.map a.eval) ++ us).toArray) W := by
        simp [resolve, Deferred.ofValue, hq, invoke, callFunc_enter hf.1]
      simp only [ho]
      rw [hrun, Oper.uponIn_enter]
      refine ⟨(fun hq => by cases hq), (callsIn_wide (n := 0)).2 ((hf.2 (ownS E X.o bs2) W _ (fun r ho => hh.own_lt ho) (hr.unmap.app hc)).mono ?_)⟩
      rintro e W' ⟨v, z, rfl, rfl, hE, hv⟩
      dsimp only
      rw [hdst]
      exact hK E _ W' ((hh.grow hE).put (.d hv) (by simpa using hd))
end

/-! ### Functions that are given blocks -/
def alA : Nat → List AV → List (Nat × AV)
  | _, [] => []
  | n, x :: xs => (n, x) :: alA (n + 1) xs
theorem lk_alA {k : Nat} {x : AV} : ∀ (xs : List AV) (m : Nat), lk (alA m xs) k = some x → m ≤ k ∧ xs[k - m]? = some x
  | [], m, h => by simp [alA, lk] at h
  | y :: xs, m, h => by
    simp only [alA] at h
    rw [lk_cons] at h
    split at h
    · rename_i he
      subst he
      simp only [Option.some.injEq] at h
      subst h
      exact ⟨Nat.le_refl _, by simp⟩
    · rename_i he
      obtain ⟨h1, h2⟩ := lk_alA xs (m + 1) h
      refine ⟨by omega, ?_⟩
      rw [show k - m = (k - (m + 1)) + 1 by omega, List.getElem?_cons_succ]
      exact h2
/-- What such a function owes where it ends. -/
def finB (P : Program) (fn : Func) (X : Cx) (x : AV) (bs' : Bs) : Exit → Act → World → Prop := bodyPostM (FR none) 0 P fn (Left P X x bs')
theorem HB.cN (h : HB P X bs E W) (N : Nat) : HB P { X with N := N } bs E W := ⟨h.ext, h.o0, h.en, h.bk, h.lo, h.nd⟩
theorem HB.unN {N : Nat} (h : HB P { X with N := N } bs E W) : HB P X bs E W := ⟨h.ext, h.o0, h.en, h.bk, h.lo, h.nd⟩
theorem FnB.of {K : Nat} {fn : Func} {c : Code} {N : Nat} {ks : List Nat} (hCc : Cc C) (hf : P.funcs[K]? = some fn) (hN : fn.ntmps = N) (hb : fn.body = some c) (hn : fbody P K = true)
    (h : ∀ w o m E0, C ⟨w, o, N, m, E0, ks⟩ → G P ⟨w, o, N, m, E0, ks⟩ al bs (Wp P none c (finB P fn ⟨w, o, N, m, E0, ks⟩ x bs'))) (hl : Nat.ble xs.length N = true := by rfl) (hal : alA 0 xs = al := by simp only [alA, Nat.reduceAdd]; rfl) (hks : kns bs = ks := by rfl) : FnB P C K xs bs x bs' := by
  subst hN
  subst hal
  subst hks
  simp only [Nat.ble_eq] at hl
  refine ⟨hn, fun X vs hC hk hh hv => ?_⟩
  have hlen := hv.len
  have h0 := h X.w X.o X.m X.E0 (by have := hCc.N X fn.ntmps hC; rw [← hk]; exact this)
  have hX : ({ X with N := fn.ntmps } : Cx) = ⟨X.w, X.o, fn.ntmps, X.m, X.E0, kns bs⟩ := by rw [← hk]
  rw [← hX] at h0
  refine Calls.mono (R := Left P { X with N := fn.ntmps } x bs') ((callsIn_wide (n := 0)).1 (callsIn_of_wp_marks (F := FR none) hf hb trivial ?_)) (fun e W' ⟨u, E', h1, h2, h3⟩ => ⟨u, E', h1, h2.unN, h3⟩)
  refine h0 X.E0 _ X.w ((hh.cN fn.ntmps).hd (.nil rfl) ?_ (fun n y hy => ?_))
  · simp only [Array.size_append, List.size_toArray, Array.size_replicate]
    omega
  · obtain ⟨_, h1⟩ := lk_alA xs 0 hy
    rw [Nat.sub_zero] at h1
    obtain ⟨v, h2, h3⟩ := hv.get _ y h1
    refine ⟨v, ?_, h3⟩
    have h4 := (List.getElem?_eq_some_iff.1 h2).1
    rw [Array.getElem?_append_left (by simpa using h4)]
    simpa using h2
section
variable {fn : Func}
theorem G.finB0 (hr : fn.results = #[]) (hs : SubB bs bs') (hcl : ClB (inB bs') bs') (hk : X.k.all (inB bs') = true) : G P X al bs (finB P fn X .any bs' .ret) := fun E a W hh => hh.leave fun a' W' _ hh => by
  refine ⟨.tuple #[], ?_, _, E, rfl, (hh.hb.res hs hcl hk).1, .any⟩
  simp [results_rdv, hr]
theorem G.finB1 {n : Nat} (hx : lk al n = some x) (hr : fn.results = #[.tmp n]) (hn : x.nums (inB bs') = true) (hs : SubB bs bs') (hcl : ClB (inB bs') bs') (hk : X.k.all (inB bs') = true) : G P X al bs (finB P fn X x bs' .ret) := fun E a W hh => hh.leave fun a' W' _ hh => by
  obtain ⟨v, h1, h2⟩ := hh.sl n x hx
  obtain ⟨h3, h4⟩ := hh.hb.res hs hcl hk
  refine ⟨v, ?_, _, E, rfl, h3, h4 v x h2 hn⟩
  have : a'.tmps.getD n undef = v := by rw [Array.getD_eq_getD_getElem?, h1]; rfl
  simp [results_rdv, hr, rdv, this]
theorem G.finB2 {n m : Nat} {y : AV} (hx : lk al n = some x) (hy : lk al m = some y) (hr : fn.results = #[.tmp n, .tmp m]) (hn : AV.numsL (inB bs') [x, y] = true) (hs : SubB bs bs') (hcl : ClB (inB bs') bs') (hk : X.k.all (inB bs') = true) : G P X al bs (finB P fn X (.tup [x, y]) bs' .ret) := fun E a W hh => hh.leave fun a' W' _ hh => by
  obtain ⟨v, h1, h2⟩ := hh.sl n x hx
  obtain ⟨u, g1, g2⟩ := hh.sl m y hy
  obtain ⟨h3, h4⟩ := hh.hb.res hs hcl hk
  simp only [AV.numsL, Bool.and_eq_true, Bool.and_true] at hn
  refine ⟨.tuple #[v, u], ?_, _, E, rfl, h3, .tup (.cons (h4 v x h2 hn.1) (.cons (h4 u y g2 hn.2) .nil))⟩
  have e1 : a'.tmps.getD n undef = v := by rw [Array.getD_eq_getD_getElem?, h1]; rfl
  have e2 : a'.tmps.getD m undef = u := by rw [Array.getD_eq_getD_getElem?, g1]; rfl
  simp [results_rdv, hr, rdv, e1, e2]
theorem G.finBn (h : G P X al bs (finB P fn X x bs' .ret)) : G P X al bs (finB P fn X x bs' .normal) := h
end
theorem G.finn {fn : Func} {R : D → Prop} (h : G P X al bs (fin P fn X R .ret)) : G P X al bs (fin P fn X R .normal) := h
end

theorem numsL_d (p : Nat → Bool) : ∀ ds : List D, AV.numsL p (ds.map .d) = true
  | [] => rfl
  | d :: ds => numsL_d p ds
theorem renL_d (π : List (Nat × Nat)) : ∀ ds : List D, AV.renL π (ds.map .d) = ds.map .d
  | [] => rfl
  | d :: ds => by
    show AV.d d :: AV.renL π (ds.map .d) = _
    rw [renL_d π ds]
    rfl
theorem kbL_d (π : List (Nat × Nat)) : ∀ ds : List D, AV.kbL π (ds.map .d) = true
  | [] => rfl
  | d :: ds => kbL_d π ds
theorem kns_eq {bs : Bs} {l ks : List Nat} (h : bs.map (·.1) = l) (h2 : l.filter kn = ks) : kns bs = ks := by unfold kns; rw [h]; exact h2
/-! ### A closure's state -/
/-- The blocks from 100 on: even numbers are variables, odd ones rows. -/
def Is (c : Nat → Option (TypeId × List AV)) : Bs := [(100, c 0), (101, c 1), (102, c 2), (103, c 3), (104, c 4), (105, c 5)]
def inI : Nat → Bool := inB (Is fun _ => none)
theorem Is.cl {c : Nat → Option (TypeId × List AV)} (h : ∀ j, ClE inI (c j)) : ClB (inB (Is c)) (Is c) := ⟨h 0, h 1, h 2, h 3, h 4, h 5, trivial⟩

end Go.Proofs.Ytmajkjkakciaiaa

set_option linter.unusedSimpArgs false
set_option linter.unusedVariables false
namespace Go.Proofs.Ytmajkjkakciaiaa
open Go.RowKit

/-- The function that an iterator is called with. -/
def yv (l : Nat) : AV := .d (.s (.func (.yield l) #[] #[]))
/-- Function value fd, called with a function, calls that with the elements of xs, one after the other, as long as it is told to go on. -/
def Iter (P : Program) (fd : D) (xs : List D) : Prop :=
  ∀ (C : Cx → Prop), Cc C → ∀ (l : Nat) (c : Nat → Nat → Option (TypeId × List AV)), (∀ i j, ClE inI (c i j)) → (∀ i x, xs[i]? = some x → FvB P C (yv l) [.d x] (Is (c i)) (.d (.s (.bool true))) (Is (c (i + 1)))) → FvB P C (.d fd) [yv l] (Is (c 0)) .any (Is (c xs.length))

/-- The context has come out of a state: what lay there lies there. -/
structure Since (own0 : Nat → Prop) (W0 : World) (EE : Env) (X : Cx) : Prop where
  rg : ∀ r, r < W0.heap.size → ¬ own0 r → ∀ (o : Nat) (vs : List Value), W0.rangeAt r o vs → X.w.rangeAt r o vs
  size : W0.heap.size ≤ X.w.heap.size
  own : ∀ r, r < W0.heap.size → X.o r ∨ X.m r → own0 r
  k : ∀ b, b ∈ [100, 102, 104] → b ∈ X.k ∧ X.E0.A b = EE.A b ∧ X.E0.V b = EE.V b ∧ X.E0.nl b = EE.nl b
  ob : ∀ (r : Nat) (ob : Obj), W0.heap[r]? = some ob → ob.isCells = false → X.w.heap[r]? = some ob ∧ ¬ X.m r
theorem HB.nocells {P : Program} {X : Cx} {bs : Bs} {E : Env} {W : World} (h : HB P X bs E W) {r : Nat} {ob : Obj} (ho : W.heap[r]? = some ob) (hc : ob.isCells = false) : ¬ ∃ b, live E bs b ∧ E.A b = r := fun ⟨b, h1, h2⟩ => by
  obtain ⟨T, cs, hb⟩ := h.blkOf h1
  unfold Blk at hb
  rw [h2, ho] at hb
  simp only [Option.some.injEq] at hb
  subst hb
  cases hc
theorem Since.c {own0 : Nat → Prop} {W0 : World} {EE : Env} : Cc (Since own0 W0 EE) := by
  refine ⟨fun P X X' bs E W h hb s => ?_, fun X N h => ⟨h.rg, h.size, h.own, h.k, h.ob⟩⟩
  have ho : ∀ r, r < W0.heap.size → ownS E X.o bs r → own0 r := by
    rintro r hr (h1 | ⟨b, h1, rfl⟩)
    · exact h.own r hr (.inl h1)
    · rcases hb.lo b h1 with h2 | h2
      · have := h.size; omega
      · exact h.own _ hr (.inr h2)
  refine ⟨fun r hr hn o vs hv => ?_, ?_, fun r hr hq => ?_, fun b hb' => ?_, fun r ob h1 h2 => ?_⟩
  · rw [s.w]
    exact rangeAt.keeps (h.rg r hr hn o vs hv) (hb.ext.blk r (Nat.lt_of_lt_of_le hr h.size) (fun hm => hn (h.own r hr (.inr hm))))
  · rw [s.w]; exact Nat.le_trans h.size hb.ext.size
  · rcases hq with hq | hq
    · exact ho r hr (s.o r hq)
    · obtain ⟨b, h1, h2⟩ := s.m r hq
      exact ho r hr (.inr ⟨b, h1, h2⟩)
  · obtain ⟨k1, k2, k3, k4⟩ := h.k b hb'
    refine ⟨s.k b k1 ?_, ?_, ?_, ?_⟩
    · simp only [List.mem_cons, List.not_mem_nil, or_false] at hb'
      rcases hb' with rfl | rfl | rfl <;> rfl
    · rw [s.E0]; exact (hb.en.A b k1).trans k2
    · rw [s.E0]; exact (hb.en.V b k1).trans k3
    · rw [s.E0]; exact (hb.en.nl b k1).trans k4
  · obtain ⟨h3, h4⟩ := h.ob r ob h1 h2
    have h5 : W.heap[r]? = some ob := (hb.ext.blk r (Array.getElem?_eq_some_iff.1 h3).1 h4).trans h3
    refine ⟨by rw [s.w]; exact h5, fun hm => hb.nocells h5 h2 (s.m r hm)⟩
/-- Where a round ends. -/
def rnd (P : Program) (X : Cx) (bs' : Bs) : Exit → Act → World → Prop
  | .normal, _, W => ∃ E', HB P X bs' E' W
  | _, _, _ => False
theorem kns_Is (c : Nat → Option (TypeId × List AV)) : kns (Is c) = [100, 102, 104] := by
  have h : kns (Is c) = [100, 101, 102, 103, 104, 105].filter kn := rfl
  rw [h]
  decide
theorem G.rndE {P : Program} {X : Cx} {al : List (Nat × AV)} {bs bs' : Bs} (hs : SubB bs bs') (hcl : ClB (inB bs') bs') (hk : X.k.all (inB bs') = true) : G P X al bs (rnd P X bs' .normal) := fun E a W hh => ⟨E, (hh.hb.res hs hcl hk).1⟩
def knI (b : Nat) : Bool := Nat.beq b 100 || Nat.beq b 102 || Nat.beq b 104
/-- The blocks of a state, and objects of the machine's own, are handed to a new context; one such object is replaced. -/
theorem HdE.rebase {P : Program} {X : Cx} {al : List (Nat × AV)} {bs : Bs} {E : Env} {a : Act} {W : World} (h : HdE P X al bs E a W) {l : Nat} {ob ob' : Obj} (hl : W.heap[l]? = some ob) (hc : ob.isCells = false) (hd : ∀ Ds : List Nat, a.defers = Ds.map (fun D => { target := .collected D, args := #[] }) → l ∉ Ds) :
    HdE P ⟨W.putObj l ob', X.o, X.N, fun r => (∃ b, live E bs b ∧ E.A b = r) ∨ (X.w.heap.size ≤ r ∧ r ≠ l) ∨ (X.m r ∧ r ≠ l), E, X.k⟩ al bs E a (W.putObj l ob') := by
  have hg := grownBy_putObj' W l ob'
  have k : Keeps (ownS E X.o bs) (ownS E X.o bs) W (W.putObj l ob') := ⟨fun r hr _ o vs h1 => rangeAt.nocells hl hc hg hr h1, hg.size, fun _ _ h => h⟩
  refine ⟨ExtM.refl _ _, fun r hr => ⟨Nat.lt_of_lt_of_le (h.o0 r hr).1 (Nat.le_trans h.ext.size hg.size), fun hq => ?_⟩, ?_, h.sz, ⟨h.en.dk, fun _ _ => rfl, fun _ _ => rfl, fun _ _ => rfl⟩, fun n x hn => ?_, fun b T cs hb => ?_, fun b hb => .inr (.inl ⟨b, hb, rfl⟩), h.nd⟩
  · rcases hq with ⟨b, h1, h2⟩ | hq | hq
    · rcases h.lo b h1 with h3 | h3
      · have := (h.o0 r hr).1; omega
      · rw [h2] at h3; exact (h.o0 r hr).2 h3
    · have := (h.o0 r hr).1; omega
    · exact (h.o0 r hr).2 hq.1
  · obtain ⟨Ds, d1, d2, d3⟩ := h.df
    have hn := hd Ds d1
    refine ⟨Ds, d1, d2, fun D hD => ?_⟩
    have hne : D ≠ l := fun e => hn (by rw [← e]; exact hD)
    refine ⟨.inr (.inr ?_), (World.putObj_heap_other hne).trans (d3 D hD).2⟩
    rcases (d3 D hD).1 with h1 | h1
    · exact .inl ⟨h1, hne⟩
    · exact .inr ⟨h1, hne⟩
  · obtain ⟨v, h1, h2⟩ := h.sl n x hn
    exact ⟨v, h1, h2.keeps k (Env.le.refl _ _) (fun _ h => h)⟩
  · exact (h.bk b T cs hb).keeps k (Env.le.refl _ _) (fun _ h => h) ⟨_, hb⟩ (fun hn => hg.block _ (h.live_lt ⟨⟨_, hb⟩, hn⟩) (fun e => h.hb.nocells hl hc ⟨b, ⟨⟨_, hb⟩, hn⟩, (Option.some.inj e).symm ▸ rfl⟩))
/-- The record of the loop. -/
abbrev rec0 (fn : FuncId) (a : Act) (ps : Array Tmp) (assign body : Code) (D : Nat) (st : LoopState) : Loop := { state := st, pending := none, fn, tmps := a.tmps, params := ps, assign, body, defers := D }
/-- A round, from what the body comes to. -/
theorem round_ok {P : Program} {fn : FuncId} {a0 : Act} {p : Tmp} {assign body : Code} {Dn l : Nat} {X2 : Cx} {bsI bs' : Bs} {alx : List (Nat × AV)} {N : Nat} {a1 : Act}
    (hob : X2.w.heap[l]? = some (.loop (rec0 fn a0 #[p] assign body Dn .ready))) (hlm : ¬ X2.m l) (hhx : HdE P ⟨X2.w, X2.o, N, X2.m, X2.E0, X2.k⟩ alx bsI X2.E0 a1 X2.w) (hd0 : a1.defers = [])
    (hround : ∀ K : Act → World → Prop, (∀ al2 bs2, (∀ w o m E0, G P ⟨w, o, N, m, E0, X2.k⟩ al2 bs2 (Wp P (some l) body (rnd P ⟨w, o, N, m, E0, X2.k⟩ bs'))) → G P ⟨X2.w, X2.o, N, X2.m, X2.E0, X2.k⟩ al2 bs2 K) → G P ⟨X2.w, X2.o, N, X2.m, X2.E0, X2.k⟩ alx bsI (Wp P (some l) assign (Exit.then K (fun _ _ _ => False)))) :
    RoundIn (FR none) 0 P l fn a1.tmps assign body X2.w (Left P X2 (.d (.s (.bool true))) bs') := by
  refine roundIn_of_wpIn (F := FR none) trivial ?_
  have ha1 : a1 = { tmps := a1.tmps, defers := [] } := by
    cases a1
    simp only at hd0
    subst hd0
    rfl
  rw [← ha1]
  refine hround _ ?_ X2.E0 a1 X2.w hhx
  intro al2 bs2 hbody E1 a1' w1 hh1
  have hlw : w1.heap[l]? = some (.loop (rec0 fn a0 #[p] assign body Dn .ready)) := (hh1.ext.blk l (Array.getElem?_eq_some_iff.1 hob).1 hlm).trans hob
  refine ⟨_, run_beginRound hlw rfl, ?_⟩
  have hl2 : l < X2.w.heap.size := (Array.getElem?_eq_some_iff.1 hob).1
  have hDs : ∀ Ds : List Nat, a1'.defers = Ds.map (fun D => { target := .collected D, args := #[] }) → l ∉ Ds := fun Ds hD hm => by
    obtain ⟨Ds', d1, d2, d3⟩ := hh1.df
    rw [d1] at hD
    have hmm : l ∈ Ds' := by
      have : (⟨.collected l, #[]⟩ : Deferred) ∈ Ds'.map (fun D => ({ target := .collected D, args := #[] } : Deferred)) := by rw [hD]; exact List.mem_map.2 ⟨l, hm, rfl⟩
      obtain ⟨x, hx, he⟩ := List.mem_map.1 this
      cases he
      exact hx
    have := (d3 l hmm).2
    rw [hlw] at this
    cases this
  have hrb := hh1.rebase (ob' := .loop { rec0 fn a0 #[p] assign body Dn .ready with state := .busy }) hlw rfl hDs
  refine Wp.mono (hbody _ _ _ _ E1 a1' _ hrb) ?_
  rintro e a3 W3 hq
  cases e with
  | normal =>
    obtain ⟨E', hB⟩ := hq
    have hlb : (w1.putObj l (.loop { rec0 fn a0 #[p] assign body Dn .ready with state := .busy })).heap[l]? = some (.loop { rec0 fn a0 #[p] assign body Dn .ready with state := .busy }) := World.putObj_heap_same (Array.getElem?_eq_some_iff.1 hlw).1
    have hml : ¬ ((∃ b, live E1 bs2 b ∧ E1.A b = l) ∨ (X2.w.heap.size ≤ l ∧ l ≠ l) ∨ (X2.m l ∧ l ≠ l)) := by
      rintro (h1 | h1 | h1)
      · exact hh1.hb.nocells hlw rfl h1
      · exact h1.2 rfl
      · exact h1.2 rfl
    have hl3 : W3.heap[l]? = some (.loop { rec0 fn a0 #[p] assign body Dn .ready with state := .busy }) := (hB.ext.blk l (Array.getElem?_eq_some_iff.1 hlb).1 hml).trans hlb
    have hre : (Instr.endRound l none).run P W3 = .ok (.bool true) (W3.putObj l (.loop (rec0 fn a0 #[p] assign body Dn .ready))) := run_endRound none hl3
    refine ⟨_, _, hre, ?_⟩
    have hg := grownBy_putObj' W3 l (.loop (rec0 fn a0 #[p] assign body Dn .ready))
    have hg1 := grownBy_putObj' w1 l (.loop { rec0 fn a0 #[p] assign body Dn .ready with state := .busy })
    have k : Keeps (ownS E' X2.o bs') (ownS E' X2.o bs') W3 (W3.putObj l (.loop (rec0 fn a0 #[p] assign body Dn .ready))) := ⟨fun r hr _ o vs h1 => rangeAt.nocells hl3 rfl hg hr h1, hg.size, fun _ _ h => h⟩
    refine ⟨_, E', rfl, ⟨⟨?_, ?_, ?_, ?_, fun r hr hn => ?_⟩, hhx.o0, ⟨hB.en.dk, fun b hb => (hB.en.A b hb).trans (hh1.en.A b hb), fun b hb => (hB.en.V b hb).trans (hh1.en.V b hb), fun b hb => (hB.en.nl b hb).trans (hh1.en.nl b hb)⟩, fun b T cs hb => ?_, fun b hb => ?_, hB.nd⟩, .d (.s rfl)⟩
    · exact hg.os.trans (hB.ext.os.trans (hg1.os.trans hh1.ext.os))
    · exact hg.tape.trans (hB.ext.tape.trans (hg1.tape.trans hh1.ext.tape))
    · exact hg.output.trans (hB.ext.output.trans (hg1.output.trans hh1.ext.output))
    · exact Nat.le_trans hh1.ext.size (Nat.le_trans hg1.size (Nat.le_trans hB.ext.size hg.size))
    · by_cases he : r = l
      · subst he
        rw [hob]
        exact World.putObj_heap_same (Array.getElem?_eq_some_iff.1 hl3).1
      · have h1 : (W3.putObj l (.loop (rec0 fn a0 #[p] assign body Dn .ready))).heap[r]? = W3.heap[r]? := World.putObj_heap_other he
        have h2 : W3.heap[r]? = (w1.putObj l (.loop { rec0 fn a0 #[p] assign body Dn .ready with state := .busy })).heap[r]? := hB.ext.blk r (Nat.lt_of_lt_of_le hr (Nat.le_trans hh1.ext.size hg1.size)) (by
          rintro (⟨b, h1, h2⟩ | h1 | h1)
          · rcases hh1.lo b h1 with h3 | h3
            · have h4 : X2.w.heap.size ≤ E1.A b := h3
              omega
            · rw [h2] at h3; exact hn h3
          · have h4 : X2.w.heap.size ≤ r := h1.1
            omega
          · exact hn h1.1)
        exact h1.trans (h2.trans ((World.putObj_heap_other he).trans (hh1.ext.blk r hr hn)))
    · exact (hB.bk b T cs hb).keeps k (Env.le.refl _ _) (fun _ h => h) ⟨_, hb⟩ (fun hn => hg.block _ (by obtain ⟨T', cs', h1⟩ := hB.blkOf ⟨⟨_, hb⟩, hn⟩; exact h1.lt) (fun e => hB.nocells hl3 rfl ⟨b, ⟨⟨_, hb⟩, hn⟩, (Option.some.inj e).symm ▸ rfl⟩))
    · rcases hB.lo b hb with h1 | ⟨b', h1, h2⟩ | h1 | h1
      · exact .inl (Nat.le_trans hh1.ext.size (Nat.le_trans hg1.size h1))
      · rw [← h2]; exact hh1.lo b' h1
      · exact .inl h1.1
      · exact .inr h1.1
  | _ => exact hq.elim

/-- 'for x := range f { .. }': the state of the body's variables goes from c i to c (i + 1) in the round of the element i. -/
theorem G.rf {P : Program} {X : Cx} {al alR al' : List (Nat × AV)} {bs bsF bs2 : Bs} {Q : Exit → Act → World → Prop} {g : Operand} {p : Tmp} {assign body : Code} {fd : D} {xs : List D} (it : Iter P fd xs) (c : Nat → Nat → Option (TypeId × List AV))
    (hround : ∀ l i x, xs[i]? = some x → ∀ w o m E0, ∀ K : Act → World → Prop, (∀ al2 bs2, (∀ w o m E0, G P ⟨w, o, X.N, m, E0, [100, 102, 104]⟩ al2 bs2 (Wp P (some l) body (rnd P ⟨w, o, X.N, m, E0, [100, 102, 104]⟩ (Is (c (i + 1)))))) → G P ⟨w, o, X.N, m, E0, [100, 102, 104]⟩ al2 bs2 K) → G P ⟨w, o, X.N, m, E0, [100, 102, 104]⟩ ((p, .d x) :: alR) (Is (c i)) (Wp P (some l) assign (Exit.then K (fun _ _ _ => False))))
    (h : G P X al' bs2 (Q .normal)) (hg : Evd al g (.d fd)) (hcl : ∀ i j, ClE inI (c i j)) (hs : SubB bs (Is (c 0))) (hR : SubA knI al alR) (hF : FkB bs bsF) (hA : Fk al al') (hb2 : Is (c xs.length) ++ bsF = bs2) (hk : X.k.all (fun b => kn b && (!(Nat.ble 100 b) || inI b)) = true) (hp : Nat.blt p X.N = true) (hfd : ∃ K es, fd = .fn K es ∧ fbody P K = true) :
    G P X al bs (Wp P none (Code.rangeFunc g #[p] assign body) Q) := fun E a W hh => by
  subst hb2
  obtain ⟨K0, es, rfl, hfb⟩ := hfd
  unfold Wp
  refine wpIn_rangeFunc (F := FR none) (n := 0) ?_
  intro fn _
  have hk1 : X.k.all kn = true := by
    rw [List.all_eq_true] at hk ⊢
    intro b hb
    have := hk b hb
    simp only [Bool.and_eq_true] at this
    exact this.1
  have hvf := hh.evd hg
  obtain ⟨W1, hW1⟩ : ∃ W1, (W.alloc (.deferred (some []))).alloc (.loop (rec0 fn a #[p] assign body W.heap.size .ready)) = W1 := ⟨_, rfl⟩
  have hE1 : Ext W W1 := by rw [← hW1]; exact (ext_alloc _ _).trans (ext_alloc _ _)
  have hL1 : W1.heap[W.heap.size + 1]? = some (.loop (rec0 fn a #[p] assign body W.heap.size .ready)) := by
    rw [← hW1]
    have := World.alloc_heap_new (W.alloc (.deferred (some []))) (.loop (rec0 fn a #[p] assign body W.heap.size .ready))
    rwa [World.size_alloc] at this
  have hD1 : W1.heap[W.heap.size]? = some (.deferred (some [])) := by
    rw [← hW1]
    exact (Below.heap_alloc _ _ _ (by simp)).trans (World.alloc_heap_new W _)
  have hh1 : HdE P X al bs E a W1 := hh.grow hE1
  have hent := hh1.hb.enter hs (Is.cl (hcl 0))
  have hSince : Since (ownS E X.o bs) W1 E (subx X bs (Is (c 0)) E W1) := by
    refine ⟨fun r _ _ o vs h => h, Nat.le_refl _, fun r _ hq => ?_, fun b hb => ?_, fun r ob h1 h2 => ⟨h1, fun hm => hent.nocells h1 h2 hm⟩⟩
    · rcases hq with hq | ⟨b, ⟨⟨q, h1⟩, h2⟩, rfl⟩
      · exact hq.1
      · exact .inr ⟨b, ⟨⟨q, hs.get h1⟩, h2⟩, rfl⟩
    · refine ⟨?_, rfl, rfl, rfl⟩
      show b ∈ kns (Is (c 0))
      rw [kns_Is]
      exact hb
  have hyield : ∀ i x, xs[i]? = some x → FvB P (Since (ownS E X.o bs) W1 E) (yv (W.heap.size + 1)) [.d x] (Is (c i)) (.d (.s (.bool true))) (Is (c (i + 1))) := by
    intro i x hx X2 f vs hC2 hk2 hb2 hf2 ha2
    obtain ⟨hob, hlm⟩ := hC2.ob _ _ hL1 rfl
    cases hf2 with
    | d hf2 =>
      cases hf2 with
      | s _ =>
        cases ha2 with
        | @cons v _ vs' _ hv ht =>
          cases ht with
          | nil =>
            have hry : (Instr.yield (W.heap.size + 1) #[v]).run P X2.w = .ok (.round (W.heap.size + 1) fn (a.tmps.setIfInBounds p v) assign body) X2.w := by
              have := run_yield (P := P) (args := #[v]) hob rfl
              simpa using this
            refine .inr ⟨_, rfl, _, _, _, _, hry, ?_⟩
            have hk2' : X2.k = [100, 102, 104] := hk2.trans (kns_Is _)
            have k : Keeps (ownS E X.o bs) (ownS X2.E0 X2.o (Is (c i))) W1 X2.w := by
              refine ⟨hC2.rg, hC2.size, fun r hr hq => ?_⟩
              rcases hq with hq | ⟨b, h1, rfl⟩
              · exact hC2.own r hr (.inl hq)
              · rcases hb2.lo b h1 with h2 | h2
                · have := hC2.size; omega
                · exact hC2.own _ hr (.inr h2)
            have hkn : ∀ b, knI b = true → b ∈ [100, 102, 104] := fun b hb => by
              simp only [knI, Bool.or_eq_true, Nat.beq_eq] at hb
              rcases hb with (rfl | rfl) | rfl <;> decide
            have hle : Env.le (fun b => b ∈ [100, 102, 104]) E X2.E0 := ⟨fun b hb => (hC2.k b hb).2.1, fun b hb => (hC2.k b hb).2.2.1, fun b hb => (hC2.k b hb).2.2.2⟩
            have hdm : ∀ b, b ∈ [100, 102, 104] → dom (Is (c i)) b := fun b hb => by
              simp only [List.mem_cons, List.not_mem_nil, or_false] at hb
              rcases hb with rfl | rfl | rfl
              · exact ⟨_, rfl⟩
              · exact ⟨_, rfl⟩
              · exact ⟨_, rfl⟩
            have hst : HdE P ⟨X2.w, X2.o, X.N, X2.m, X2.E0, X2.k⟩ alR (Is (c i)) X2.E0 { tmps := a.tmps, defers := [] } X2.w := by
              refine (HB.hd (X := ⟨X2.w, X2.o, X.N, X2.m, X2.E0, X2.k⟩) ⟨hb2.ext, hb2.o0, hb2.en, hb2.bk, hb2.lo, hb2.nd⟩ (.nil rfl) hh.sz (fun n y hy => ?_))
              obtain ⟨h1, h2⟩ := hR.get hy
              obtain ⟨u, e1, e2⟩ := hh1.sl n y h1
              exact ⟨u, e1, (e2.nums (dm' := fun b => b ∈ [100, 102, 104]) (fun b _ hb => hkn b hb) h2).keeps k hle hdm⟩
            have hst2 := hst.put (n := p) hv (by simpa using hp)
            refine round_ok (a0 := a) (Dn := W.heap.size) (alx := (p, .d x) :: alR) (bsI := Is (c i)) (N := X.N) (a1 := { tmps := a.tmps.setIfInBounds p v, defers := [] }) hob hlm hst2 rfl ?_
            rw [hk2']
            exact fun K hK => hround _ i x hx X2.w X2.o X2.m X2.E0 K hK
  have hcall := it _ Since.c (W.heap.size + 1) c hcl hyield (subx X bs (Is (c 0)) E W1) (a.eval g) [.func (.yield (W.heap.size + 1)) #[] #[]] hSince rfl hent ?_ (.cons (.d (.s rfl)) .nil)
  · have hvf' := hvf
    generalize hq : a.eval g = f at hvf' hcall
    cases hvf' with
    | d hvf' =>
      cases hvf' with
      | @fn _ lb _ hlb =>
        rcases hcall with ⟨K', caps, hq', hbd, hcalls⟩ | ⟨l, hq', _⟩
        · cases hq'
          refine ⟨W.heap.size + 1, [{ target := .collected W.heap.size, args := #[] }], W1, { target := .fn (.func K0) lb.toArray, args := #[.func (.yield (W.heap.size + 1)) #[] #[]] }, W1, K0, #[.func (.yield (W.heap.size + 1)) #[] #[]] ++ lb.toArray, W1, ?_, ?_, fun _ _ => trivial, ?_, (fun h => by cases h), ?_⟩
          · rw [← hW1]; exact run_enterLoop_outer _ _ _ _ _
          · show (Deferred.ofValue (a.eval g) (#[Operand.const (.func (.yield (W.heap.size + 1)) #[] #[])].map a.eval)).run P W1 = _
            rw [hq]
            simp [Deferred.ofValue, Act.eval]
          · simp [invoke, callFunc_enter hfb]
          · refine (callsIn_wide (n := 0)).2 (hcalls.mono ?_)
            rintro e W2 ⟨u, E', rfl, hB, _⟩
            obtain ⟨g1, g2, g3, g4, g5⟩ := hh1.hb.back hs (bs' := Is (c xs.length)) rfl hB hF hk1
            have hL2 := g5 _ _ hL1 rfl
            refine ⟨none, _, run_endLoop hL2 (by simp), ?_⟩
            have hdf : DfOk (fun D => X.w.heap.size ≤ D ∨ X.m D) { a with defers := [{ target := .collected W.heap.size, args := #[] }] ++ a.defers } (W2.putObj (W.heap.size + 1) (.loop { rec0 fn a #[p] assign body W.heap.size .ready with state := .exhausted })) := by
              obtain ⟨Ds, d1, d2, d3⟩ := hh.df
              have hlt : ∀ D ∈ Ds, D < W.heap.size := fun D hD => (Array.getElem?_eq_some_iff.1 (d3 D hD).2).1
              refine ⟨W.heap.size :: Ds, by rw [d1]; rfl, List.nodup_cons.2 ⟨fun hm => by have := hlt _ hm; omega, d2⟩, fun D hD => ?_⟩
              rcases List.mem_cons.1 hD with rfl | hD
              · exact ⟨.inl hh.ext.size, (World.putObj_heap_other (by omega)).trans (g5 _ _ hD1 rfl)⟩
              · refine ⟨(d3 D hD).1, (World.putObj_heap_other (by have := hlt D hD; omega)).trans (g5 _ _ ?_ rfl)⟩
                rw [hE1.below.block D (hlt D hD)]
                exact (d3 D hD).2
            refine h _ _ _ (HdE.putObj (a := { a with defers := [] }) (g1.hd (.nil rfl) hh.sz (fun n z hn => ?_)) hL2 rfl (.inl (Nat.le_succ_of_le hh.ext.size)) rfl hdf)
            obtain ⟨z', hz1, hz2⟩ := hA.get hn
            obtain ⟨v, hv1, hv2⟩ := hh1.sl n z' hz1
            rcases hz2 with rfl | ⟨rfl, hz3⟩
            · exact ⟨v, hv1, .any⟩
            · exact ⟨v, hv1, g3 v z hv2 hz3⟩
        · cases hq'
  · have ho' : ∀ r, ownS E (subx X bs (Is (c 0)) E W1).o (Is (c 0)) r → ownS E X.o bs r := by
      rintro r (h1 | ⟨b, ⟨⟨q, h1⟩, h2⟩, rfl⟩)
      · exact h1.1
      · exact .inr ⟨b, ⟨⟨q, hs.get h1⟩, h2⟩, rfl⟩
    exact ((hh1.evd hg).nums (p := fun _ => false) (dm' := dom (Is (c 0))) (fun b _ h => by cases h) rfl).keeps (.of (fun _ _ _ => rfl) (Nat.le_refl _) (fun r _ h => ho' r h)) (Env.le.refl _ _) (fun _ h => h)
end Go.Proofs.Ytmajkjkakciaiaa

set_option linter.unusedSimpArgs false
set_option linter.unusedVariables false
namespace Go.Proofs.Ytmajkjkakciaiaa
open Go.RowKit

section
variable {P : Program} {X : Cx} {al : List (Nat × AV)} {bs : Bs} {E : Env} {a : Act} {W : World}
/-- An element's place; the index is told in whatever way. -/
theorem Rd.ixv {T : TypeId} {x y : Operand} {k : IntKind} {e sz : Nat} {rows : List (List D)} {row : List D} {i : Int} (j : Nat) (hrow : rows[j]? = some row) [hT : TSl P T e sz] (hx : Evd al x (.d (.l rows)) := by exact ⟨_, rfl, by (try (apply Und.gd; assumption; try (apply Und.gd; assumption; try (apply Und.gd; assumption)))); exact Und.refl _⟩) (hy : Evd al y (.d (.s (.int k i))) := by exact ⟨_, rfl, by (try (apply Und.gd; assumption; try (apply Und.gd; assumption; try (apply Und.gd; assumption)))); exact Und.refl _⟩) (hi : i = j := by first | rfl | omega) (hsz : row.length = sz := by first | rfl | assumption) :
    Rd P X al bs [] (.indexAddr T x y) (.e row 0) := Rd.ixl j hrow hi hsz hx hy
/-- An element's place in a row of one's own. -/
theorem Rd.ixov {T T' b n : Nat} {x y : Operand} {k : IntKind} {e sz : Nat} {cs : List AV} {i : Int} (j : Nat) (hj : j < n) [hT : TSl P T e sz] (hx : Evd al x (.o b n) := by exact ⟨_, rfl, by (try (apply Und.gd; assumption; try (apply Und.gd; assumption; try (apply Und.gd; assumption)))); exact Und.refl _⟩) (hb : lk bs b = some (some (T', cs)) := by rfl) (hy : Evd al y (.d (.s (.int k i))) := by exact ⟨_, rfl, by (try (apply Und.gd; assumption; try (apply Und.gd; assumption; try (apply Und.gd; assumption)))); exact Und.refl _⟩) (hi : i = j := by first | rfl | omega) :
    Rd P X al bs [b] (.indexAddr T x y) (.p b (j * sz)) := Rd.ixo j hi hj hx hb hy
/-- An element of a row of one's own is read. -/
theorem Rd.ldR {T T' b N : Nat} {x : Operand} {rows : List (List D)} {row : List D} (j : Nat) (hrow : rows[j]? = some row) [hT : TRw P T N] (hm : ∀ r ∈ rows, r.length = N) (hx : Evd al x (.p b (j * N)) := by exact ⟨_, rfl, by (try (apply Und.gd; assumption; try (apply Und.gd; assumption; try (apply Und.gd; assumption)))); exact Und.refl _⟩) (hb : lk bs b = some (some (T', rows.flatten.map .d)) := by rfl) : Rd P X al bs [b] (.load T x) (.d (.st row)) :=
  Rd.ldpP (ds := row) hx hb (by rw [← List.map_drop, ← List.map_take, flat_at rows j row hm hrow]) (hm row (List.mem_of_getElem? hrow))
/-- A store into an element of a row of one's own, the element's data found first. -/
theorem LT.stRv {T : TypeId} {x y : Operand} {b T' N : Nat} {rows : List (List D)} {row : List D} (j : Nat) [hT : TZs P T N] (hm : ∀ r ∈ rows, r.length = N) (hj : j < rows.length) (hx : ev al x = some (.p b (j * N)) := by rfl) (hy : ev al y = some (.d (.st row)) := by rfl) (hb : lk bs b = some (some (T', rows.flatten.map .d)) := by rfl) (hN : row.length = N := by rfl) (hc : row.all D.cell = true := by rfl) : LT P X al bs (.store T x y) none [b] [] [(b, some (T', (rows.set j row).flatten.map .d))] :=
  LT.stRow j hm hj hN hc hx hy hb
theorem flat_get1 {α : Type} {N f : Nat} {row : List α} (hf : f < N) : ∀ (rows : List (List α)) (j : Nat), (∀ r ∈ rows, r.length = N) → rows[j]? = some row → rows.flatten[j * N + f]? = row[f]?
  | [], j, _, h => by simp at h
  | r :: rows, 0, hm, h => by
    simp only [List.getElem?_cons_zero, Option.some.injEq] at h
    subst h
    rw [List.flatten_cons, Nat.zero_mul, Nat.zero_add, List.getElem?_append_left (by rw [hm r (List.mem_cons_self ..)]; exact hf)]
  | r :: rows, j + 1, hm, h => by
    rw [List.getElem?_cons_succ] at h
    have h1 := hm r (List.mem_cons_self ..)
    rw [List.flatten_cons, List.getElem?_append_right (by rw [h1, Nat.add_mul]; omega), h1, show (j + 1) * N + f - N = j * N + f by rw [Nat.add_mul]; omega]
    exact flat_get1 hf rows j (fun x hx => hm x (List.mem_cons_of_mem _ hx)) h
theorem flat_set1 {α : Type} {N f : Nat} {row : List α} {d : α} (hf : f < N) : ∀ (rows : List (List α)) (j : Nat), (∀ r ∈ rows, r.length = N) → rows[j]? = some row → rows.flatten.set (j * N + f) d = (rows.set j (row.set f d)).flatten
  | [], j, _, h => by simp at h
  | r :: rows, 0, hm, h => by
    simp only [List.getElem?_cons_zero, Option.some.injEq] at h
    subst h
    rw [List.flatten_cons, Nat.zero_mul, Nat.zero_add, List.set_append_left _ _ (by rw [hm r (List.mem_cons_self ..)]; exact hf)]
    rfl
  | r :: rows, j + 1, hm, h => by
    rw [List.getElem?_cons_succ] at h
    have h1 := hm r (List.mem_cons_self ..)
    rw [List.flatten_cons, List.set_append_right _ _ (by rw [h1, Nat.add_mul]; omega), h1, show (j + 1) * N + f - N = j * N + f by rw [Nat.add_mul]; omega, flat_set1 hf rows j (fun x hx => hm x (List.mem_cons_of_mem _ hx)) h]
    rfl
/-- A field of an element of a row of one's own is read. -/
theorem Rd.ldF {T T' b N off : Nat} {x : Operand} {rows : List (List D)} {row : List D} {d : D} (j f : Nat) (hrow : rows[j]? = some row) [hT : TSc P T] (hm : ∀ r ∈ rows, r.length = N) (hx : Evd al x (.p b off) := by exact ⟨_, rfl, by (try (apply Und.gd; assumption; try (apply Und.gd; assumption; try (apply Und.gd; assumption)))); exact Und.refl _⟩) (hb : lk bs b = some (some (T', rows.flatten.map .d)) := by rfl) (ho : off = j * N + f := by first | rfl | omega) (hf : f < N := by decide) (hd : row[f]? = some d := by rfl) : Rd P X al bs [b] (.load T x) (.d d) :=
  Rd.ldp hx hb (by subst ho; rw [List.getElem?_map, flat_get1 hf rows j hm hrow, hd]; rfl)
/-- A field of an element of a row of one's own is stored. -/
theorem LT.stF {T T' b N off : Nat} {x y : Operand} {rows : List (List D)} {row : List D} {d : D} (j f : Nat) (hrow : rows[j]? = some row) [hT : TZs P T 1] (hm : ∀ r ∈ rows, r.length = N) (hx : ev al x = some (.p b off) := by rfl) (hy : ev al y = some (.d d) := by rfl) (hb : lk bs b = some (some (T', rows.flatten.map .d)) := by rfl) (ho : off = j * N + f := by first | rfl | omega) (hf : f < N := by decide) (hc : d.cell = true := by rfl) (hu : (AV.d d).cells = [AV.d d] := by rfl) : LT P X al bs (.store T x y) none [b] [] [(b, some (T', (rows.set j (row.set f d)).flatten.map .d))] := by
  have hlt : j * N + f < (rows.flatten.map AV.d).length := by
    have h2 := flat_get1 hf rows j hm hrow
    have h3 : row[f]? = some (row[f]'(by rw [hm row (List.mem_of_getElem? hrow)]; exact hf)) := List.getElem?_eq_getElem _
    rw [h3] at h2
    rw [List.length_map]
    exact (List.getElem?_eq_some_iff.1 h2).1
  haveI : LSet (rows.flatten.map AV.d) off (AV.d d) ((rows.set j (row.set f d)).flatten.map AV.d) := ⟨by rw [ho, ← List.map_set, flat_set1 hf rows j hm hrow]⟩
  exact LT.sts hx hy hb hu hc (by rw [ho]; simpa using hlt)
theorem GD.gTt {Q : Exit → Act → World → Prop} {op : Op} {dst : Option Nat} {ty : TypeId} {ps : String} {af : Array Edge} {rest l : List Oper} {id : Nat} {al0 : List (Nat × AV)} {bs0 : Bs} {sts : List Stp} {rb : List Nat} {s : Nat × AV} {j dj : Nat} (h : GD P X l Q id al0 bs0 (sts ++ [⟨dj :: opT op, [s.1], rb, []⟩]) (s :: al) bs rest) (hj : (l[j]?).bind (·.dst) = some dj) (hs : lk al dj = some (.d (.s (.bool true)))) (lt : LT P X al bs op dst rb [s] []) :
    GD P X l Q id al0 bs0 sts al bs ({ dst := dst, op := op, type := ty, pos := ps, after := af, guard := some (j, true) } :: rest) := GD.g1 h lt hs rfl hj
theorem ClB.d {p : Nat → Bool} {b T : Nat} {ds : List D} {l : Bs} (h : ClB p l) : ClB p ((b, some (T, ds.map .d)) :: l) := ⟨ClE.some (numsL_d _ _), h⟩
/-- A guard that is plainly there. -/
theorem G.gTt {ro : Option Nat} {Q : Exit → Act → World → Prop} {op : Op} {dst : Option Nat} {ty : TypeId} {ps : String} {af : Array Edge} {rest l : List Oper} {j dj : Nat} (h : G P X al bs (WL P ro l.toArray Q ({ dst := dst, op := op, type := ty, pos := ps, after := af, guard := none } :: rest))) (hj : (l[j]?).bind (·.dst) = some dj) (hs : lk al dj = some (.d (.s (.bool true)))) :
    G P X al bs (WL P ro l.toArray Q ({ dst := dst, op := op, type := ty, pos := ps, after := af, guard := some (j, true) } :: rest)) := G.gT h hs rfl hj
/-- A guard that is plainly there: what it wants is false. -/
theorem G.gTn {ro : Option Nat} {Q : Exit → Act → World → Prop} {op : Op} {dst : Option Nat} {ty : TypeId} {ps : String} {af : Array Edge} {rest l : List Oper} {j dj : Nat} (h : G P X al bs (WL P ro l.toArray Q ({ dst := dst, op := op, type := ty, pos := ps, after := af, guard := none } :: rest))) (hj : (l[j]?).bind (·.dst) = some dj) (hs : lk al dj = some (.d (.s (.bool false)))) :
    G P X al bs (WL P ro l.toArray Q ({ dst := dst, op := op, type := ty, pos := ps, after := af, guard := some (j, false) } :: rest)) := G.gT h hs rfl hj
/-- A block's cells are told otherwise. -/
theorem HdE.tellB (h : HdE P X al bs E a W) {b T : Nat} {cs cs' : List AV} (hb : lk bs b = some (some (T, cs))) (hn : cs = [] → cs' = []) (hc : ∀ vs, RAL E (dom bs) (ownS E X.o bs) W vs cs → RAL E (dom bs) (ownS E X.o bs) W vs cs') : HdE P X al ((b, some (T, cs')) :: bs) E a W := by
  have hdm : ∀ k, dom ((b, some (T, cs')) :: bs) k → dom bs k := fun k ⟨y, hy⟩ => by
    by_cases he : b = k
    · subst he; exact ⟨_, hb⟩
    · rw [lk_ne _ _ he] at hy; exact ⟨y, hy⟩
  have hl : ∀ k, live E ((b, some (T, cs')) :: bs) k → live E bs k := fun k ⟨⟨q, hq⟩, h2⟩ => by
    by_cases he : b = k
    · subst he; exact ⟨⟨_, hb⟩, h2⟩
    · rw [lk_ne _ _ he] at hq; exact ⟨⟨q, hq⟩, h2⟩
  have ho : ∀ r, ownS E X.o ((b, some (T, cs')) :: bs) r → ownS E X.o bs r := by
    rintro r (h1 | ⟨k, h1, rfl⟩)
    · exact .inl h1
    · exact .inr ⟨k, hl k h1, rfl⟩
  have k : Keeps (ownS E X.o bs) (ownS E X.o ((b, some (T, cs')) :: bs)) W W := .of (fun _ _ _ => rfl) (Nat.le_refl _) (fun r _ h => ho r h)
  refine ⟨h.ext, h.o0, h.df, h.sz, h.en.step (Env.le.refl _ _) dom_cons, fun n x hx => ?_, fun k' T' cs'' hk => ?_, fun k' hk => h.lo k' (hl k' hk), fun k1 k2 h1 h2 => h.nd k1 k2 (hl k1 h1) (hl k2 h2)⟩
  · obtain ⟨v, h1, h2⟩ := h.sl n x hx
    exact ⟨v, h1, h2.keeps k (Env.le.refl _ _) dom_cons⟩
  · by_cases he : b = k'
    · subst he
      rw [lk_self] at hk
      simp only [Option.some.injEq, Prod.mk.injEq] at hk
      obtain ⟨rfl, rfl⟩ := hk
      rcases h.bk b T cs hb with ⟨e1, e2, e3⟩ | ⟨e0, vs, sp, m, n, c, e1, e2, e3⟩
      · exact .inl ⟨e1, hn e2, e3⟩
      · exact .inr ⟨e0, vs, sp, m, n, c, e1, (hc vs e2).keeps k (Env.le.refl _ _) dom_cons, e3⟩
    · rw [lk_ne _ _ he] at hk
      exact (h.bk k' T' cs'' hk).turn rfl rfl rfl (fun _ => rfl) (fun vs hr => hr.keeps k (Env.le.refl _ _) dom_cons)
/-- A variable's data are told by words that say less. -/
theorem G.leB {c : Act → World → Prop} (b : Nat) {T : Nat} {ds : List D} (es : List D) (hl : DL.le ds es) (h : G P X al ((b, some (T, es.map .d)) :: bs) c) (hb : lk bs b = some (some (T, ds.map .d)) := by rfl) : G P X al bs c := fun E a W hh => by
  refine h _ a W (hh.tellB hb (fun e => ?_) (fun vs hr => RAL.map (hl _ _ _ hr.unmap)))
  have h1 : ds = [] := List.map_eq_nil_iff.1 e
  subst h1
  have := hl (fun _ => False) W [] .nil
  cases this
  rfl
/-- A variable that holds nil holds a row of one's own. -/
theorem G.nilCell {c : Act → World → Prop} (b q T : Nat) {T0 : Nat} (h : G P X al ((b, some (T0, [.o q 0])) :: (q, some (T, ([] : List (List D)).flatten.map .d)) :: bs) c) (hf : lk bs q = none := by rfl) (hb : lk bs b = some (some (T0, [.d (.s (.slice none 0 0))])) := by rfl) : G P X al bs c := fun E a W hh => by
  have hne : q ≠ b := fun e => by subst e; rw [hf] at hb; cases hb
  refine h _ a W ((hh.nilRow q T hf).tellB (cs := [.d (.s (.slice none 0 0))]) (by rw [lk_ne _ _ hne]; exact hb) (fun e => by cases e) (fun vs hr => ?_))
  cases hr with
  | cons h1 h2 =>
    cases h2
    obtain rfl := h1.scalar
    exact .cons (.o ⟨_, lk_self _ _ _⟩ (by rw [Env.set_V])) .nil
/-- A variable's row is not changed any more. -/
theorem G.frzC {c : Act → World → Prop} (b q : Nat) {T0 T k m : Nat} {rows : List (List D)} [hT : TZs P T m] (h : G P X al ((b, some (T0, [.d (.l rows)])) :: (q, none) :: bs) c) (hm : ∀ r ∈ rows, r.length = m) (hk : k = rows.length) (hb : lk bs b = some (some (T0, [.o q k])) := by rfl) (hq : lk bs q = some (some (T, rows.flatten.map .d)) := by rfl) : G P X al bs c := fun E a W hh => by
  have hne : q ≠ b := fun e => by
    subst e
    rw [hb] at hq
    simp only [Option.some.injEq, Prod.mk.injEq] at hq
    obtain ⟨_, h2⟩ := hq
    have := congrArg List.head? h2
    cases hfl : rows.flatten with
    | nil => rw [hfl] at h2; cases h2
    | cons y ys => rw [hfl] at h2; cases h2
  refine h _ a W ((hh.drop q).tellB (T := T0) (cs := [.o q k]) (by rw [lk_ne _ _ hne]; exact hb) (fun e => by cases e) (fun vs hr => ?_))
  have hd : ∀ b', dom ((q, none) :: bs) b' → dom bs b' := fun b' ⟨y, hy⟩ => by
    by_cases he : q = b'
    · subst he; exact ⟨_, hq⟩
    · rw [lk_ne _ _ he] at hy; exact ⟨y, hy⟩
  cases hr with
  | cons h1 h2 =>
    cases h2
    refine .cons (.d (hh.data hq hm hT.h hk ?_)) .nil
    cases h1 with
    | o g1 g2 => exact .o (hd _ g1) g2
end
mutual
theorem AV.nums_mono {p q : Nat → Bool} (h : ∀ b, p b = true → q b = true) : ∀ x : AV, x.nums p = true → x.nums q = true
  | .p b _, e => h b e
  | .o b _, e => h b e
  | .vw b _ _ _, e => h b e
  | .st cs, e => AV.numsL_mono h cs e
  | .tup cs, e => AV.numsL_mono h cs e
  | .fn _ cs, e => AV.numsL_mono h cs e
  | .gd _ _ x, e => AV.nums_mono h x e
  | .d _, _ => rfl
  | .any, _ => rfl
theorem AV.numsL_mono {p q : Nat → Bool} (h : ∀ b, p b = true → q b = true) : ∀ xs : List AV, AV.numsL p xs = true → AV.numsL q xs = true
  | [], _ => rfl
  | x :: xs, e => by
    simp only [AV.numsL, Bool.and_eq_true] at e ⊢
    exact ⟨AV.nums_mono h x e.1, AV.numsL_mono h xs e.2⟩
end
/-- One variable more. -/
theorem Is.cl6 {c : Nat → Option (TypeId × List AV)} {T : TypeId} {ds : List D} (h : ∀ j, ClE inI (c j)) : ClB (inB ((6, some (T, ds.map .d)) :: Is c)) ((6, some (T, ds.map .d)) :: Is c) := by
  have m : ∀ j, ClE (inB ((6, some (T, ds.map .d)) :: Is c)) (c j) := fun j T' cs e => AV.numsL_mono (fun b hb => by
    unfold inI inB Is at hb
    unfold inB Is
    simp only [List.any_cons, List.any_nil, Bool.or_eq_true] at hb ⊢
    exact .inr hb) cs (h j T' cs e)
  exact ⟨.some (numsL_d _ _), m 0, m 1, m 2, m 3, m 4, m 5, trivial⟩
/-- Words that are data, functions by name among them. -/
class PlF (cs : List AV) (ds : outParam (List D)) : Prop where
  h : ∀ {E : Env} {dm own : Nat → Prop} {W : World} {vs : List Value}, RAL E dm own W vs cs → RL own W vs ds
instance : PlF [] [] := ⟨fun h => by cases h; exact .nil⟩
instance {x : D} {cs : List AV} {ds : List D} [i : PlF cs ds] : PlF (.d x :: cs) (x :: ds) := ⟨fun h => by
  cases h with
  | cons h t =>
    cases h with
    | d h => exact .cons h (i.h t)⟩
instance {K : Nat} {cs : List AV} {ds : List D} [i : PlF cs ds] : PlF (.fn K [] :: cs) (.fn K [] :: ds) := ⟨fun h => by
  cases h with
  | cons h t =>
    cases h with
    | @fn _ us _ hc =>
      cases hc
      exact .cons (.fn .nil) (i.h t)⟩
/-- A call that is given a function by name. -/
theorem LT.ceF {P : Program} {X : Cx} {al : List (Nat × AV)} {bs : Bs} {K d : Nat} {args : List Operand} {ats : Array TypeId} {xs : List AV} {ds : List D} {r : D} (hf : Fn P K ds (· = r)) (he : EvL al args xs) (hp : PlF xs ds) (hd : Nat.blt d X.N = true) :
    LT P X al bs (.call { callee := .value (.func K), args := args.toArray, argTypes := ats }) (some d) [] [(d, .d r)] [] := fun ro al2 bs2 hL hB E a W hh o ho hdst Kc Q hK => by
  have hr := hp.h (hh.evsOk (EvL.loc hL (fun x hx => by simp [Op.operands, Call.operands, hx]) he))
  refine WO.of (by rw [ho]; intro c h; cases h) ?_
  unfold execOp
  have hrun : (do let dd ← resolve a.eval { callee := .value (.func K), args := args.toArray, argTypes := ats } o.type; invoke dd.target dd.args : Sem Next).run P W = .ok (.enter K (args.map a.eval).toArray) W := by
    simp [resolve, Deferred.ofValue, Act.eval, invoke, callFunc_enter hf.1]
  simp only [ho]
  rw [hrun]
  rw [Oper.uponIn_enter]
  refine ⟨(fun hq => by cases hq), (callsIn_wide (n := 0)).2 ((hf.2 (ownS E X.o bs2) W _ (fun r ho => hh.own_lt ho) hr).mono ?_)⟩
  rintro e W' ⟨v, x, rfl, hx, hE, hv⟩
  dsimp only
  rw [hdst]
  subst hx
  exact hK E _ W' ((hh.grow hE).put (.d hv) (by simpa using hd))
/-- A literal that will be written on: a row of one's own. -/
theorem LT.bsO {P : Program} {X : Cx} {al : List (Nat × AV)} {bs : Bs} {t e size bytes n d k : Nat} {parts : List (Nat × Operand)} {rows : List (List D)} [hT : TAp P t e size bytes] (hp : EvR al parts rows) (hm : ∀ r ∈ rows, r.length = size) (hi : parts.map (·.1) = List.range' 0 parts.length := by rfl) (hn : parts.length = n := by rfl) (h0 : Nat.blt 0 n = true := by rfl) (hb : Nat.ble (n * size) 10000 = true := by rfl) (hk : bs.length = k := by simp only [List.length_cons, List.length_nil, Nat.reduceAdd]; rfl) (hf : lk bs k = none := by rfl) (hd : Nat.blt d X.N = true := by rfl) :
    LT P X al bs (.buildSlice t n parts.toArray) (some d) [k] [(d, .o k n)] [(k, some (e, rows.flatten.map .d))] := fun ro al2 bs2 hL hB E a W hh o ho hdst K Q hK => by
  have hf2 : lk bs2 k = none := (hB k (List.mem_cons_self ..)).trans hf
  obtain ⟨i0, z, hu, hie, hz, hsz, hbs, hzs, hpos⟩ := hT.h
  have hp2 := EvR.loc hL (fun p hp => by simp [Op.operands]; exact ⟨_, hp⟩) hp
  have hlen := hp2.len
  have hrl := hp2.rl hh
  have hsz2 := hp2.sz hh hm
  simp only [Nat.ble_eq] at hb
  have h0' : 0 < n := by simpa using h0
  have hns : 0 < n * size := Nat.mul_pos h0' hpos
  generalize hvs : parts.map (fun p => a.eval p.2) = vs at hrl hsz2
  have hvl : vs.length = n := by rw [← hvs, List.length_map, hn]
  generalize hfl : vs.flatMap (fun v => v.cells.toList) = flat at hrl
  have hflen : flat.length = n * size := by rw [hrl.len, flat_len rows hm, ← hlen, hn]
  have hpz : parts.map (fun p => (p.1, a.eval p.2)) = (vs.zipIdx 0).map fun x => (x.2, x.1) := by
    have := parts_zip (parts.map (fun p => (p.1, a.eval p.2))) 0 (by simpa [Function.comp_def] using hi)
    rw [this, List.map_map, ← hvs]
    rfl
  have hfill := Great.fill_whole hpos vs ((Array.range (n * i0.size)).map (z.cells[· % z.cells.size]!)) hsz2 (by rw [hvl, hsz]; simp)
  rw [hfl] at hfill
  have hrun := run_buildSlice (P := P) W t e n (parts.toArray.map fun (i, x) => (i, a.eval x)) flat.toArray i0 z hu hie hz (by rw [hsz]; omega) (by rw [hsz]; omega) (by rw [hsz] at hfill ⊢; simpa [hpz] using hfill)
  have hh' := hh.alloc (T := e) (n := n) (m := size) hf2 (RAL.map hrl) (by rw [hie, Option.map_some, hsz]) hflen (by
    unfold maxLen
    have : n * 1 ≤ n * size := Nat.mul_le_mul_left _ hpos
    omega)
  refine WO.of (by rw [ho]; intro c h; cases h) ?_
  unfold execOp
  simp only [ho, Sem.run_bind, hrun, Result.andThen_ok, Sem.run_pure]
  dsimp only [Oper.uponIn]
  rw [hdst]
  exact hK _ _ _ (hh'.put (.o ⟨_, lk_self _ _ _⟩ (by rw [Env.set_V])) (by simpa using hd))
theorem Iter.of {P : Program} {fd : D} {xs : List D} (h : ∀ (C : Cx → Prop), Cc C → ∀ (l : Nat) (c : Nat → Nat → Option (TypeId × List AV)), (∀ i j, ClE inI (c i j)) → (∀ i x, xs[i]? = some x → FvB P C (yv l) [.d x] (Is (c i)) (.d (.s (.bool true))) (Is (c (i + 1)))) → FvB P C (.d fd) [yv l] (Is (c 0)) .any (Is (c xs.length))) : Iter P fd xs := h
end Go.Proofs.Ytmajkjkakciaiaa

set_option linter.unusedSimpArgs false
set_option linter.unusedVariables false
namespace Go.Proofs.Ytmajkjkakciaiaa
open Go.RowKit

/-- What is left of a walk (boxed: 'assumption' must not take it). -/
structure Bx (q : Prop) : Prop where
  out : q
theorem wk {p q : Prop} (h : q) (k : Bx q → p := by intro hQQ; (repeat intro K hK); (first | (show G _ _ _ _ (WL _ _ _ _ (⟨some _, .makeFunc _ _ _, _, _, _, none⟩ :: _)); refine G.w1 ?_ (by first | exact LT.rd (Rd.mkf (by first | ((repeat (first | exact EvL.nil | (apply EvL.cons; exact ⟨_, rfl, by (try (apply Und.gd; assumption; try (apply Und.gd; assumption; try (apply Und.gd; assumption)))); exact Und.refl _⟩))); done) | fail)) rfl | exact LT.rd (Rd.mkfA (by first | ((repeat (first | exact EvL.nil | (apply EvL.cons; exact ⟨_, rfl, by (try (apply Und.gd; assumption; try (apply Und.gd; assumption; try (apply Und.gd; assumption)))); exact Und.refl _⟩))); done) | fail)) rfl | fail)) | (show G _ _ _ _ (WL _ _ _ _ (⟨some _, .nilCheck _, _, _, _, none⟩ :: _)); refine G.w1 ?_ (by first | exact LT.rd (Rd.nckP (by exact ⟨_, rfl, Und.refl _⟩)) rfl | exact LT.rd (Rd.nckE (by exact ⟨_, rfl, Und.refl _⟩)) rfl | fail)) | (show GD _ _ _ _ _ _ _ _ _ _ (⟨some _, .makeFunc _ _ _, _, _, _, none⟩ :: _); refine GD.w1 ?_ (by first | exact LT.rd (Rd.mkf (by first | ((repeat (first | exact EvL.nil | (apply EvL.cons; exact ⟨_, rfl, by (try (apply Und.gd; assumption; try (apply Und.gd; assumption; try (apply Und.gd; assumption)))); exact Und.refl _⟩))); done) | fail)) rfl | exact LT.rd (Rd.mkfA (by first | ((repeat (first | exact EvL.nil | (apply EvL.cons; exact ⟨_, rfl, by (try (apply Und.gd; assumption; try (apply Und.gd; assumption; try (apply Und.gd; assumption)))); exact Und.refl _⟩))); done) | fail)) rfl | fail)) | (show G _ _ _ _ (WL _ _ _ _ (⟨some _, .buildSlice _ _ _, _, _, _, none⟩ :: _)); refine G.w1 ?_ (by first | exact LT.bsD (by repeat (first | exact EvR.nil | (apply EvR.cs; exact ⟨_, rfl, by (try (apply Und.gd; assumption; try (apply Und.gd; assumption; try (apply Und.gd; assumption)))); exact Und.refl _⟩; exact rfl) | (apply EvR.c1; exact ⟨_, rfl, by (try (apply Und.gd; assumption; try (apply Und.gd; assumption; try (apply Und.gd; assumption)))); exact Und.refl _⟩; exact rfl; exact rfl))) (by intro r hr; simp only [List.mem_cons, List.not_mem_nil, or_false] at hr; repeat (first | (subst hr; rfl) | (rcases hr with hr | hr))) | fail)) | (show G _ _ _ _ (WL _ _ _ _ (⟨some _, .call { callee := .builtin .append, args := _, argTypes := _ }, _, _, _, none⟩ :: _)); first | refine G.w3 ?_ (by first | exact LT.apB | fail) | refine G.w4 ?_ (by first | exact LT.ap0 | fail)) | (show GD _ _ _ _ _ _ _ _ _ _ (⟨some _, .buildSlice _ _ _, _, _, _, none⟩ :: _); refine GD.w1 ?_ (by first | exact LT.bsD (by repeat (first | exact EvR.nil | (apply EvR.cs; exact ⟨_, rfl, by (try (apply Und.gd; assumption; try (apply Und.gd; assumption; try (apply Und.gd; assumption)))); exact Und.refl _⟩; exact rfl) | (apply EvR.c1; exact ⟨_, rfl, by (try (apply Und.gd; assumption; try (apply Und.gd; assumption; try (apply Und.gd; assumption)))); exact Und.refl _⟩; exact rfl; exact rfl))) (by intro r hr; simp only [List.mem_cons, List.not_mem_nil, or_false] at hr; repeat (first | (subst hr; rfl) | (rcases hr with hr | hr))) | fail)) | (show GD _ _ _ _ _ _ _ _ _ _ (⟨some _, .call { callee := .builtin .append, args := _, argTypes := _ }, _, _, _, none⟩ :: _); first | refine GD.w3 ?_ (by first | exact LT.apB | fail) | refine GD.w4 ?_ (by first | exact LT.ap0 | fail)) | (show G _ _ _ _ (WL _ _ _ _ (⟨some _, _, _, _, _, none⟩ :: _)); first | refine G.r ?_ | refine G.new ?_) | (show G _ _ _ _ (Wp _ _ _ _); first | refine G.seq (fun K hK => ?_) | refine G.reg ?_ | refine G.ret ?_ | refine G.skip ?_ | refine G.exit ?_ | refine G.block ?_ | refine GD.start ?_ | (show G _ _ _ _ (Wp _ _ (Go.Code.cond _ _ _) _); first | refine G.iF ?_ | refine G.iT ?_)) | (show G _ _ _ _ (WL _ _ _ _ []); refine G.nl ?_) | (show G _ _ _ _ (WL _ _ _ _ (⟨none, _, _, _, _, none⟩ :: _)); refine G.sto ?_) | (show G _ _ _ _ (WL _ _ _ _ (⟨some _, _, _, _, _, some _⟩ :: _)); refine G.gl ?_) | refine G.qN ?_ | (refine G.k (by assumption) ?_; clear hK K) | refine G.qR ?_ | refine G.qE ?_ | refine G.bN ?_ | refine G.bR ?_ | refine G.bE ?_ | refine G.bE' ?_ | (show GD _ _ _ _ _ _ _ _ _ _ (⟨some _, _, _, _, _, none⟩ :: _); first | refine GD.r ?_ | refine GD.new ?_) | (show GD _ _ _ _ _ _ _ _ _ _ []; refine GD.done ?_ (by kernel_rfl) (by kernel_rfl)) | (show GD _ _ _ _ _ _ _ _ _ _ (⟨none, _, _, _, _, none⟩ :: _); refine GD.sto ?_) | (show GD _ _ _ _ _ _ _ _ _ _ (⟨some _, _, _, _, _, some _⟩ :: _); refine GD.gl ?_)); (repeat (first | (show G _ _ _ _ (WL _ _ _ _ (⟨some _, .makeFunc _ _ _, _, _, _, none⟩ :: _)); refine G.w1 ?_ (by first | exact LT.rd (Rd.mkf (by first | ((repeat (first | exact EvL.nil | (apply EvL.cons; exact ⟨_, rfl, by (try (apply Und.gd; assumption; try (apply Und.gd; assumption; try (apply Und.gd; assumption)))); exact Und.refl _⟩))); done) | fail)) rfl | exact LT.rd (Rd.mkfA (by first | ((repeat (first | exact EvL.nil | (apply EvL.cons; exact ⟨_, rfl, by (try (apply Und.gd; assumption; try (apply Und.gd; assumption; try (apply Und.gd; assumption)))); exact Und.refl _⟩))); done) | fail)) rfl | fail)) | (show G _ _ _ _ (WL _ _ _ _ (⟨some _, .nilCheck _, _, _, _, none⟩ :: _)); refine G.w1 ?_ (by first | exact LT.rd (Rd.nckP (by exact ⟨_, rfl, Und.refl _⟩)) rfl | exact LT.rd (Rd.nckE (by exact ⟨_, rfl, Und.refl _⟩)) rfl | fail)) | (show GD _ _ _ _ _ _ _ _ _ _ (⟨some _, .makeFunc _ _ _, _, _, _, none⟩ :: _); refine GD.w1 ?_ (by first | exact LT.rd (Rd.mkf (by first | ((repeat (first | exact EvL.nil | (apply EvL.cons; exact ⟨_, rfl, by (try (apply Und.gd; assumption; try (apply Und.gd; assumption; try (apply Und.gd; assumption)))); exact Und.refl _⟩))); done) | fail)) rfl | exact LT.rd (Rd.mkfA (by first | ((repeat (first | exact EvL.nil | (apply EvL.cons; exact ⟨_, rfl, by (try (apply Und.gd; assumption; try (apply Und.gd; assumption; try (apply Und.gd; assumption)))); exact Und.refl _⟩))); done) | fail)) rfl | fail)) | (show G _ _ _ _ (WL _ _ _ _ (⟨some _, .buildSlice _ _ _, _, _, _, none⟩ :: _)); refine G.w1 ?_ (by first | exact LT.bsD (by repeat (first | exact EvR.nil | (apply EvR.cs; exact ⟨_, rfl, by (try (apply Und.gd; assumption; try (apply Und.gd; assumption; try (apply Und.gd; assumption)))); exact Und.refl _⟩; exact rfl) | (apply EvR.c1; exact ⟨_, rfl, by (try (apply Und.gd; assumption; try (apply Und.gd; assumption; try (apply Und.gd; assumption)))); exact Und.refl _⟩; exact rfl; exact rfl))) (by intro r hr; simp only [List.mem_cons, List.not_mem_nil, or_false] at hr; repeat (first | (subst hr; rfl) | (rcases hr with hr | hr))) | fail)) | (show G _ _ _ _ (WL _ _ _ _ (⟨some _, .call { callee := .builtin .append, args := _, argTypes := _ }, _, _, _, none⟩ :: _)); first | refine G.w3 ?_ (by first | exact LT.apB | fail) | refine G.w4 ?_ (by first | exact LT.ap0 | fail)) | (show GD _ _ _ _ _ _ _ _ _ _ (⟨some _, .buildSlice _ _ _, _, _, _, none⟩ :: _); refine GD.w1 ?_ (by first | exact LT.bsD (by repeat (first | exact EvR.nil | (apply EvR.cs; exact ⟨_, rfl, by (try (apply Und.gd; assumption; try (apply Und.gd; assumption; try (apply Und.gd; assumption)))); exact Und.refl _⟩; exact rfl) | (apply EvR.c1; exact ⟨_, rfl, by (try (apply Und.gd; assumption; try (apply Und.gd; assumption; try (apply Und.gd; assumption)))); exact Und.refl _⟩; exact rfl; exact rfl))) (by intro r hr; simp only [List.mem_cons, List.not_mem_nil, or_false] at hr; repeat (first | (subst hr; rfl) | (rcases hr with hr | hr))) | fail)) | (show GD _ _ _ _ _ _ _ _ _ _ (⟨some _, .call { callee := .builtin .append, args := _, argTypes := _ }, _, _, _, none⟩ :: _); first | refine GD.w3 ?_ (by first | exact LT.apB | fail) | refine GD.w4 ?_ (by first | exact LT.ap0 | fail)) | (show G _ _ _ _ (WL _ _ _ _ (⟨some _, _, _, _, _, none⟩ :: _)); first | refine G.r ?_ | refine G.new ?_) | (show G _ _ _ _ (Wp _ _ _ _); first | refine G.seq (fun K hK => ?_) | refine G.reg ?_ | refine G.ret ?_ | refine G.skip ?_ | refine G.exit ?_ | refine G.block ?_ | refine GD.start ?_ | (show G _ _ _ _ (Wp _ _ (Go.Code.cond _ _ _) _); first | refine G.iF ?_ | refine G.iT ?_)) | (show G _ _ _ _ (WL _ _ _ _ []); refine G.nl ?_) | (show G _ _ _ _ (WL _ _ _ _ (⟨none, _, _, _, _, none⟩ :: _)); refine G.sto ?_) | (show G _ _ _ _ (WL _ _ _ _ (⟨some _, _, _, _, _, some _⟩ :: _)); refine G.gl ?_) | refine G.qN ?_ | (refine G.k (by assumption) ?_; clear hK K) | refine G.qR ?_ | refine G.qE ?_ | refine G.bN ?_ | refine G.bR ?_ | refine G.bE ?_ | refine G.bE' ?_ | (show GD _ _ _ _ _ _ _ _ _ _ (⟨some _, _, _, _, _, none⟩ :: _); first | refine GD.r ?_ | refine GD.new ?_) | (show GD _ _ _ _ _ _ _ _ _ _ []; refine GD.done ?_ (by kernel_rfl) (by kernel_rfl)) | (show GD _ _ _ _ _ _ _ _ _ _ (⟨none, _, _, _, _, none⟩ :: _); refine GD.sto ?_) | (show GD _ _ _ _ _ _ _ _ _ _ (⟨some _, _, _, _, _, some _⟩ :: _); refine GD.gl ?_))); (repeat (revert hK; revert K)); exact hQQ.out) : p := k ⟨h⟩
theorem wkT {p q : Prop} (h : q) (k : Bx q → p := by intro hQQ; (repeat intro K hK); (first | (show G _ _ _ _ (WL _ _ _ _ (⟨some _, _, _, _, _, some (_, _)⟩ :: _)); first | refine G.gTt ?_ (by rfl) (by rfl) | refine G.gTn ?_ (by rfl) (by rfl)) | (show G _ _ _ _ (WL _ _ _ _ (⟨some _, .makeFunc _ _ _, _, _, _, none⟩ :: _)); refine G.w1 ?_ (by first | exact LT.rd (Rd.mkf (by first | ((repeat (first | exact EvL.nil | (apply EvL.cons; exact ⟨_, rfl, by (try (apply Und.gd; assumption; try (apply Und.gd; assumption; try (apply Und.gd; assumption)))); exact Und.refl _⟩))); done) | fail)) rfl | exact LT.rd (Rd.mkfA (by first | ((repeat (first | exact EvL.nil | (apply EvL.cons; exact ⟨_, rfl, by (try (apply Und.gd; assumption; try (apply Und.gd; assumption; try (apply Und.gd; assumption)))); exact Und.refl _⟩))); done) | fail)) rfl | fail)) | (show G _ _ _ _ (WL _ _ _ _ (⟨some _, .nilCheck _, _, _, _, none⟩ :: _)); refine G.w1 ?_ (by first | exact LT.rd (Rd.nckP (by exact ⟨_, rfl, Und.refl _⟩)) rfl | exact LT.rd (Rd.nckE (by exact ⟨_, rfl, Und.refl _⟩)) rfl | fail)) | (show GD _ _ _ _ _ _ _ _ _ _ (⟨some _, .makeFunc _ _ _, _, _, _, none⟩ :: _); refine GD.w1 ?_ (by first | exact LT.rd (Rd.mkf (by first | ((repeat (first | exact EvL.nil | (apply EvL.cons; exact ⟨_, rfl, by (try (apply Und.gd; assumption; try (apply Und.gd; assumption; try (apply Und.gd; assumption)))); exact Und.refl _⟩))); done) | fail)) rfl | exact LT.rd (Rd.mkfA (by first | ((repeat (first | exact EvL.nil | (apply EvL.cons; exact ⟨_, rfl, by (try (apply Und.gd; assumption; try (apply Und.gd; assumption; try (apply Und.gd; assumption)))); exact Und.refl _⟩))); done) | fail)) rfl | fail)) | (show G _ _ _ _ (WL _ _ _ _ (⟨some _, .buildSlice _ _ _, _, _, _, none⟩ :: _)); refine G.w1 ?_ (by first | exact LT.bsD (by repeat (first | exact EvR.nil | (apply EvR.cs; exact ⟨_, rfl, by (try (apply Und.gd; assumption; try (apply Und.gd; assumption; try (apply Und.gd; assumption)))); exact Und.refl _⟩; exact rfl) | (apply EvR.c1; exact ⟨_, rfl, by (try (apply Und.gd; assumption; try (apply Und.gd; assumption; try (apply Und.gd; assumption)))); exact Und.refl _⟩; exact rfl; exact rfl))) (by intro r hr; simp only [List.mem_cons, List.not_mem_nil, or_false] at hr; repeat (first | (subst hr; rfl) | (rcases hr with hr | hr))) | fail)) | (show G _ _ _ _ (WL _ _ _ _ (⟨some _, .call { callee := .builtin .append, args := _, argTypes := _ }, _, _, _, none⟩ :: _)); first | refine G.w3 ?_ (by first | exact LT.apB | fail) | refine G.w4 ?_ (by first | exact LT.ap0 | fail)) | (show GD _ _ _ _ _ _ _ _ _ _ (⟨some _, .buildSlice _ _ _, _, _, _, none⟩ :: _); refine GD.w1 ?_ (by first | exact LT.bsD (by repeat (first | exact EvR.nil | (apply EvR.cs; exact ⟨_, rfl, by (try (apply Und.gd; assumption; try (apply Und.gd; assumption; try (apply Und.gd; assumption)))); exact Und.refl _⟩; exact rfl) | (apply EvR.c1; exact ⟨_, rfl, by (try (apply Und.gd; assumption; try (apply Und.gd; assumption; try (apply Und.gd; assumption)))); exact Und.refl _⟩; exact rfl; exact rfl))) (by intro r hr; simp only [List.mem_cons, List.not_mem_nil, or_false] at hr; repeat (first | (subst hr; rfl) | (rcases hr with hr | hr))) | fail)) | (show GD _ _ _ _ _ _ _ _ _ _ (⟨some _, .call { callee := .builtin .append, args := _, argTypes := _ }, _, _, _, none⟩ :: _); first | refine GD.w3 ?_ (by first | exact LT.apB | fail) | refine GD.w4 ?_ (by first | exact LT.ap0 | fail)) | (show G _ _ _ _ (WL _ _ _ _ (⟨some _, _, _, _, _, none⟩ :: _)); first | refine G.r ?_ | refine G.new ?_) | (show G _ _ _ _ (Wp _ _ _ _); first | refine G.seq (fun K hK => ?_) | refine G.reg ?_ | refine G.ret ?_ | refine G.skip ?_ | refine G.exit ?_ | refine G.block ?_ | refine GD.start ?_ | (show G _ _ _ _ (Wp _ _ (Go.Code.cond _ _ _) _); first | refine G.iF ?_ | refine G.iT ?_)) | (show G _ _ _ _ (WL _ _ _ _ []); refine G.nl ?_) | (show G _ _ _ _ (WL _ _ _ _ (⟨none, _, _, _, _, none⟩ :: _)); refine G.sto ?_) | (show G _ _ _ _ (WL _ _ _ _ (⟨some _, _, _, _, _, some _⟩ :: _)); refine G.gl ?_) | refine G.qN ?_ | (refine G.k (by assumption) ?_; clear hK K) | refine G.qR ?_ | refine G.qE ?_ | refine G.bN ?_ | refine G.bR ?_ | refine G.bE ?_ | refine G.bE' ?_ | (show GD _ _ _ _ _ _ _ _ _ _ (⟨some _, _, _, _, _, none⟩ :: _); first | refine GD.r ?_ | refine GD.new ?_) | (show GD _ _ _ _ _ _ _ _ _ _ []; refine GD.done ?_ (by kernel_rfl) (by kernel_rfl)) | (show GD _ _ _ _ _ _ _ _ _ _ (⟨none, _, _, _, _, none⟩ :: _); refine GD.sto ?_) | (show GD _ _ _ _ _ _ _ _ _ _ (⟨some _, _, _, _, _, some _⟩ :: _); refine GD.gl ?_)); (repeat (first | (show G _ _ _ _ (WL _ _ _ _ (⟨some _, _, _, _, _, some (_, _)⟩ :: _)); first | refine G.gTt ?_ (by rfl) (by rfl) | refine G.gTn ?_ (by rfl) (by rfl)) | (show G _ _ _ _ (WL _ _ _ _ (⟨some _, .makeFunc _ _ _, _, _, _, none⟩ :: _)); refine G.w1 ?_ (by first | exact LT.rd (Rd.mkf (by first | ((repeat (first | exact EvL.nil | (apply EvL.cons; exact ⟨_, rfl, by (try (apply Und.gd; assumption; try (apply Und.gd; assumption; try (apply Und.gd; assumption)))); exact Und.refl _⟩))); done) | fail)) rfl | exact LT.rd (Rd.mkfA (by first | ((repeat (first | exact EvL.nil | (apply EvL.cons; exact ⟨_, rfl, by (try (apply Und.gd; assumption; try (apply Und.gd; assumption; try (apply Und.gd; assumption)))); exact Und.refl _⟩))); done) | fail)) rfl | fail)) | (show G _ _ _ _ (WL _ _ _ _ (⟨some _, .nilCheck _, _, _, _, none⟩ :: _)); refine G.w1 ?_ (by first | exact LT.rd (Rd.nckP (by exact ⟨_, rfl, Und.refl _⟩)) rfl | exact LT.rd (Rd.nckE (by exact ⟨_, rfl, Und.refl _⟩)) rfl | fail)) | (show GD _ _ _ _ _ _ _ _ _ _ (⟨some _, .makeFunc _ _ _, _, _, _, none⟩ :: _); refine GD.w1 ?_ (by first | exact LT.rd (Rd.mkf (by first | ((repeat (first | exact EvL.nil | (apply EvL.cons; exact ⟨_, rfl, by (try (apply Und.gd; assumption; try (apply Und.gd; assumption; try (apply Und.gd; assumption)))); exact Und.refl _⟩))); done) | fail)) rfl | exact LT.rd (Rd.mkfA (by first | ((repeat (first | exact EvL.nil | (apply EvL.cons; exact ⟨_, rfl, by (try (apply Und.gd; assumption; try (apply Und.gd; assumption; try (apply Und.gd; assumption)))); exact Und.refl _⟩))); done) | fail)) rfl | fail)) | (show G _ _ _ _ (WL _ _ _ _ (⟨some _, .buildSlice _ _ _, _, _, _, none⟩ :: _)); refine G.w1 ?_ (by first | exact LT.bsD (by repeat (first | exact EvR.nil | (apply EvR.cs; exact ⟨_, rfl, by (try (apply Und.gd; assumption; try (apply Und.gd; assumption; try (apply Und.gd; assumption)))); exact Und.refl _⟩; exact rfl) | (apply EvR.c1; exact ⟨_, rfl, by (try (apply Und.gd; assumption; try (apply Und.gd; assumption; try (apply Und.gd; assumption)))); exact Und.refl _⟩; exact rfl; exact rfl))) (by intro r hr; simp only [List.mem_cons, List.not_mem_nil, or_false] at hr; repeat (first | (subst hr; rfl) | (rcases hr with hr | hr))) | fail)) | (show G _ _ _ _ (WL _ _ _ _ (⟨some _, .call { callee := .builtin .append, args := _, argTypes := _ }, _, _, _, none⟩ :: _)); first | refine G.w3 ?_ (by first | exact LT.apB | fail) | refine G.w4 ?_ (by first | exact LT.ap0 | fail)) | (show GD _ _ _ _ _ _ _ _ _ _ (⟨some _, .buildSlice _ _ _, _, _, _, none⟩ :: _); refine GD.w1 ?_ (by first | exact LT.bsD (by repeat (first | exact EvR.nil | (apply EvR.cs; exact ⟨_, rfl, by (try (apply Und.gd; assumption; try (apply Und.gd; assumption; try (apply Und.gd; assumption)))); exact Und.refl _⟩; exact rfl) | (apply EvR.c1; exact ⟨_, rfl, by (try (apply Und.gd; assumption; try (apply Und.gd; assumption; try (apply Und.gd; assumption)))); exact Und.refl _⟩; exact rfl; exact rfl))) (by intro r hr; simp only [List.mem_cons, List.not_mem_nil, or_false] at hr; repeat (first | (subst hr; rfl) | (rcases hr with hr | hr))) | fail)) | (show GD _ _ _ _ _ _ _ _ _ _ (⟨some _, .call { callee := .builtin .append, args := _, argTypes := _ }, _, _, _, none⟩ :: _); first | refine GD.w3 ?_ (by first | exact LT.apB | fail) | refine GD.w4 ?_ (by first | exact LT.ap0 | fail)) | (show G _ _ _ _ (WL _ _ _ _ (⟨some _, _, _, _, _, none⟩ :: _)); first | refine G.r ?_ | refine G.new ?_) | (show G _ _ _ _ (Wp _ _ _ _); first | refine G.seq (fun K hK => ?_) | refine G.reg ?_ | refine G.ret ?_ | refine G.skip ?_ | refine G.exit ?_ | refine G.block ?_ | refine GD.start ?_ | (show G _ _ _ _ (Wp _ _ (Go.Code.cond _ _ _) _); first | refine G.iF ?_ | refine G.iT ?_)) | (show G _ _ _ _ (WL _ _ _ _ []); refine G.nl ?_) | (show G _ _ _ _ (WL _ _ _ _ (⟨none, _, _, _, _, none⟩ :: _)); refine G.sto ?_) | (show G _ _ _ _ (WL _ _ _ _ (⟨some _, _, _, _, _, some _⟩ :: _)); refine G.gl ?_) | refine G.qN ?_ | (refine G.k (by assumption) ?_; clear hK K) | refine G.qR ?_ | refine G.qE ?_ | refine G.bN ?_ | refine G.bR ?_ | refine G.bE ?_ | refine G.bE' ?_ | (show GD _ _ _ _ _ _ _ _ _ _ (⟨some _, _, _, _, _, none⟩ :: _); first | refine GD.r ?_ | refine GD.new ?_) | (show GD _ _ _ _ _ _ _ _ _ _ []; refine GD.done ?_ (by kernel_rfl) (by kernel_rfl)) | (show GD _ _ _ _ _ _ _ _ _ _ (⟨none, _, _, _, _, none⟩ :: _); refine GD.sto ?_) | (show GD _ _ _ _ _ _ _ _ _ _ (⟨some _, _, _, _, _, some _⟩ :: _); refine GD.gl ?_))); (repeat (revert hK; revert K)); exact hQQ.out) : p := k ⟨h⟩
theorem wkG {p q : Prop} (h : q) (k : Bx q → p := by intro hQQ; (repeat intro K hK); (first | (show GD _ _ _ _ _ _ _ _ _ _ (⟨some _, _, _, _, _, some (_, true)⟩ :: _); first | refine GD.gr ?_ (by rfl) (by rfl) (by rfl) | refine GD.gTt ?_ (by rfl) (by rfl) (by first | exact LT.bsD (by repeat (first | exact EvR.nil | (apply EvR.cs; exact ⟨_, rfl, by (try (apply Und.gd; assumption; try (apply Und.gd; assumption; try (apply Und.gd; assumption)))); exact Und.refl _⟩; exact rfl) | (apply EvR.c1; exact ⟨_, rfl, by (try (apply Und.gd; assumption; try (apply Und.gd; assumption; try (apply Und.gd; assumption)))); exact Und.refl _⟩; exact rfl; exact rfl))) (by intro r hr; simp only [List.mem_cons, List.not_mem_nil, or_false] at hr; repeat (first | (subst hr; rfl) | (rcases hr with hr | hr))) | fail)) | (show G _ _ _ _ (WL _ _ _ _ (⟨some _, _, _, _, _, some (_, _)⟩ :: _)); first | refine G.gTt ?_ (by rfl) (by rfl) | refine G.gTn ?_ (by rfl) (by rfl)) | (show G _ _ _ _ (WL _ _ _ _ (⟨some _, .makeFunc _ _ _, _, _, _, none⟩ :: _)); refine G.w1 ?_ (by first | exact LT.rd (Rd.mkf (by first | ((repeat (first | exact EvL.nil | (apply EvL.cons; exact ⟨_, rfl, by (try (apply Und.gd; assumption; try (apply Und.gd; assumption; try (apply Und.gd; assumption)))); exact Und.refl _⟩))); done) | fail)) rfl | exact LT.rd (Rd.mkfA (by first | ((repeat (first | exact EvL.nil | (apply EvL.cons; exact ⟨_, rfl, by (try (apply Und.gd; assumption; try (apply Und.gd; assumption; try (apply Und.gd; assumption)))); exact Und.refl _⟩))); done) | fail)) rfl | fail)) | (show G _ _ _ _ (WL _ _ _ _ (⟨some _, .nilCheck _, _, _, _, none⟩ :: _)); refine G.w1 ?_ (by first | exact LT.rd (Rd.nckP (by exact ⟨_, rfl, Und.refl _⟩)) rfl | exact LT.rd (Rd.nckE (by exact ⟨_, rfl, Und.refl _⟩)) rfl | fail)) | (show GD _ _ _ _ _ _ _ _ _ _ (⟨some _, .makeFunc _ _ _, _, _, _, none⟩ :: _); refine GD.w1 ?_ (by first | exact LT.rd (Rd.mkf (by first | ((repeat (first | exact EvL.nil | (apply EvL.cons; exact ⟨_, rfl, by (try (apply Und.gd; assumption; try (apply Und.gd; assumption; try (apply Und.gd; assumption)))); exact Und.refl _⟩))); done) | fail)) rfl | exact LT.rd (Rd.mkfA (by first | ((repeat (first | exact EvL.nil | (apply EvL.cons; exact ⟨_, rfl, by (try (apply Und.gd; assumption; try (apply Und.gd; assumption; try (apply Und.gd; assumption)))); exact Und.refl _⟩))); done) | fail)) rfl | fail)) | (show G _ _ _ _ (WL _ _ _ _ (⟨some _, .buildSlice _ _ _, _, _, _, none⟩ :: _)); refine G.w1 ?_ (by first | exact LT.bsD (by repeat (first | exact EvR.nil | (apply EvR.cs; exact ⟨_, rfl, by (try (apply Und.gd; assumption; try (apply Und.gd; assumption; try (apply Und.gd; assumption)))); exact Und.refl _⟩; exact rfl) | (apply EvR.c1; exact ⟨_, rfl, by (try (apply Und.gd; assumption; try (apply Und.gd; assumption; try (apply Und.gd; assumption)))); exact Und.refl _⟩; exact rfl; exact rfl))) (by intro r hr; simp only [List.mem_cons, List.not_mem_nil, or_false] at hr; repeat (first | (subst hr; rfl) | (rcases hr with hr | hr))) | fail)) | (show G _ _ _ _ (WL _ _ _ _ (⟨some _, .call { callee := .builtin .append, args := _, argTypes := _ }, _, _, _, none⟩ :: _)); first | refine G.w3 ?_ (by first | exact LT.apB | fail) | refine G.w4 ?_ (by first | exact LT.ap0 | fail)) | (show GD _ _ _ _ _ _ _ _ _ _ (⟨some _, .buildSlice _ _ _, _, _, _, none⟩ :: _); refine GD.w1 ?_ (by first | exact LT.bsD (by repeat (first | exact EvR.nil | (apply EvR.cs; exact ⟨_, rfl, by (try (apply Und.gd; assumption; try (apply Und.gd; assumption; try (apply Und.gd; assumption)))); exact Und.refl _⟩; exact rfl) | (apply EvR.c1; exact ⟨_, rfl, by (try (apply Und.gd; assumption; try (apply Und.gd; assumption; try (apply Und.gd; assumption)))); exact Und.refl _⟩; exact rfl; exact rfl))) (by intro r hr; simp only [List.mem_cons, List.not_mem_nil, or_false] at hr; repeat (first | (subst hr; rfl) | (rcases hr with hr | hr))) | fail)) | (show GD _ _ _ _ _ _ _ _ _ _ (⟨some _, .call { callee := .builtin .append, args := _, argTypes := _ }, _, _, _, none⟩ :: _); first | refine GD.w3 ?_ (by first | exact LT.apB | fail) | refine GD.w4 ?_ (by first | exact LT.ap0 | fail)) | (show G _ _ _ _ (WL _ _ _ _ (⟨some _, _, _, _, _, none⟩ :: _)); first | refine G.r ?_ | refine G.new ?_) | (show G _ _ _ _ (Wp _ _ _ _); first | refine G.seq (fun K hK => ?_) | refine G.reg ?_ | refine G.ret ?_ | refine G.skip ?_ | refine G.exit ?_ | refine G.block ?_ | refine GD.start ?_ | (show G _ _ _ _ (Wp _ _ (Go.Code.cond _ _ _) _); first | refine G.iF ?_ | refine G.iT ?_)) | (show G _ _ _ _ (WL _ _ _ _ []); refine G.nl ?_) | (show G _ _ _ _ (WL _ _ _ _ (⟨none, _, _, _, _, none⟩ :: _)); refine G.sto ?_) | (show G _ _ _ _ (WL _ _ _ _ (⟨some _, _, _, _, _, some _⟩ :: _)); refine G.gl ?_) | refine G.qN ?_ | (refine G.k (by assumption) ?_; clear hK K) | refine G.qR ?_ | refine G.qE ?_ | refine G.bN ?_ | refine G.bR ?_ | refine G.bE ?_ | refine G.bE' ?_ | (show GD _ _ _ _ _ _ _ _ _ _ (⟨some _, _, _, _, _, none⟩ :: _); first | refine GD.r ?_ | refine GD.new ?_) | (show GD _ _ _ _ _ _ _ _ _ _ []; refine GD.done ?_ (by kernel_rfl) (by kernel_rfl)) | (show GD _ _ _ _ _ _ _ _ _ _ (⟨none, _, _, _, _, none⟩ :: _); refine GD.sto ?_) | (show GD _ _ _ _ _ _ _ _ _ _ (⟨some _, _, _, _, _, some _⟩ :: _); refine GD.gl ?_)); (repeat (first | (show GD _ _ _ _ _ _ _ _ _ _ (⟨some _, _, _, _, _, some (_, true)⟩ :: _); first | refine GD.gr ?_ (by rfl) (by rfl) (by rfl) | refine GD.gTt ?_ (by rfl) (by rfl) (by first | exact LT.bsD (by repeat (first | exact EvR.nil | (apply EvR.cs; exact ⟨_, rfl, by (try (apply Und.gd; assumption; try (apply Und.gd; assumption; try (apply Und.gd; assumption)))); exact Und.refl _⟩; exact rfl) | (apply EvR.c1; exact ⟨_, rfl, by (try (apply Und.gd; assumption; try (apply Und.gd; assumption; try (apply Und.gd; assumption)))); exact Und.refl _⟩; exact rfl; exact rfl))) (by intro r hr; simp only [List.mem_cons, List.not_mem_nil, or_false] at hr; repeat (first | (subst hr; rfl) | (rcases hr with hr | hr))) | fail)) | (show G _ _ _ _ (WL _ _ _ _ (⟨some _, _, _, _, _, some (_, _)⟩ :: _)); first | refine G.gTt ?_ (by rfl) (by rfl) | refine G.gTn ?_ (by rfl) (by rfl)) | (show G _ _ _ _ (WL _ _ _ _ (⟨some _, .makeFunc _ _ _, _, _, _, none⟩ :: _)); refine G.w1 ?_ (by first | exact LT.rd (Rd.mkf (by first | ((repeat (first | exact EvL.nil | (apply EvL.cons; exact ⟨_, rfl, by (try (apply Und.gd; assumption; try (apply Und.gd; assumption; try (apply Und.gd; assumption)))); exact Und.refl _⟩))); done) | fail)) rfl | exact LT.rd (Rd.mkfA (by first | ((repeat (first | exact EvL.nil | (apply EvL.cons; exact ⟨_, rfl, by (try (apply Und.gd; assumption; try (apply Und.gd; assumption; try (apply Und.gd; assumption)))); exact Und.refl _⟩))); done) | fail)) rfl | fail)) | (show G _ _ _ _ (WL _ _ _ _ (⟨some _, .nilCheck _, _, _, _, none⟩ :: _)); refine G.w1 ?_ (by first | exact LT.rd (Rd.nckP (by exact ⟨_, rfl, Und.refl _⟩)) rfl | exact LT.rd (Rd.nckE (by exact ⟨_, rfl, Und.refl _⟩)) rfl | fail)) | (show GD _ _ _ _ _ _ _ _ _ _ (⟨some _, .makeFunc _ _ _, _, _, _, none⟩ :: _); refine GD.w1 ?_ (by first | exact LT.rd (Rd.mkf (by first | ((repeat (first | exact EvL.nil | (apply EvL.cons; exact ⟨_, rfl, by (try (apply Und.gd; assumption; try (apply Und.gd; assumption; try (apply Und.gd; assumption)))); exact Und.refl _⟩))); done) | fail)) rfl | exact LT.rd (Rd.mkfA (by first | ((repeat (first | exact EvL.nil | (apply EvL.cons; exact ⟨_, rfl, by (try (apply Und.gd; assumption; try (apply Und.gd; assumption; try (apply Und.gd; assumption)))); exact Und.refl _⟩))); done) | fail)) rfl | fail)) | (show G _ _ _ _ (WL _ _ _ _ (⟨some _, .buildSlice _ _ _, _, _, _, none⟩ :: _)); refine G.w1 ?_ (by first | exact LT.bsD (by repeat (first | exact EvR.nil | (apply EvR.cs; exact ⟨_, rfl, by (try (apply Und.gd; assumption; try (apply Und.gd; assumption; try (apply Und.gd; assumption)))); exact Und.refl _⟩; exact rfl) | (apply EvR.c1; exact ⟨_, rfl, by (try (apply Und.gd; assumption; try (apply Und.gd; assumption; try (apply Und.gd; assumption)))); exact Und.refl _⟩; exact rfl; exact rfl))) (by intro r hr; simp only [List.mem_cons, List.not_mem_nil, or_false] at hr; repeat (first | (subst hr; rfl) | (rcases hr with hr | hr))) | fail)) | (show G _ _ _ _ (WL _ _ _ _ (⟨some _, .call { callee := .builtin .append, args := _, argTypes := _ }, _, _, _, none⟩ :: _)); first | refine G.w3 ?_ (by first | exact LT.apB | fail) | refine G.w4 ?_ (by first | exact LT.ap0 | fail)) | (show GD _ _ _ _ _ _ _ _ _ _ (⟨some _, .buildSlice _ _ _, _, _, _, none⟩ :: _); refine GD.w1 ?_ (by first | exact LT.bsD (by repeat (first | exact EvR.nil | (apply EvR.cs; exact ⟨_, rfl, by (try (apply Und.gd; assumption; try (apply Und.gd; assumption; try (apply Und.gd; assumption)))); exact Und.refl _⟩; exact rfl) | (apply EvR.c1; exact ⟨_, rfl, by (try (apply Und.gd; assumption; try (apply Und.gd; assumption; try (apply Und.gd; assumption)))); exact Und.refl _⟩; exact rfl; exact rfl))) (by intro r hr; simp only [List.mem_cons, List.not_mem_nil, or_false] at hr; repeat (first | (subst hr; rfl) | (rcases hr with hr | hr))) | fail)) | (show GD _ _ _ _ _ _ _ _ _ _ (⟨some _, .call { callee := .builtin .append, args := _, argTypes := _ }, _, _, _, none⟩ :: _); first | refine GD.w3 ?_ (by first | exact LT.apB | fail) | refine GD.w4 ?_ (by first | exact LT.ap0 | fail)) | (show G _ _ _ _ (WL _ _ _ _ (⟨some _, _, _, _, _, none⟩ :: _)); first | refine G.r ?_ | refine G.new ?_) | (show G _ _ _ _ (Wp _ _ _ _); first | refine G.seq (fun K hK => ?_) | refine G.reg ?_ | refine G.ret ?_ | refine G.skip ?_ | refine G.exit ?_ | refine G.block ?_ | refine GD.start ?_ | (show G _ _ _ _ (Wp _ _ (Go.Code.cond _ _ _) _); first | refine G.iF ?_ | refine G.iT ?_)) | (show G _ _ _ _ (WL _ _ _ _ []); refine G.nl ?_) | (show G _ _ _ _ (WL _ _ _ _ (⟨none, _, _, _, _, none⟩ :: _)); refine G.sto ?_) | (show G _ _ _ _ (WL _ _ _ _ (⟨some _, _, _, _, _, some _⟩ :: _)); refine G.gl ?_) | refine G.qN ?_ | (refine G.k (by assumption) ?_; clear hK K) | refine G.qR ?_ | refine G.qE ?_ | refine G.bN ?_ | refine G.bR ?_ | refine G.bE ?_ | refine G.bE' ?_ | (show GD _ _ _ _ _ _ _ _ _ _ (⟨some _, _, _, _, _, none⟩ :: _); first | refine GD.r ?_ | refine GD.new ?_) | (show GD _ _ _ _ _ _ _ _ _ _ []; refine GD.done ?_ (by kernel_rfl) (by kernel_rfl)) | (show GD _ _ _ _ _ _ _ _ _ _ (⟨none, _, _, _, _, none⟩ :: _); refine GD.sto ?_) | (show GD _ _ _ _ _ _ _ _ _ _ (⟨some _, _, _, _, _, some _⟩ :: _); refine GD.gl ?_))); (repeat (revert hK; revert K)); exact hQQ.out) : p := k ⟨h⟩
theorem wkO {p q : Prop} (h : q) (k : Bx q → p := by intro hQQ; (repeat intro K hK); (first | (show G _ _ _ _ (WL _ _ _ _ (⟨some _, .makeFunc _ _ _, _, _, _, none⟩ :: _)); refine G.w1 ?_ (by first | exact LT.rd (Rd.mkf (by first | ((repeat (first | exact EvL.nil | (apply EvL.cons; exact ⟨_, rfl, by (try (apply Und.gd; assumption; try (apply Und.gd; assumption; try (apply Und.gd; assumption)))); exact Und.refl _⟩))); done) | fail)) rfl | exact LT.rd (Rd.mkfA (by first | ((repeat (first | exact EvL.nil | (apply EvL.cons; exact ⟨_, rfl, by (try (apply Und.gd; assumption; try (apply Und.gd; assumption; try (apply Und.gd; assumption)))); exact Und.refl _⟩))); done) | fail)) rfl | fail)) | (show G _ _ _ _ (WL _ _ _ _ (⟨some _, .nilCheck _, _, _, _, none⟩ :: _)); refine G.w1 ?_ (by first | exact LT.rd (Rd.nckP (by exact ⟨_, rfl, Und.refl _⟩)) rfl | exact LT.rd (Rd.nckE (by exact ⟨_, rfl, Und.refl _⟩)) rfl | fail)) | (show GD _ _ _ _ _ _ _ _ _ _ (⟨some _, .makeFunc _ _ _, _, _, _, none⟩ :: _); refine GD.w1 ?_ (by first | exact LT.rd (Rd.mkf (by first | ((repeat (first | exact EvL.nil | (apply EvL.cons; exact ⟨_, rfl, by (try (apply Und.gd; assumption; try (apply Und.gd; assumption; try (apply Und.gd; assumption)))); exact Und.refl _⟩))); done) | fail)) rfl | exact LT.rd (Rd.mkfA (by first | ((repeat (first | exact EvL.nil | (apply EvL.cons; exact ⟨_, rfl, by (try (apply Und.gd; assumption; try (apply Und.gd; assumption; try (apply Und.gd; assumption)))); exact Und.refl _⟩))); done) | fail)) rfl | fail)) | (show G _ _ _ _ (WL _ _ _ _ (⟨some _, .buildSlice _ _ _, _, _, _, none⟩ :: _)); refine G.w2 ?_ (by first | exact LT.bsO (by repeat (first | exact EvR.nil | (apply EvR.cs; exact ⟨_, rfl, by (try (apply Und.gd; assumption; try (apply Und.gd; assumption; try (apply Und.gd; assumption)))); exact Und.refl _⟩; exact rfl) | (apply EvR.c1; exact ⟨_, rfl, by (try (apply Und.gd; assumption; try (apply Und.gd; assumption; try (apply Und.gd; assumption)))); exact Und.refl _⟩; exact rfl; exact rfl))) (by intro r hr; simp only [List.mem_cons, List.not_mem_nil, or_false] at hr; repeat (first | (subst hr; rfl) | (rcases hr with hr | hr))) | fail)) | (show G _ _ _ _ (WL _ _ _ _ (⟨some _, .call { callee := .builtin .append, args := _, argTypes := _ }, _, _, _, none⟩ :: _)); first | refine G.w3 ?_ (by first | exact LT.apB | fail) | refine G.w4 ?_ (by first | exact LT.ap0 | fail)) | (show GD _ _ _ _ _ _ _ _ _ _ (⟨some _, .buildSlice _ _ _, _, _, _, none⟩ :: _); refine GD.w1 ?_ (by first | exact LT.bsD (by repeat (first | exact EvR.nil | (apply EvR.cs; exact ⟨_, rfl, by (try (apply Und.gd; assumption; try (apply Und.gd; assumption; try (apply Und.gd; assumption)))); exact Und.refl _⟩; exact rfl) | (apply EvR.c1; exact ⟨_, rfl, by (try (apply Und.gd; assumption; try (apply Und.gd; assumption; try (apply Und.gd; assumption)))); exact Und.refl _⟩; exact rfl; exact rfl))) (by intro r hr; simp only [List.mem_cons, List.not_mem_nil, or_false] at hr; repeat (first | (subst hr; rfl) | (rcases hr with hr | hr))) | fail)) | (show GD _ _ _ _ _ _ _ _ _ _ (⟨some _, .call { callee := .builtin .append, args := _, argTypes := _ }, _, _, _, none⟩ :: _); first | refine GD.w3 ?_ (by first | exact LT.apB | fail) | refine GD.w4 ?_ (by first | exact LT.ap0 | fail)) | (show G _ _ _ _ (WL _ _ _ _ (⟨some _, _, _, _, _, none⟩ :: _)); first | refine G.r ?_ | refine G.new ?_) | (show G _ _ _ _ (Wp _ _ _ _); first | refine G.seq (fun K hK => ?_) | refine G.reg ?_ | refine G.ret ?_ | refine G.skip ?_ | refine G.exit ?_ | refine G.block ?_ | refine GD.start ?_ | (show G _ _ _ _ (Wp _ _ (Go.Code.cond _ _ _) _); first | refine G.iF ?_ | refine G.iT ?_)) | (show G _ _ _ _ (WL _ _ _ _ []); refine G.nl ?_) | (show G _ _ _ _ (WL _ _ _ _ (⟨none, _, _, _, _, none⟩ :: _)); refine G.sto ?_) | (show G _ _ _ _ (WL _ _ _ _ (⟨some _, _, _, _, _, some _⟩ :: _)); refine G.gl ?_) | refine G.qN ?_ | (refine G.k (by assumption) ?_; clear hK K) | refine G.qR ?_ | refine G.qE ?_ | refine G.bN ?_ | refine G.bR ?_ | refine G.bE ?_ | refine G.bE' ?_ | (show GD _ _ _ _ _ _ _ _ _ _ (⟨some _, _, _, _, _, none⟩ :: _); first | refine GD.r ?_ | refine GD.new ?_) | (show GD _ _ _ _ _ _ _ _ _ _ []; refine GD.done ?_ (by kernel_rfl) (by kernel_rfl)) | (show GD _ _ _ _ _ _ _ _ _ _ (⟨none, _, _, _, _, none⟩ :: _); refine GD.sto ?_) | (show GD _ _ _ _ _ _ _ _ _ _ (⟨some _, _, _, _, _, some _⟩ :: _); refine GD.gl ?_)); (repeat (first | (show G _ _ _ _ (WL _ _ _ _ (⟨some _, .makeFunc _ _ _, _, _, _, none⟩ :: _)); refine G.w1 ?_ (by first | exact LT.rd (Rd.mkf (by first | ((repeat (first | exact EvL.nil | (apply EvL.cons; exact ⟨_, rfl, by (try (apply Und.gd; assumption; try (apply Und.gd; assumption; try (apply Und.gd; assumption)))); exact Und.refl _⟩))); done) | fail)) rfl | exact LT.rd (Rd.mkfA (by first | ((repeat (first | exact EvL.nil | (apply EvL.cons; exact ⟨_, rfl, by (try (apply Und.gd; assumption; try (apply Und.gd; assumption; try (apply Und.gd; assumption)))); exact Und.refl _⟩))); done) | fail)) rfl | fail)) | (show G _ _ _ _ (WL _ _ _ _ (⟨some _, .nilCheck _, _, _, _, none⟩ :: _)); refine G.w1 ?_ (by first | exact LT.rd (Rd.nckP (by exact ⟨_, rfl, Und.refl _⟩)) rfl | exact LT.rd (Rd.nckE (by exact ⟨_, rfl, Und.refl _⟩)) rfl | fail)) | (show GD _ _ _ _ _ _ _ _ _ _ (⟨some _, .makeFunc _ _ _, _, _, _, none⟩ :: _); refine GD.w1 ?_ (by first | exact LT.rd (Rd.mkf (by first | ((repeat (first | exact EvL.nil | (apply EvL.cons; exact ⟨_, rfl, by (try (apply Und.gd; assumption; try (apply Und.gd; assumption; try (apply Und.gd; assumption)))); exact Und.refl _⟩))); done) | fail)) rfl | exact LT.rd (Rd.mkfA (by first | ((repeat (first | exact EvL.nil | (apply EvL.cons; exact ⟨_, rfl, by (try (apply Und.gd; assumption; try (apply Und.gd; assumption; try (apply Und.gd; assumption)))); exact Und.refl _⟩))); done) | fail)) rfl | fail)) | (show G _ _ _ _ (WL _ _ _ _ (⟨some _, .buildSlice _ _ _, _, _, _, none⟩ :: _)); refine G.w2 ?_ (by first | exact LT.bsO (by repeat (first | exact EvR.nil | (apply EvR.cs; exact ⟨_, rfl, by (try (apply Und.gd; assumption; try (apply Und.gd; assumption; try (apply Und.gd; assumption)))); exact Und.refl _⟩; exact rfl) | (apply EvR.c1; exact ⟨_, rfl, by (try (apply Und.gd; assumption; try (apply Und.gd; assumption; try (apply Und.gd; assumption)))); exact Und.refl _⟩; exact rfl; exact rfl))) (by intro r hr; simp only [List.mem_cons, List.not_mem_nil, or_false] at hr; repeat (first | (subst hr; rfl) | (rcases hr with hr | hr))) | fail)) | (show G _ _ _ _ (WL _ _ _ _ (⟨some _, .call { callee := .builtin .append, args := _, argTypes := _ }, _, _, _, none⟩ :: _)); first | refine G.w3 ?_ (by first | exact LT.apB | fail) | refine G.w4 ?_ (by first | exact LT.ap0 | fail)) | (show GD _ _ _ _ _ _ _ _ _ _ (⟨some _, .buildSlice _ _ _, _, _, _, none⟩ :: _); refine GD.w1 ?_ (by first | exact LT.bsD (by repeat (first | exact EvR.nil | (apply EvR.cs; exact ⟨_, rfl, by (try (apply Und.gd; assumption; try (apply Und.gd; assumption; try (apply Und.gd; assumption)))); exact Und.refl _⟩; exact rfl) | (apply EvR.c1; exact ⟨_, rfl, by (try (apply Und.gd; assumption; try (apply Und.gd; assumption; try (apply Und.gd; assumption)))); exact Und.refl _⟩; exact rfl; exact rfl))) (by intro r hr; simp only [List.mem_cons, List.not_mem_nil, or_false] at hr; repeat (first | (subst hr; rfl) | (rcases hr with hr | hr))) | fail)) | (show GD _ _ _ _ _ _ _ _ _ _ (⟨some _, .call { callee := .builtin .append, args := _, argTypes := _ }, _, _, _, none⟩ :: _); first | refine GD.w3 ?_ (by first | exact LT.apB | fail) | refine GD.w4 ?_ (by first | exact LT.ap0 | fail)) | (show G _ _ _ _ (WL _ _ _ _ (⟨some _, _, _, _, _, none⟩ :: _)); first | refine G.r ?_ | refine G.new ?_) | (show G _ _ _ _ (Wp _ _ _ _); first | refine G.seq (fun K hK => ?_) | refine G.reg ?_ | refine G.ret ?_ | refine G.skip ?_ | refine G.exit ?_ | refine G.block ?_ | refine GD.start ?_ | (show G _ _ _ _ (Wp _ _ (Go.Code.cond _ _ _) _); first | refine G.iF ?_ | refine G.iT ?_)) | (show G _ _ _ _ (WL _ _ _ _ []); refine G.nl ?_) | (show G _ _ _ _ (WL _ _ _ _ (⟨none, _, _, _, _, none⟩ :: _)); refine G.sto ?_) | (show G _ _ _ _ (WL _ _ _ _ (⟨some _, _, _, _, _, some _⟩ :: _)); refine G.gl ?_) | refine G.qN ?_ | (refine G.k (by assumption) ?_; clear hK K) | refine G.qR ?_ | refine G.qE ?_ | refine G.bN ?_ | refine G.bR ?_ | refine G.bE ?_ | refine G.bE' ?_ | (show GD _ _ _ _ _ _ _ _ _ _ (⟨some _, _, _, _, _, none⟩ :: _); first | refine GD.r ?_ | refine GD.new ?_) | (show GD _ _ _ _ _ _ _ _ _ _ []; refine GD.done ?_ (by kernel_rfl) (by kernel_rfl)) | (show GD _ _ _ _ _ _ _ _ _ _ (⟨none, _, _, _, _, none⟩ :: _); refine GD.sto ?_) | (show GD _ _ _ _ _ _ _ _ _ _ (⟨some _, _, _, _, _, some _⟩ :: _); refine GD.gl ?_))); (repeat (revert hK; revert K)); exact hQQ.out) : p := k ⟨h⟩
theorem wkS {p q : Prop} (h : q) (k : Bx q → p := by intro hQQ; (repeat intro K hK); (first | (show G _ _ _ _ (WL _ _ _ _ (⟨some _, .makeFunc _ _ _, _, _, _, none⟩ :: _)); refine G.w1 ?_ (by first | exact LT.rd (Rd.mkf (by first | ((repeat (first | exact EvL.nil | (apply EvL.cons; exact ⟨_, rfl, by (try (apply Und.gd; assumption; try (apply Und.gd; assumption; try (apply Und.gd; assumption)))); exact Und.refl _⟩))); done) | fail)) rfl | exact LT.rd (Rd.mkfA (by first | ((repeat (first | exact EvL.nil | (apply EvL.cons; exact ⟨_, rfl, by (try (apply Und.gd; assumption; try (apply Und.gd; assumption; try (apply Und.gd; assumption)))); exact Und.refl _⟩))); done) | fail)) rfl | fail)) | (show G _ _ _ _ (WL _ _ _ _ (⟨some _, .nilCheck _, _, _, _, none⟩ :: _)); refine G.w1 ?_ (by first | exact LT.rd (Rd.nckP (by exact ⟨_, rfl, Und.refl _⟩)) rfl | exact LT.rd (Rd.nckE (by exact ⟨_, rfl, Und.refl _⟩)) rfl | fail)) | (show GD _ _ _ _ _ _ _ _ _ _ (⟨some _, .makeFunc _ _ _, _, _, _, none⟩ :: _); refine GD.w1 ?_ (by first | exact LT.rd (Rd.mkf (by first | ((repeat (first | exact EvL.nil | (apply EvL.cons; exact ⟨_, rfl, by (try (apply Und.gd; assumption; try (apply Und.gd; assumption; try (apply Und.gd; assumption)))); exact Und.refl _⟩))); done) | fail)) rfl | exact LT.rd (Rd.mkfA (by first | ((repeat (first | exact EvL.nil | (apply EvL.cons; exact ⟨_, rfl, by (try (apply Und.gd; assumption; try (apply Und.gd; assumption; try (apply Und.gd; assumption)))); exact Und.refl _⟩))); done) | fail)) rfl | fail)) | (show G _ _ _ _ (WL _ _ _ _ (⟨some _, .buildSlice _ _ _, _, _, _, none⟩ :: _)); refine G.w1 ?_ (by first | exact LT.bsD (by repeat (first | exact EvR.nil | (apply EvR.cs; exact ⟨_, rfl, by (try (apply Und.gd; assumption; try (apply Und.gd; assumption; try (apply Und.gd; assumption)))); exact Und.refl _⟩; exact rfl) | (apply EvR.c1; exact ⟨_, rfl, by (try (apply Und.gd; assumption; try (apply Und.gd; assumption; try (apply Und.gd; assumption)))); exact Und.refl _⟩; exact rfl; exact rfl))) (by intro r hr; simp only [List.mem_cons, List.not_mem_nil, or_false] at hr; repeat (first | (subst hr; rfl) | (rcases hr with hr | hr))) | fail)) | (show G _ _ _ _ (WL _ _ _ _ (⟨some _, .call { callee := .builtin .append, args := _, argTypes := _ }, _, _, _, none⟩ :: _)); first | refine G.w3 ?_ (by first | exact LT.apB | fail) | refine G.w4 ?_ (by first | exact LT.ap0 | fail)) | (show GD _ _ _ _ _ _ _ _ _ _ (⟨some _, .buildSlice _ _ _, _, _, _, none⟩ :: _); refine GD.w1 ?_ (by first | exact LT.bsD (by repeat (first | exact EvR.nil | (apply EvR.cs; exact ⟨_, rfl, by (try (apply Und.gd; assumption; try (apply Und.gd; assumption; try (apply Und.gd; assumption)))); exact Und.refl _⟩; exact rfl) | (apply EvR.c1; exact ⟨_, rfl, by (try (apply Und.gd; assumption; try (apply Und.gd; assumption; try (apply Und.gd; assumption)))); exact Und.refl _⟩; exact rfl; exact rfl))) (by intro r hr; simp only [List.mem_cons, List.not_mem_nil, or_false] at hr; repeat (first | (subst hr; rfl) | (rcases hr with hr | hr))) | fail)) | (show GD _ _ _ _ _ _ _ _ _ _ (⟨some _, .call { callee := .builtin .append, args := _, argTypes := _ }, _, _, _, none⟩ :: _); first | refine GD.w3 ?_ (by first | exact LT.apB | fail) | refine GD.w4 ?_ (by first | exact LT.ap0 | fail)) | (show G _ _ _ _ (WL _ _ _ _ (⟨some _, _, _, _, _, none⟩ :: _)); first | refine G.r ?_ | refine G.new ?_) | (show G _ _ _ _ (Wp _ _ _ _); first | refine G.seq (fun K hK => ?_) | refine G.reg ?_ | refine G.ret ?_ | refine G.skip ?_ | refine G.exit ?_ | refine G.block ?_ | refine GD.start ?_ | (show G _ _ _ _ (Wp _ _ (Go.Code.cond _ _ _) _); first | refine G.iF ?_ | refine G.iT ?_)) | (show G _ _ _ _ (WL _ _ _ _ []); refine G.nl ?_) | (show G _ _ _ _ (WL _ _ _ _ (⟨none, _, _, _, _, none⟩ :: _)); refine G.sto ?_) | (show G _ _ _ _ (WL _ _ _ _ (⟨some _, _, _, _, _, some _⟩ :: _)); refine G.gl ?_) | refine G.qN ?_ | refine G.qR ?_ | refine G.qE ?_ | refine G.bN ?_ | refine G.bR ?_ | refine G.bE ?_ | refine G.bE' ?_ | (show GD _ _ _ _ _ _ _ _ _ _ (⟨some _, _, _, _, _, none⟩ :: _); first | refine GD.r ?_ | refine GD.new ?_) | (show GD _ _ _ _ _ _ _ _ _ _ []; refine GD.done ?_ (by kernel_rfl) (by kernel_rfl)) | (show GD _ _ _ _ _ _ _ _ _ _ (⟨none, _, _, _, _, none⟩ :: _); refine GD.sto ?_) | (show GD _ _ _ _ _ _ _ _ _ _ (⟨some _, _, _, _, _, some _⟩ :: _); refine GD.gl ?_)); (repeat (first | (show G _ _ _ _ (WL _ _ _ _ (⟨some _, .makeFunc _ _ _, _, _, _, none⟩ :: _)); refine G.w1 ?_ (by first | exact LT.rd (Rd.mkf (by first | ((repeat (first | exact EvL.nil | (apply EvL.cons; exact ⟨_, rfl, by (try (apply Und.gd; assumption; try (apply Und.gd; assumption; try (apply Und.gd; assumption)))); exact Und.refl _⟩))); done) | fail)) rfl | exact LT.rd (Rd.mkfA (by first | ((repeat (first | exact EvL.nil | (apply EvL.cons; exact ⟨_, rfl, by (try (apply Und.gd; assumption; try (apply Und.gd; assumption; try (apply Und.gd; assumption)))); exact Und.refl _⟩))); done) | fail)) rfl | fail)) | (show G _ _ _ _ (WL _ _ _ _ (⟨some _, .nilCheck _, _, _, _, none⟩ :: _)); refine G.w1 ?_ (by first | exact LT.rd (Rd.nckP (by exact ⟨_, rfl, Und.refl _⟩)) rfl | exact LT.rd (Rd.nckE (by exact ⟨_, rfl, Und.refl _⟩)) rfl | fail)) | (show GD _ _ _ _ _ _ _ _ _ _ (⟨some _, .makeFunc _ _ _, _, _, _, none⟩ :: _); refine GD.w1 ?_ (by first | exact LT.rd (Rd.mkf (by first | ((repeat (first | exact EvL.nil | (apply EvL.cons; exact ⟨_, rfl, by (try (apply Und.gd; assumption; try (apply Und.gd; assumption; try (apply Und.gd; assumption)))); exact Und.refl _⟩))); done) | fail)) rfl | exact LT.rd (Rd.mkfA (by first | ((repeat (first | exact EvL.nil | (apply EvL.cons; exact ⟨_, rfl, by (try (apply Und.gd; assumption; try (apply Und.gd; assumption; try (apply Und.gd; assumption)))); exact Und.refl _⟩))); done) | fail)) rfl | fail)) | (show G _ _ _ _ (WL _ _ _ _ (⟨some _, .buildSlice _ _ _, _, _, _, none⟩ :: _)); refine G.w1 ?_ (by first | exact LT.bsD (by repeat (first | exact EvR.nil | (apply EvR.cs; exact ⟨_, rfl, by (try (apply Und.gd; assumption; try (apply Und.gd; assumption; try (apply Und.gd; assumption)))); exact Und.refl _⟩; exact rfl) | (apply EvR.c1; exact ⟨_, rfl, by (try (apply Und.gd; assumption; try (apply Und.gd; assumption; try (apply Und.gd; assumption)))); exact Und.refl _⟩; exact rfl; exact rfl))) (by intro r hr; simp only [List.mem_cons, List.not_mem_nil, or_false] at hr; repeat (first | (subst hr; rfl) | (rcases hr with hr | hr))) | fail)) | (show G _ _ _ _ (WL _ _ _ _ (⟨some _, .call { callee := .builtin .append, args := _, argTypes := _ }, _, _, _, none⟩ :: _)); first | refine G.w3 ?_ (by first | exact LT.apB | fail) | refine G.w4 ?_ (by first | exact LT.ap0 | fail)) | (show GD _ _ _ _ _ _ _ _ _ _ (⟨some _, .buildSlice _ _ _, _, _, _, none⟩ :: _); refine GD.w1 ?_ (by first | exact LT.bsD (by repeat (first | exact EvR.nil | (apply EvR.cs; exact ⟨_, rfl, by (try (apply Und.gd; assumption; try (apply Und.gd; assumption; try (apply Und.gd; assumption)))); exact Und.refl _⟩; exact rfl) | (apply EvR.c1; exact ⟨_, rfl, by (try (apply Und.gd; assumption; try (apply Und.gd; assumption; try (apply Und.gd; assumption)))); exact Und.refl _⟩; exact rfl; exact rfl))) (by intro r hr; simp only [List.mem_cons, List.not_mem_nil, or_false] at hr; repeat (first | (subst hr; rfl) | (rcases hr with hr | hr))) | fail)) | (show GD _ _ _ _ _ _ _ _ _ _ (⟨some _, .call { callee := .builtin .append, args := _, argTypes := _ }, _, _, _, none⟩ :: _); first | refine GD.w3 ?_ (by first | exact LT.apB | fail) | refine GD.w4 ?_ (by first | exact LT.ap0 | fail)) | (show G _ _ _ _ (WL _ _ _ _ (⟨some _, _, _, _, _, none⟩ :: _)); first | refine G.r ?_ | refine G.new ?_) | (show G _ _ _ _ (Wp _ _ _ _); first | refine G.seq (fun K hK => ?_) | refine G.reg ?_ | refine G.ret ?_ | refine G.skip ?_ | refine G.exit ?_ | refine G.block ?_ | refine GD.start ?_ | (show G _ _ _ _ (Wp _ _ (Go.Code.cond _ _ _) _); first | refine G.iF ?_ | refine G.iT ?_)) | (show G _ _ _ _ (WL _ _ _ _ []); refine G.nl ?_) | (show G _ _ _ _ (WL _ _ _ _ (⟨none, _, _, _, _, none⟩ :: _)); refine G.sto ?_) | (show G _ _ _ _ (WL _ _ _ _ (⟨some _, _, _, _, _, some _⟩ :: _)); refine G.gl ?_) | refine G.qN ?_ | refine G.qR ?_ | refine G.qE ?_ | refine G.bN ?_ | refine G.bR ?_ | refine G.bE ?_ | refine G.bE' ?_ | (show GD _ _ _ _ _ _ _ _ _ _ (⟨some _, _, _, _, _, none⟩ :: _); first | refine GD.r ?_ | refine GD.new ?_) | (show GD _ _ _ _ _ _ _ _ _ _ []; refine GD.done ?_ (by kernel_rfl) (by kernel_rfl)) | (show GD _ _ _ _ _ _ _ _ _ _ (⟨none, _, _, _, _, none⟩ :: _); refine GD.sto ?_) | (show GD _ _ _ _ _ _ _ _ _ _ (⟨some _, _, _, _, _, some _⟩ :: _); refine GD.gl ?_))); (repeat (revert hK; revert K)); exact hQQ.out) : p := k ⟨h⟩
theorem wkTS {p q : Prop} (h : q) (k : Bx q → p := by intro hQQ; (repeat intro K hK); (first | (show G _ _ _ _ (WL _ _ _ _ (⟨some _, _, _, _, _, some (_, _)⟩ :: _)); first | refine G.gTt ?_ (by rfl) (by rfl) | refine G.gTn ?_ (by rfl) (by rfl)) | (show G _ _ _ _ (WL _ _ _ _ (⟨some _, .makeFunc _ _ _, _, _, _, none⟩ :: _)); refine G.w1 ?_ (by first | exact LT.rd (Rd.mkf (by first | ((repeat (first | exact EvL.nil | (apply EvL.cons; exact ⟨_, rfl, by (try (apply Und.gd; assumption; try (apply Und.gd; assumption; try (apply Und.gd; assumption)))); exact Und.refl _⟩))); done) | fail)) rfl | exact LT.rd (Rd.mkfA (by first | ((repeat (first | exact EvL.nil | (apply EvL.cons; exact ⟨_, rfl, by (try (apply Und.gd; assumption; try (apply Und.gd; assumption; try (apply Und.gd; assumption)))); exact Und.refl _⟩))); done) | fail)) rfl | fail)) | (show G _ _ _ _ (WL _ _ _ _ (⟨some _, .nilCheck _, _, _, _, none⟩ :: _)); refine G.w1 ?_ (by first | exact LT.rd (Rd.nckP (by exact ⟨_, rfl, Und.refl _⟩)) rfl | exact LT.rd (Rd.nckE (by exact ⟨_, rfl, Und.refl _⟩)) rfl | fail)) | (show GD _ _ _ _ _ _ _ _ _ _ (⟨some _, .makeFunc _ _ _, _, _, _, none⟩ :: _); refine GD.w1 ?_ (by first | exact LT.rd (Rd.mkf (by first | ((repeat (first | exact EvL.nil | (apply EvL.cons; exact ⟨_, rfl, by (try (apply Und.gd; assumption; try (apply Und.gd; assumption; try (apply Und.gd; assumption)))); exact Und.refl _⟩))); done) | fail)) rfl | exact LT.rd (Rd.mkfA (by first | ((repeat (first | exact EvL.nil | (apply EvL.cons; exact ⟨_, rfl, by (try (apply Und.gd; assumption; try (apply Und.gd; assumption; try (apply Und.gd; assumption)))); exact Und.refl _⟩))); done) | fail)) rfl | fail)) | (show G _ _ _ _ (WL _ _ _ _ (⟨some _, .buildSlice _ _ _, _, _, _, none⟩ :: _)); refine G.w1 ?_ (by first | exact LT.bsD (by repeat (first | exact EvR.nil | (apply EvR.cs; exact ⟨_, rfl, by (try (apply Und.gd; assumption; try (apply Und.gd; assumption; try (apply Und.gd; assumption)))); exact Und.refl _⟩; exact rfl) | (apply EvR.c1; exact ⟨_, rfl, by (try (apply Und.gd; assumption; try (apply Und.gd; assumption; try (apply Und.gd; assumption)))); exact Und.refl _⟩; exact rfl; exact rfl))) (by intro r hr; simp only [List.mem_cons, List.not_mem_nil, or_false] at hr; repeat (first | (subst hr; rfl) | (rcases hr with hr | hr))) | fail)) | (show G _ _ _ _ (WL _ _ _ _ (⟨some _, .call { callee := .builtin .append, args := _, argTypes := _ }, _, _, _, none⟩ :: _)); first | refine G.w3 ?_ (by first | exact LT.apB | fail) | refine G.w4 ?_ (by first | exact LT.ap0 | fail)) | (show GD _ _ _ _ _ _ _ _ _ _ (⟨some _, .buildSlice _ _ _, _, _, _, none⟩ :: _); refine GD.w1 ?_ (by first | exact LT.bsD (by repeat (first | exact EvR.nil | (apply EvR.cs; exact ⟨_, rfl, by (try (apply Und.gd; assumption; try (apply Und.gd; assumption; try (apply Und.gd; assumption)))); exact Und.refl _⟩; exact rfl) | (apply EvR.c1; exact ⟨_, rfl, by (try (apply Und.gd; assumption; try (apply Und.gd; assumption; try (apply Und.gd; assumption)))); exact Und.refl _⟩; exact rfl; exact rfl))) (by intro r hr; simp only [List.mem_cons, List.not_mem_nil, or_false] at hr; repeat (first | (subst hr; rfl) | (rcases hr with hr | hr))) | fail)) | (show GD _ _ _ _ _ _ _ _ _ _ (⟨some _, .call { callee := .builtin .append, args := _, argTypes := _ }, _, _, _, none⟩ :: _); first | refine GD.w3 ?_ (by first | exact LT.apB | fail) | refine GD.w4 ?_ (by first | exact LT.ap0 | fail)) | (show G _ _ _ _ (WL _ _ _ _ (⟨some _, _, _, _, _, none⟩ :: _)); first | refine G.r ?_ | refine G.new ?_) | (show G _ _ _ _ (Wp _ _ _ _); first | refine G.seq (fun K hK => ?_) | refine G.reg ?_ | refine G.ret ?_ | refine G.skip ?_ | refine G.exit ?_ | refine G.block ?_ | refine GD.start ?_ | (show G _ _ _ _ (Wp _ _ (Go.Code.cond _ _ _) _); first | refine G.iF ?_ | refine G.iT ?_)) | (show G _ _ _ _ (WL _ _ _ _ []); refine G.nl ?_) | (show G _ _ _ _ (WL _ _ _ _ (⟨none, _, _, _, _, none⟩ :: _)); refine G.sto ?_) | (show G _ _ _ _ (WL _ _ _ _ (⟨some _, _, _, _, _, some _⟩ :: _)); refine G.gl ?_) | refine G.qN ?_ | refine G.qR ?_ | refine G.qE ?_ | refine G.bN ?_ | refine G.bR ?_ | refine G.bE ?_ | refine G.bE' ?_ | (show GD _ _ _ _ _ _ _ _ _ _ (⟨some _, _, _, _, _, none⟩ :: _); first | refine GD.r ?_ | refine GD.new ?_) | (show GD _ _ _ _ _ _ _ _ _ _ []; refine GD.done ?_ (by kernel_rfl) (by kernel_rfl)) | (show GD _ _ _ _ _ _ _ _ _ _ (⟨none, _, _, _, _, none⟩ :: _); refine GD.sto ?_) | (show GD _ _ _ _ _ _ _ _ _ _ (⟨some _, _, _, _, _, some _⟩ :: _); refine GD.gl ?_)); (repeat (first | (show G _ _ _ _ (WL _ _ _ _ (⟨some _, _, _, _, _, some (_, _)⟩ :: _)); first | refine G.gTt ?_ (by rfl) (by rfl) | refine G.gTn ?_ (by rfl) (by rfl)) | (show G _ _ _ _ (WL _ _ _ _ (⟨some _, .makeFunc _ _ _, _, _, _, none⟩ :: _)); refine G.w1 ?_ (by first | exact LT.rd (Rd.mkf (by first | ((repeat (first | exact EvL.nil | (apply EvL.cons; exact ⟨_, rfl, by (try (apply Und.gd; assumption; try (apply Und.gd; assumption; try (apply Und.gd; assumption)))); exact Und.refl _⟩))); done) | fail)) rfl | exact LT.rd (Rd.mkfA (by first | ((repeat (first | exact EvL.nil | (apply EvL.cons; exact ⟨_, rfl, by (try (apply Und.gd; assumption; try (apply Und.gd; assumption; try (apply Und.gd; assumption)))); exact Und.refl _⟩))); done) | fail)) rfl | fail)) | (show G _ _ _ _ (WL _ _ _ _ (⟨some _, .nilCheck _, _, _, _, none⟩ :: _)); refine G.w1 ?_ (by first | exact LT.rd (Rd.nckP (by exact ⟨_, rfl, Und.refl _⟩)) rfl | exact LT.rd (Rd.nckE (by exact ⟨_, rfl, Und.refl _⟩)) rfl | fail)) | (show GD _ _ _ _ _ _ _ _ _ _ (⟨some _, .makeFunc _ _ _, _, _, _, none⟩ :: _); refine GD.w1 ?_ (by first | exact LT.rd (Rd.mkf (by first | ((repeat (first | exact EvL.nil | (apply EvL.cons; exact ⟨_, rfl, by (try (apply Und.gd; assumption; try (apply Und.gd; assumption; try (apply Und.gd; assumption)))); exact Und.refl _⟩))); done) | fail)) rfl | exact LT.rd (Rd.mkfA (by first | ((repeat (first | exact EvL.nil | (apply EvL.cons; exact ⟨_, rfl, by (try (apply Und.gd; assumption; try (apply Und.gd; assumption; try (apply Und.gd; assumption)))); exact Und.refl _⟩))); done) | fail)) rfl | fail)) | (show G _ _ _ _ (WL _ _ _ _ (⟨some _, .buildSlice _ _ _, _, _, _, none⟩ :: _)); refine G.w1 ?_ (by first | exact LT.bsD (by repeat (first | exact EvR.nil | (apply EvR.cs; exact ⟨_, rfl, by (try (apply Und.gd; assumption; try (apply Und.gd; assumption; try (apply Und.gd; assumption)))); exact Und.refl _⟩; exact rfl) | (apply EvR.c1; exact ⟨_, rfl, by (try (apply Und.gd; assumption; try (apply Und.gd; assumption; try (apply Und.gd; assumption)))); exact Und.refl _⟩; exact rfl; exact rfl))) (by intro r hr; simp only [List.mem_cons, List.not_mem_nil, or_false] at hr; repeat (first | (subst hr; rfl) | (rcases hr with hr | hr))) | fail)) | (show G _ _ _ _ (WL _ _ _ _ (⟨some _, .call { callee := .builtin .append, args := _, argTypes := _ }, _, _, _, none⟩ :: _)); first | refine G.w3 ?_ (by first | exact LT.apB | fail) | refine G.w4 ?_ (by first | exact LT.ap0 | fail)) | (show GD _ _ _ _ _ _ _ _ _ _ (⟨some _, .buildSlice _ _ _, _, _, _, none⟩ :: _); refine GD.w1 ?_ (by first | exact LT.bsD (by repeat (first | exact EvR.nil | (apply EvR.cs; exact ⟨_, rfl, by (try (apply Und.gd; assumption; try (apply Und.gd; assumption; try (apply Und.gd; assumption)))); exact Und.refl _⟩; exact rfl) | (apply EvR.c1; exact ⟨_, rfl, by (try (apply Und.gd; assumption; try (apply Und.gd; assumption; try (apply Und.gd; assumption)))); exact Und.refl _⟩; exact rfl; exact rfl))) (by intro r hr; simp only [List.mem_cons, List.not_mem_nil, or_false] at hr; repeat (first | (subst hr; rfl) | (rcases hr with hr | hr))) | fail)) | (show GD _ _ _ _ _ _ _ _ _ _ (⟨some _, .call { callee := .builtin .append, args := _, argTypes := _ }, _, _, _, none⟩ :: _); first | refine GD.w3 ?_ (by first | exact LT.apB | fail) | refine GD.w4 ?_ (by first | exact LT.ap0 | fail)) | (show G _ _ _ _ (WL _ _ _ _ (⟨some _, _, _, _, _, none⟩ :: _)); first | refine G.r ?_ | refine G.new ?_) | (show G _ _ _ _ (Wp _ _ _ _); first | refine G.seq (fun K hK => ?_) | refine G.reg ?_ | refine G.ret ?_ | refine G.skip ?_ | refine G.exit ?_ | refine G.block ?_ | refine GD.start ?_ | (show G _ _ _ _ (Wp _ _ (Go.Code.cond _ _ _) _); first | refine G.iF ?_ | refine G.iT ?_)) | (show G _ _ _ _ (WL _ _ _ _ []); refine G.nl ?_) | (show G _ _ _ _ (WL _ _ _ _ (⟨none, _, _, _, _, none⟩ :: _)); refine G.sto ?_) | (show G _ _ _ _ (WL _ _ _ _ (⟨some _, _, _, _, _, some _⟩ :: _)); refine G.gl ?_) | refine G.qN ?_ | refine G.qR ?_ | refine G.qE ?_ | refine G.bN ?_ | refine G.bR ?_ | refine G.bE ?_ | refine G.bE' ?_ | (show GD _ _ _ _ _ _ _ _ _ _ (⟨some _, _, _, _, _, none⟩ :: _); first | refine GD.r ?_ | refine GD.new ?_) | (show GD _ _ _ _ _ _ _ _ _ _ []; refine GD.done ?_ (by kernel_rfl) (by kernel_rfl)) | (show GD _ _ _ _ _ _ _ _ _ _ (⟨none, _, _, _, _, none⟩ :: _); refine GD.sto ?_) | (show GD _ _ _ _ _ _ _ _ _ _ (⟨some _, _, _, _, _, some _⟩ :: _); refine GD.gl ?_))); (repeat (revert hK; revert K)); exact hQQ.out) : p := k ⟨h⟩
/-- Guards that the facts at hand decide. -/
theorem wkg {p q : Prop} (h : q) (k : Bx q → p := by intro hQQ; (first | (show G _ _ _ _ (WL _ _ _ _ (⟨some _, _, _, _, _, some _⟩ :: _)); first | refine G.gt ?_ | refine G.gf ?_) | (show GD _ _ _ _ _ _ _ _ _ _ (⟨some _, _, _, _, _, some _⟩ :: _); first | refine GD.gr ?_ | refine GD.gf ?_)); exact hQQ.out) : p := k ⟨h⟩
/-- What a guard says, as facts. -/
theorem gi {y : AV} {want : Bool} {C q : Prop} (h : q) (k : Bx q → y.says want → C := by intro hQQ; intro hzg; (have hzf := hzg; (try simp only [AV.says, Bool.and_eq_true, Bool.or_eq_true, Bool.and_eq_false_iff, Bool.or_eq_false_iff, decide_eq_true_eq, decide_eq_false_iff_not, Bool.not_eq_true', Bool.not_eq_false', bne_iff_ne, beq_iff_eq, bne_eq_false_iff_eq, beq_eq_false_iff_ne, ne_eq, Int.not_lt, Int.not_le] at hzf)); (try simp only [AV.says] at hzg); (repeat (have hz0 := hzg.1; replace hzg := hzg.2)); (repeat revert hz0); (repeat revert hzg); (repeat revert hzf); exact hQQ.out) : y.says want → C := k ⟨h⟩
section
variable {P : Program} {X : Cx} {al al' : List (Nat × AV)} {bs bsC bs' bsF bs2 : Bs} {fv x y0 : AV} {xs : List AV} {C : Cx → Prop} {ro : Option Nat} {ops : Array Oper} {Q : Exit → Act → World → Prop} {rest : List Oper} {d ty : Nat} {ps : String} {af : Array Edge} {args : List Operand} {ats : Array TypeId} {y : Operand}
variable {K K' : Nat} {ds : List D} {r : D} {l : List Oper} {id j dj : Nat} {al0 : List (Nat × AV)} {bs0 : Bs} {sts : List Stp} {want : Bool} {y1 y2 : AV}
/-- Calls by their contracts: plain, under a guard, in a region that draws its order. -/
theorem G.cW (hf : Fn P K ds (· = r)) (h : G P X ((d, .d r) :: al) bs (WL P ro ops Q rest)) (hk : Nat.beq K' K = true := by rfl) (he : EvL al args xs := by first | ((repeat (first | exact EvL.nil | (apply EvL.cons; exact ⟨_, rfl, by (try (apply Und.gd; assumption; try (apply Und.gd; assumption; try (apply Und.gd; assumption)))); exact Und.refl _⟩))); done) | fail) (hp : Pl xs ds := by first | infer_instance | fail) (hd : Nat.blt d X.N = true := by rfl) :
    G P X al bs (WL P ro ops Q ({ dst := some d, op := .call { callee := .value (.func K'), args := args.toArray, argTypes := ats }, type := ty, pos := ps, after := af, guard := none } :: rest)) := by
  obtain rfl := Nat.eq_of_beq_eq_true hk
  exact G.w1 h (LT.ce hf he (hd := hd))
theorem GD.cW (hf : Fn P K ds (· = r)) (h : GD P X l Q id al0 bs0 (sts ++ [⟨opT (.call { callee := .value (.func K'), args := args.toArray, argTypes := ats }), [d], [], []⟩]) ((d, .d r) :: al) bs rest) (hk : Nat.beq K' K = true := by rfl) (he : EvL al args xs := by first | ((repeat (first | exact EvL.nil | (apply EvL.cons; exact ⟨_, rfl, by (try (apply Und.gd; assumption; try (apply Und.gd; assumption; try (apply Und.gd; assumption)))); exact Und.refl _⟩))); done) | fail) (hp : Pl xs ds := by first | infer_instance | fail) (hd : Nat.blt d X.N = true := by rfl) :
    GD P X l Q id al0 bs0 sts al bs ({ dst := some d, op := .call { callee := .value (.func K'), args := args.toArray, argTypes := ats }, type := ty, pos := ps, after := af, guard := none } :: rest) := by
  obtain rfl := Nat.eq_of_beq_eq_true hk
  exact GD.w1 h (LT.ce hf he (hd := hd))
theorem G.cgW (hf : Fn P K ds (· = r)) (h : G P X ((d, y2) :: al) bs (WL P ro l.toArray Q rest)) (hk : Nat.beq K' K = true := by rfl) (hj : (l[j]?).bind (·.dst) = some dj := by rfl) (hs : lk al dj = some y1 := by rfl) (he : y1.says want → EvL al args xs := by (intro hg; (have hf := hg; (try simp only [AV.says, Bool.and_eq_true, Bool.or_eq_true, Bool.and_eq_false_iff, Bool.or_eq_false_iff, decide_eq_true_eq, decide_eq_false_iff_not, Bool.not_eq_true', Bool.not_eq_false', bne_iff_ne, beq_iff_eq, bne_eq_false_iff_eq, beq_eq_false_iff_ne, ne_eq, Int.not_lt, Int.not_le] at hf)); (try simp only [AV.says] at hg); (repeat (have hg0 := hg.1; replace hg := hg.2)); (first | ((repeat (first | exact EvL.nil | (apply EvL.cons; exact ⟨_, rfl, by (try (apply Und.gd; assumption; try (apply Und.gd; assumption; try (apply Und.gd; assumption)))); exact Und.refl _⟩))); done) | fail))) (hp : Pl xs ds := by first | infer_instance | fail) (hy : y1.wrap want (.d r) = y2 := by (simp only [AV.wrap] <;> rfl)) (hG : y1.isG = true := by rfl) (hd : Nat.blt d X.N = true := by rfl) :
    G P X al bs (WL P ro l.toArray Q ({ dst := some d, op := .call { callee := .value (.func K'), args := args.toArray, argTypes := ats }, type := ty, pos := ps, after := af, guard := some (j, want) } :: rest)) := by
  obtain rfl := Nat.eq_of_beq_eq_true hk
  exact G.gC h (fun hz => LT.ce hf (he hz) (hd := hd)) hj hs hy hG hd
theorem GD.cgW (hf : Fn P K ds (· = r)) (h : GD P X l Q id al0 bs0 (sts ++ [⟨dj :: opT (.call { callee := .value (.func K'), args := args.toArray, argTypes := ats }), [d], [], []⟩]) ((d, y2) :: al) bs rest) (hk : Nat.beq K' K = true := by rfl) (hj : (l[j]?).bind (·.dst) = some dj := by rfl) (hs : lk al dj = some y1 := by rfl) (he : y1.says want → EvL al args xs := by (intro hg; (have hf := hg; (try simp only [AV.says, Bool.and_eq_true, Bool.or_eq_true, Bool.and_eq_false_iff, Bool.or_eq_false_iff, decide_eq_true_eq, decide_eq_false_iff_not, Bool.not_eq_true', Bool.not_eq_false', bne_iff_ne, beq_iff_eq, bne_eq_false_iff_eq, beq_eq_false_iff_ne, ne_eq, Int.not_lt, Int.not_le] at hf)); (try simp only [AV.says] at hg); (repeat (have hg0 := hg.1; replace hg := hg.2)); (first | ((repeat (first | exact EvL.nil | (apply EvL.cons; exact ⟨_, rfl, by (try (apply Und.gd; assumption; try (apply Und.gd; assumption; try (apply Und.gd; assumption)))); exact Und.refl _⟩))); done) | fail))) (hp : Pl xs ds := by first | infer_instance | fail) (hy : y1.wrap want (.d r) = y2 := by (simp only [AV.wrap] <;> rfl)) (hG : y1.isG = true := by rfl) (hd : Nat.blt d X.N = true := by rfl) :
    GD P X l Q id al0 bs0 sts al bs ({ dst := some d, op := .call { callee := .value (.func K'), args := args.toArray, argTypes := ats }, type := ty, pos := ps, after := af, guard := some (j, want) } :: rest) := by
  obtain rfl := Nat.eq_of_beq_eq_true hk
  exact GD.gC h (fun hz => LT.ce hf (he hz) (hd := hd)) hj hs hy hG hd
theorem GD.ctW (hf : Fn P K ds (· = r)) (h : GD P X l Q id al0 bs0 (sts ++ [⟨dj :: opT (.call { callee := .value (.func K'), args := args.toArray, argTypes := ats }), [d], [], []⟩]) ((d, .d r) :: al) bs rest) (hk : Nat.beq K' K = true := by rfl) (hj : (l[j]?).bind (·.dst) = some dj := by rfl) (hs : lk al dj = some (.d (.s (.bool true))) := by rfl) (he : EvL al args xs := by first | ((repeat (first | exact EvL.nil | (apply EvL.cons; exact ⟨_, rfl, by (try (apply Und.gd; assumption; try (apply Und.gd; assumption; try (apply Und.gd; assumption)))); exact Und.refl _⟩))); done) | fail) (hp : Pl xs ds := by first | infer_instance | fail) (hd : Nat.blt d X.N = true := by rfl) :
    GD P X l Q id al0 bs0 sts al bs ({ dst := some d, op := .call { callee := .value (.func K'), args := args.toArray, argTypes := ats }, type := ty, pos := ps, after := af, guard := some (j, true) } :: rest) := by
  obtain rfl := Nat.eq_of_beq_eq_true hk
  exact GD.gTt h hj hs (LT.ce hf he (hd := hd))
theorem G.cvW (hf : FvB P CT fv xs bsC x bs') (h : G P X ((d, x) :: al') bs2 (WL P ro ops Q rest)) (hfx : Evd al y fv := by exact ⟨_, rfl, Und.refl _⟩) (hax : EvL al args xs := by first | ((repeat (first | exact EvL.nil | (apply EvL.cons; exact ⟨_, rfl, by (try (apply Und.gd; assumption; try (apply Und.gd; assumption; try (apply Und.gd; assumption)))); exact Und.refl _⟩))); done) | fail) (hs : SubB bs bsC := by first | ((repeat (first | exact trivial | refine ⟨.inl rfl, ?_⟩ | refine ⟨.inr rfl, ?_⟩)); done) | fail) (hcl : ClB (inB bsC) bsC := by first | exact Is.cl (hcl _) | exact Is.cl6 (hcl _) | ((repeat (first | exact trivial | refine ⟨ClE.some rfl, ?_⟩ | (with_reducible refine ClB.d ?_) | (with_reducible refine ⟨ClE.some (numsL_d _ _), ?_⟩) | refine ⟨ClE.none, ?_⟩)); done) | fail) (hF : FkB bs bsF := by first | ((repeat (first | exact FkB.nil | apply FkB.n | (apply FkB.k; (first | rfl | with_reducible exact numsL_d _ _ | assumption | fail)) | apply FkB.x)); done) | fail) (hA : Fk al al' := by first | ((repeat (first | exact Fk.nil | (apply Fk.k; (first | rfl | assumption | fail)) | apply Fk.x)); done) | fail) (hb2 : bs' ++ bsF = bs2 := by simp only [Is, List.cons_append, List.nil_append]; rfl) (hnf : fv.nums (inB bsC) = true := by first | rfl | assumption | exact hfn _ | fail) (hna : AV.numsL (inB bsC) xs = true := by first | rfl | (simp only [AV.numsL, AV.nums, hfn, Bool.and_true, Bool.and_self]; done) | fail) (hdm : bs'.map (·.1) = bsC.map (·.1) := by rfl) (hk : X.k.all kn = true := by rfl) (hd : Nat.blt d X.N = true := by rfl) :
    G P X al bs (WL P ro ops Q ({ dst := some d, op := .call { callee := .value y, args := args.toArray, argTypes := ats }, type := ty, pos := ps, after := af, guard := none } :: rest)) := G.cv hf h hfx hax hs hcl hF hA hb2 hnf hna hdm hk hd
theorem G.cvCW (hf : FvB P C fv xs bsC x bs') (hCc : Cc C) (hC : C X) (h : G P X ((d, x) :: al') bs2 (WL P ro ops Q rest)) (hfx : Evd al y fv := by exact ⟨_, rfl, Und.refl _⟩) (hax : EvL al args xs := by first | ((repeat (first | exact EvL.nil | (apply EvL.cons; exact ⟨_, rfl, by (try (apply Und.gd; assumption; try (apply Und.gd; assumption; try (apply Und.gd; assumption)))); exact Und.refl _⟩))); done) | fail) (hs : SubB bs bsC := by first | ((repeat (first | exact trivial | refine ⟨.inl rfl, ?_⟩ | refine ⟨.inr rfl, ?_⟩)); done) | fail) (hcl : ClB (inB bsC) bsC := by first | exact Is.cl (hcl _) | exact Is.cl6 (hcl _) | ((repeat (first | exact trivial | refine ⟨ClE.some rfl, ?_⟩ | (with_reducible refine ClB.d ?_) | (with_reducible refine ⟨ClE.some (numsL_d _ _), ?_⟩) | refine ⟨ClE.none, ?_⟩)); done) | fail) (hF : FkB bs bsF := by first | ((repeat (first | exact FkB.nil | apply FkB.n | (apply FkB.k; (first | rfl | with_reducible exact numsL_d _ _ | assumption | fail)) | apply FkB.x)); done) | fail) (hA : Fk al al' := by first | ((repeat (first | exact Fk.nil | (apply Fk.k; (first | rfl | assumption | fail)) | apply Fk.x)); done) | fail) (hb2 : bs' ++ bsF = bs2 := by simp only [Is, List.cons_append, List.nil_append]; rfl) (hnf : fv.nums (inB bsC) = true := by first | rfl | assumption | exact hfn _ | fail) (hna : AV.numsL (inB bsC) xs = true := by first | rfl | (simp only [AV.numsL, AV.nums, hfn, Bool.and_true, Bool.and_self]; done) | fail) (hdm : bs'.map (·.1) = bsC.map (·.1) := by rfl) (hk : X.k.all (fun b => kn b && (!(Nat.ble 100 b) || inB bsC b)) = true := by rfl) (hd : Nat.blt d X.N = true := by rfl) :
    G P X al bs (WL P ro ops Q ({ dst := some d, op := .call { callee := .value y, args := args.toArray, argTypes := ats }, type := ty, pos := ps, after := af, guard := none } :: rest)) := G.cvC hf hCc hC h hfx hax hs hcl hF hA hb2 hnf hna hdm hk hd
theorem LT.cdW {K : Nat} {ds es : List D} {r : D} (hf : Fn P K (ds ++ es) (· = r)) (hfx : Evd al y (.d (.fn K es)) := by exact ⟨_, rfl, by (try (apply Und.gd; assumption; try (apply Und.gd; assumption; try (apply Und.gd; assumption)))); exact Und.refl _⟩) (he : EvL al args xs := by first | ((repeat (first | exact EvL.nil | (apply EvL.cons; exact ⟨_, rfl, by (try (apply Und.gd; assumption; try (apply Und.gd; assumption; try (apply Und.gd; assumption)))); exact Und.refl _⟩))); done) | fail) (hp : Pl xs ds := by first | infer_instance | fail) (hd : Nat.blt d X.N = true := by rfl) : LT P X al bs (.call { callee := .value y, args := args.toArray, argTypes := ats }) (some d) [] [(d, .d r)] [] := LT.cd hf hfx he hp hd
theorem LT.cfW {K : Nat} {ds : List D} {r : D} (hf : Fn P K ds (· = r)) (he : EvL al args xs := by first | ((repeat (first | exact EvL.nil | (apply EvL.cons; exact ⟨_, rfl, by (try (apply Und.gd; assumption; try (apply Und.gd; assumption; try (apply Und.gd; assumption)))); exact Und.refl _⟩))); done) | fail) (hp : PlF xs ds := by first | infer_instance | fail) (hd : Nat.blt d X.N = true := by rfl) : LT P X al bs (.call { callee := .value (.func K), args := args.toArray, argTypes := ats }) (some d) [] [(d, .d r)] [] := LT.ceF hf he hp hd
end
end Go.Proofs.Ytmajkjkakciaiaa
