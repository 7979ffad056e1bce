/- Parts of a proof about this translation: Vd. -/
import Derived.Test.YteknldaoegccaaaGreatDoorZ38
set_option linter.unusedVariables false
set_option linter.unusedSimpArgs false
set_option maxRecDepth 100000
namespace Go.Proofs.YteknldaoegccaaaGreatDoor
open Go.RowKit
open Go.ChangeShapes Go.WideShapes Go.ChangeAt
theorem agg_of_cells {v : Value} {l : List Value} (h : v.cells.toList = l) (hl : l.length ≠ 1) : v = .agg l.toArray := by
 cases v with
 | agg c => subst h; simp [Value.cells]
 | _ => subst h; exact absurd rfl hl
def InsArg (_ : World) (v : Value) : Prop := ∃ a : InsA, v = a.v
theorem InsArg_open {H : Type} {enc : TypeId × Value → H} {W : World} {v : Value} {base : Nat} {d : DataW H} {p : List MemPlace} (hv : Value.okWide Tryz.prog W .any base 51 v)
  (h : ∃ m, DataW.trod enc Tryz.prog W 0 (fun _ => true) true m 51 v.cells.toList = some (d, p)) : InsArg W v := by
 obtain ⟨m, hm⟩ := h
 obtain ⟨a, ha⟩ := ins_trod hm
 exact ⟨a, agg_of_cells ha (by simp)⟩
structure FrA where
 num : Int
 den : Int
 up : Nat
 down : Nat
 hn : -9223372036854775808 ≤ num ∧ num ≤ 9223372036854775807
 hd : -9223372036854775808 ≤ den ∧ den ≤ 9223372036854775807
 hu : up ≤ 255
 hw : down ≤ 255
def FrA.v (a : FrA) : Value := .agg #[.int .i64 a.num, .int .i64 a.den, .int .u8 a.up, .int .u8 a.down]
end Go.Proofs.YteknldaoegccaaaGreatDoor
