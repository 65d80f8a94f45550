/-
  No cell of these rows narrows 'for every input' (looked for: loops, veiled, ifaces, maps, wideKeys, modest, calm, conditions, laid).
  DERIVED. THE GIVEN ROWS OF THIS SEAT. 11 by the template 'for every input the law returns true; each argument reads behind the call as it read before'; 0 by the template 'total and deterministic' (their statements: YtdnjahdppgjmlaaTotals.lean).
  GIVEN WITH THE SEED: the statements are not yours to turn. If you find one false, say at which input.
  Laid BY PROGRAM, IN A SANDBOX (cutbox-rows.mjs): the forced cells as the released guide's own fill.sh prints them over the translation 97262b1eb33cbd95… (all of the seat's roots in one cut). By AI agents, Wed Nov 11 2026. No macro, syntax, notation, axiom, sorry.
-/
import Derived.Test.YtdnjahdppgjmlaaChecked
import GoSem.Claim
import GoSem.ClaimJoined
import GoSem.ClaimMapViews
import Derived.JoinedTies
import Derived.KernelRfl
namespace Go.Proofs.Ytdnjahdppgjmlaa
/- THE CELL 'sum', in the pinned program and in every row, IS THE sha256 OF THE DUMP (.gsa) THAT YtdnjahdppgjmlaaProg.lean LOADS. Nothing in Lean hashes anything: it is a label: what it is worth is what the hold of that sum in a sandbox is worth. -/
noncomputable def Try.pinned : Pinned := { name := "ytdnjahdppgjmlaa", sum := "97262b1eb33cbd953d6055ad3e829dd0c4ccb84cd0c6f071f6b360b8a2881859", checked := Try.checked }
namespace Rows
def none {H : Type} : Left H := { results := [], args := [] }

/-- 'hairlinelaw10.PolyzParts': WHATEVER THE INPUT: true; the input reads as it did. -/
def polyzPartsSpec : ChangeSpec := { name := "polyzParts", fn := fun _ => fun
  | [d1, d2] => { results := [.lit (.bool true)], args := [d1, d2] }
  | _ => none }
def polyzPartsRow : OpenClaim := { program := "ytdnjahdppgjmlaa", sum := "97262b1eb33cbd953d6055ad3e829dd0c4ccb84cd0c6f071f6b360b8a2881859", func := "hairline/hairlinelaw10.PolyzParts", spec := "polyzParts", inPlace := ["math/bits.Add64", "math/bits.Sub64"], named := ["math/bits.divideError", "math/bits.overflowError"], apart := false }
def PolyzPartsSaid : Prop := polyzPartsRow.holds Try.pinned (OpenSpec.ofChange polyzPartsSpec)

/-- ITS FALSE NEIGHBOUR: 'it returns false'. Refute it at one input. -/
def polyzPartsWrong : ChangeSpec := { name := "polyzParts", fn := fun _ => fun
  | [d1, d2] => { results := [.lit (.bool false)], args := [d1, d2] }
  | _ => none }
def PolyzPartsWrongFalsely : Prop := polyzPartsRow.holds Try.pinned (OpenSpec.ofChange polyzPartsWrong)

/-- 'hairlinelaw10.PolyzDerives': WHATEVER THE INPUT: true; the input reads as it did. -/
def polyzDerivesSpec : ChangeSpec := { name := "polyzDerives", fn := fun _ => fun
  | [d1, d2, d3] => { results := [.lit (.bool true)], args := [d1, d2, d3] }
  | _ => none }
def polyzDerivesRow : OpenClaim := { program := "ytdnjahdppgjmlaa", sum := "97262b1eb33cbd953d6055ad3e829dd0c4ccb84cd0c6f071f6b360b8a2881859", func := "hairline/hairlinelaw10.PolyzDerives", spec := "polyzDerives", inPlace := ["math/bits.Add64", "math/bits.Sub64"], named := ["math/bits.divideError", "math/bits.overflowError"], apart := false }
def PolyzDerivesSaid : Prop := polyzDerivesRow.holds Try.pinned (OpenSpec.ofChange polyzDerivesSpec)

/-- ITS FALSE NEIGHBOUR: 'it returns false'. Refute it at one input. -/
def polyzDerivesWrong : ChangeSpec := { name := "polyzDerives", fn := fun _ => fun
  | [d1, d2, d3] => { results := [.lit (.bool false)], args := [d1, d2, d3] }
  | _ => none }
def PolyzDerivesWrongFalsely : Prop := polyzDerivesRow.holds Try.pinned (OpenSpec.ofChange polyzDerivesWrong)

/-- 'hairlinelaw10.PolyzSimple': WHATEVER THE INPUT: true; the input reads as it did. -/
def polyzSimpleSpec : ChangeSpec := { name := "polyzSimple", fn := fun _ => fun
  | [d1, d2] => { results := [.lit (.bool true)], args := [d1, d2] }
  | _ => none }
def polyzSimpleRow : OpenClaim := { program := "ytdnjahdppgjmlaa", sum := "97262b1eb33cbd953d6055ad3e829dd0c4ccb84cd0c6f071f6b360b8a2881859", func := "hairline/hairlinelaw10.PolyzSimple", spec := "polyzSimple", inPlace := ["math/bits.Add64", "math/bits.Sub64"], named := ["math/bits.divideError", "math/bits.overflowError"], apart := false }
def PolyzSimpleSaid : Prop := polyzSimpleRow.holds Try.pinned (OpenSpec.ofChange polyzSimpleSpec)

/-- ITS FALSE NEIGHBOUR: 'it returns false'. Refute it at one input. -/
def polyzSimpleWrong : ChangeSpec := { name := "polyzSimple", fn := fun _ => fun
  | [d1, d2] => { results := [.lit (.bool false)], args := [d1, d2] }
  | _ => none }
def PolyzSimpleWrongFalsely : Prop := polyzSimpleRow.holds Try.pinned (OpenSpec.ofChange polyzSimpleWrong)

/-- 'hairlinelaw10.PolyzRings': WHATEVER THE INPUT: true; the input reads as it did. -/
def polyzRingsSpec : ChangeSpec := { name := "polyzRings", fn := fun _ => fun
  | [d1, d2, d3] => { results := [.lit (.bool true)], args := [d1, d2, d3] }
  | _ => none }
def polyzRingsRow : OpenClaim := { program := "ytdnjahdppgjmlaa", sum := "97262b1eb33cbd953d6055ad3e829dd0c4ccb84cd0c6f071f6b360b8a2881859", func := "hairline/hairlinelaw10.PolyzRings", spec := "polyzRings", inPlace := ["math/bits.Add64", "math/bits.Sub64"], named := ["math/bits.divideError", "math/bits.overflowError"], apart := false }
def PolyzRingsSaid : Prop := polyzRingsRow.holds Try.pinned (OpenSpec.ofChange polyzRingsSpec)

/-- ITS FALSE NEIGHBOUR: 'it returns false'. Refute it at one input. -/
def polyzRingsWrong : ChangeSpec := { name := "polyzRings", fn := fun _ => fun
  | [d1, d2, d3] => { results := [.lit (.bool false)], args := [d1, d2, d3] }
  | _ => none }
def PolyzRingsWrongFalsely : Prop := polyzRingsRow.holds Try.pinned (OpenSpec.ofChange polyzRingsWrong)

/-- 'hairlinelaw10.PolyzGcds': WHATEVER THE INPUT: true; the input reads as it did. -/
def polyzGcdsSpec : ChangeSpec := { name := "polyzGcds", fn := fun _ => fun
  | [d1, d2, d3] => { results := [.lit (.bool true)], args := [d1, d2, d3] }
  | _ => none }
def polyzGcdsRow : OpenClaim := { program := "ytdnjahdppgjmlaa", sum := "97262b1eb33cbd953d6055ad3e829dd0c4ccb84cd0c6f071f6b360b8a2881859", func := "hairline/hairlinelaw10.PolyzGcds", spec := "polyzGcds", inPlace := ["math/bits.Add64", "math/bits.Sub64"], named := ["math/bits.divideError", "math/bits.overflowError"], apart := false }
def PolyzGcdsSaid : Prop := polyzGcdsRow.holds Try.pinned (OpenSpec.ofChange polyzGcdsSpec)

/-- ITS FALSE NEIGHBOUR: 'it returns false'. Refute it at one input. -/
def polyzGcdsWrong : ChangeSpec := { name := "polyzGcds", fn := fun _ => fun
  | [d1, d2, d3] => { results := [.lit (.bool false)], args := [d1, d2, d3] }
  | _ => none }
def PolyzGcdsWrongFalsely : Prop := polyzGcdsRow.holds Try.pinned (OpenSpec.ofChange polyzGcdsWrong)

/-- 'hairlinelaw10.PolyzMoves': WHATEVER THE INPUT: true; the input reads as it did. -/
def polyzMovesSpec : ChangeSpec := { name := "polyzMoves", fn := fun _ => fun
  | [d1, d2] => { results := [.lit (.bool true)], args := [d1, d2] }
  | _ => none }
def polyzMovesRow : OpenClaim := { program := "ytdnjahdppgjmlaa", sum := "97262b1eb33cbd953d6055ad3e829dd0c4ccb84cd0c6f071f6b360b8a2881859", func := "hairline/hairlinelaw10.PolyzMoves", spec := "polyzMoves", inPlace := ["math/bits.Add64", "math/bits.Sub64"], named := ["math/bits.divideError", "math/bits.overflowError"], apart := false }
def PolyzMovesSaid : Prop := polyzMovesRow.holds Try.pinned (OpenSpec.ofChange polyzMovesSpec)

/-- ITS FALSE NEIGHBOUR: 'it returns false'. Refute it at one input. -/
def polyzMovesWrong : ChangeSpec := { name := "polyzMoves", fn := fun _ => fun
  | [d1, d2] => { results := [.lit (.bool false)], args := [d1, d2] }
  | _ => none }
def PolyzMovesWrongFalsely : Prop := polyzMovesRow.holds Try.pinned (OpenSpec.ofChange polyzMovesWrong)

/-- 'hairlinelaw10.PolyzValues': WHATEVER THE INPUT: true; the input reads as it did. -/
def polyzValuesSpec : ChangeSpec := { name := "polyzValues", fn := fun _ => fun
  | [d1, d2, d3] => { results := [.lit (.bool true)], args := [d1, d2, d3] }
  | _ => none }
def polyzValuesRow : OpenClaim := { program := "ytdnjahdppgjmlaa", sum := "97262b1eb33cbd953d6055ad3e829dd0c4ccb84cd0c6f071f6b360b8a2881859", func := "hairline/hairlinelaw10.PolyzValues", spec := "polyzValues", inPlace := ["math/bits.Add64", "math/bits.Sub64"], named := ["math/bits.divideError", "math/bits.overflowError"], apart := false }
def PolyzValuesSaid : Prop := polyzValuesRow.holds Try.pinned (OpenSpec.ofChange polyzValuesSpec)

/-- ITS FALSE NEIGHBOUR: 'it returns false'. Refute it at one input. -/
def polyzValuesWrong : ChangeSpec := { name := "polyzValues", fn := fun _ => fun
  | [d1, d2, d3] => { results := [.lit (.bool false)], args := [d1, d2, d3] }
  | _ => none }
def PolyzValuesWrongFalsely : Prop := polyzValuesRow.holds Try.pinned (OpenSpec.ofChange polyzValuesWrong)

/-- 'hairlinelaw10.PolyzRests': WHATEVER THE INPUT: true; the input reads as it did. -/
def polyzRestsSpec : ChangeSpec := { name := "polyzRests", fn := fun _ => fun
  | [d1, d2] => { results := [.lit (.bool true)], args := [d1, d2] }
  | _ => none }
def polyzRestsRow : OpenClaim := { program := "ytdnjahdppgjmlaa", sum := "97262b1eb33cbd953d6055ad3e829dd0c4ccb84cd0c6f071f6b360b8a2881859", func := "hairline/hairlinelaw10.PolyzRests", spec := "polyzRests", inPlace := ["math/bits.Add64", "math/bits.Sub64"], named := ["math/bits.divideError", "math/bits.overflowError"], apart := false }
def PolyzRestsSaid : Prop := polyzRestsRow.holds Try.pinned (OpenSpec.ofChange polyzRestsSpec)

/-- ITS FALSE NEIGHBOUR: 'it returns false'. Refute it at one input. -/
def polyzRestsWrong : ChangeSpec := { name := "polyzRests", fn := fun _ => fun
  | [d1, d2] => { results := [.lit (.bool false)], args := [d1, d2] }
  | _ => none }
def PolyzRestsWrongFalsely : Prop := polyzRestsRow.holds Try.pinned (OpenSpec.ofChange polyzRestsWrong)

/-- 'hairlinelaw10.PolyzShifts': WHATEVER THE INPUT: true; the input reads as it did. -/
def polyzShiftsSpec : ChangeSpec := { name := "polyzShifts", fn := fun _ => fun
  | [d1, d2, d3] => { results := [.lit (.bool true)], args := [d1, d2, d3] }
  | _ => none }
def polyzShiftsRow : OpenClaim := { program := "ytdnjahdppgjmlaa", sum := "97262b1eb33cbd953d6055ad3e829dd0c4ccb84cd0c6f071f6b360b8a2881859", func := "hairline/hairlinelaw10.PolyzShifts", spec := "polyzShifts", inPlace := ["math/bits.Add64", "math/bits.Sub64"], named := ["math/bits.divideError", "math/bits.overflowError"], apart := false }
def PolyzShiftsSaid : Prop := polyzShiftsRow.holds Try.pinned (OpenSpec.ofChange polyzShiftsSpec)

/-- ITS FALSE NEIGHBOUR: 'it returns false'. Refute it at one input. -/
def polyzShiftsWrong : ChangeSpec := { name := "polyzShifts", fn := fun _ => fun
  | [d1, d2, d3] => { results := [.lit (.bool false)], args := [d1, d2, d3] }
  | _ => none }
def PolyzShiftsWrongFalsely : Prop := polyzShiftsRow.holds Try.pinned (OpenSpec.ofChange polyzShiftsWrong)

/-- 'hairlinelaw10.PolyzExact': WHATEVER THE INPUT: true; the input reads as it did. -/
def polyzExactSpec : ChangeSpec := { name := "polyzExact", fn := fun _ => fun
  | [d1, d2] => { results := [.lit (.bool true)], args := [d1, d2] }
  | _ => none }
def polyzExactRow : OpenClaim := { program := "ytdnjahdppgjmlaa", sum := "97262b1eb33cbd953d6055ad3e829dd0c4ccb84cd0c6f071f6b360b8a2881859", func := "hairline/hairlinelaw10.PolyzExact", spec := "polyzExact", inPlace := ["math/bits.Add64", "math/bits.Sub64"], named := ["math/bits.divideError", "math/bits.overflowError"], apart := false }
def PolyzExactSaid : Prop := polyzExactRow.holds Try.pinned (OpenSpec.ofChange polyzExactSpec)

/-- ITS FALSE NEIGHBOUR: 'it returns false'. Refute it at one input. -/
def polyzExactWrong : ChangeSpec := { name := "polyzExact", fn := fun _ => fun
  | [d1, d2] => { results := [.lit (.bool false)], args := [d1, d2] }
  | _ => none }
def PolyzExactWrongFalsely : Prop := polyzExactRow.holds Try.pinned (OpenSpec.ofChange polyzExactWrong)

/-- 'hairlinelaw10.PolyzTells': WHATEVER THE INPUT: true; the input reads as it did. -/
def polyzTellsSpec : ChangeSpec := { name := "polyzTells", fn := fun _ => fun
  | [d1, d2, d3] => { results := [.lit (.bool true)], args := [d1, d2, d3] }
  | _ => none }
def polyzTellsRow : OpenClaim := { program := "ytdnjahdppgjmlaa", sum := "97262b1eb33cbd953d6055ad3e829dd0c4ccb84cd0c6f071f6b360b8a2881859", func := "hairline/hairlinelaw10.PolyzTells", spec := "polyzTells", inPlace := ["math/bits.Add64", "math/bits.Sub64"], named := ["math/bits.divideError", "math/bits.overflowError"], apart := false }
def PolyzTellsSaid : Prop := polyzTellsRow.holds Try.pinned (OpenSpec.ofChange polyzTellsSpec)

/-- ITS FALSE NEIGHBOUR: 'it returns false'. Refute it at one input. -/
def polyzTellsWrong : ChangeSpec := { name := "polyzTells", fn := fun _ => fun
  | [d1, d2, d3] => { results := [.lit (.bool false)], args := [d1, d2, d3] }
  | _ => none }
def PolyzTellsWrongFalsely : Prop := polyzTellsRow.holds Try.pinned (OpenSpec.ofChange polyzTellsWrong)

/- THE SECOND FORM. 'bulk': how many values and letters a reading holds, each counted each time it is reached (what is shared counts as often as it is met; a slice's spare places count too). A statement '..UptoSaid' is the law's where the arguments, and the package variables that the reading takes, are together of bulk at most 1048576: NARROWER than '..Said'. Prove '..Said' where nothing that the law and all that it calls make is longer than what came in: it says more and counts as full. Else prove '..UptoSaid'. A law counts once. -/
mutual
def uptoBulk {H : Type} : DataW H → Nat
  | .lit (.string bytes) => bytes.length + 1
  | .lit _ => 1
  | .nil => 1
  | .ptr d => uptoBulk d + 1
  | .slice elems spare => uptoBulkAll elems + uptoBulkAll spare + 1
  | .agg parts => uptoBulkAll parts + 1
  | .iface _ d => uptoBulk d + 1
  | .map entries => uptoBulkEntries entries + 1
  | .held _ => 1
def uptoBulkAll {H : Type} : List (DataW H) → Nat
  | [] => 0
  | d :: r => uptoBulk d + uptoBulkAll r
def uptoBulkEntries {H : Type} : List (Lit × DataW H) → Nat
  | [] => 0
  | x :: r => uptoBulkEntry x + uptoBulkEntries r
def uptoBulkEntry {H : Type} : Lit × DataW H → Nat
  | (.string bytes, d) => bytes.length + uptoBulk d + 1
  | (_, d) => uptoBulk d + 1
 end
def uptoSmall : (H : Type) → List (DataW H) → Bool := fun _ ds => decide (uptoBulkAll ds ≤ 1048576)
def OpenSpec.upto (s : _root_.Go.ChangeSpec) : _root_.Go.OpenSpec := { _root_.Go.OpenSpec.ofChange s with cond := some uptoSmall }

/-- 'hairlinelaw10.PolyzParts', WHERE WHAT IT READS IS OF BULK AT MOST 1048576: true; the input reads as it did. -/
def polyzPartsUptoRow : OpenClaim := { program := "ytdnjahdppgjmlaa", sum := "97262b1eb33cbd953d6055ad3e829dd0c4ccb84cd0c6f071f6b360b8a2881859", func := "hairline/hairlinelaw10.PolyzParts", spec := "polyzParts", inPlace := ["math/bits.Add64", "math/bits.Sub64"], named := ["math/bits.divideError", "math/bits.overflowError"], apart := false, narrowed := true }
def PolyzPartsUptoSaid : Prop := polyzPartsUptoRow.holds Try.pinned (OpenSpec.upto polyzPartsSpec)

/-- 'hairlinelaw10.PolyzDerives', WHERE WHAT IT READS IS OF BULK AT MOST 1048576: true; the input reads as it did. -/
def polyzDerivesUptoRow : OpenClaim := { program := "ytdnjahdppgjmlaa", sum := "97262b1eb33cbd953d6055ad3e829dd0c4ccb84cd0c6f071f6b360b8a2881859", func := "hairline/hairlinelaw10.PolyzDerives", spec := "polyzDerives", inPlace := ["math/bits.Add64", "math/bits.Sub64"], named := ["math/bits.divideError", "math/bits.overflowError"], apart := false, narrowed := true }
def PolyzDerivesUptoSaid : Prop := polyzDerivesUptoRow.holds Try.pinned (OpenSpec.upto polyzDerivesSpec)

/-- 'hairlinelaw10.PolyzSimple', WHERE WHAT IT READS IS OF BULK AT MOST 1048576: true; the input reads as it did. -/
def polyzSimpleUptoRow : OpenClaim := { program := "ytdnjahdppgjmlaa", sum := "97262b1eb33cbd953d6055ad3e829dd0c4ccb84cd0c6f071f6b360b8a2881859", func := "hairline/hairlinelaw10.PolyzSimple", spec := "polyzSimple", inPlace := ["math/bits.Add64", "math/bits.Sub64"], named := ["math/bits.divideError", "math/bits.overflowError"], apart := false, narrowed := true }
def PolyzSimpleUptoSaid : Prop := polyzSimpleUptoRow.holds Try.pinned (OpenSpec.upto polyzSimpleSpec)

/-- 'hairlinelaw10.PolyzRings', WHERE WHAT IT READS IS OF BULK AT MOST 1048576: true; the input reads as it did. -/
def polyzRingsUptoRow : OpenClaim := { program := "ytdnjahdppgjmlaa", sum := "97262b1eb33cbd953d6055ad3e829dd0c4ccb84cd0c6f071f6b360b8a2881859", func := "hairline/hairlinelaw10.PolyzRings", spec := "polyzRings", inPlace := ["math/bits.Add64", "math/bits.Sub64"], named := ["math/bits.divideError", "math/bits.overflowError"], apart := false, narrowed := true }
def PolyzRingsUptoSaid : Prop := polyzRingsUptoRow.holds Try.pinned (OpenSpec.upto polyzRingsSpec)

/-- 'hairlinelaw10.PolyzGcds', WHERE WHAT IT READS IS OF BULK AT MOST 1048576: true; the input reads as it did. -/
def polyzGcdsUptoRow : OpenClaim := { program := "ytdnjahdppgjmlaa", sum := "97262b1eb33cbd953d6055ad3e829dd0c4ccb84cd0c6f071f6b360b8a2881859", func := "hairline/hairlinelaw10.PolyzGcds", spec := "polyzGcds", inPlace := ["math/bits.Add64", "math/bits.Sub64"], named := ["math/bits.divideError", "math/bits.overflowError"], apart := false, narrowed := true }
def PolyzGcdsUptoSaid : Prop := polyzGcdsUptoRow.holds Try.pinned (OpenSpec.upto polyzGcdsSpec)

/-- 'hairlinelaw10.PolyzMoves', WHERE WHAT IT READS IS OF BULK AT MOST 1048576: true; the input reads as it did. -/
def polyzMovesUptoRow : OpenClaim := { program := "ytdnjahdppgjmlaa", sum := "97262b1eb33cbd953d6055ad3e829dd0c4ccb84cd0c6f071f6b360b8a2881859", func := "hairline/hairlinelaw10.PolyzMoves", spec := "polyzMoves", inPlace := ["math/bits.Add64", "math/bits.Sub64"], named := ["math/bits.divideError", "math/bits.overflowError"], apart := false, narrowed := true }
def PolyzMovesUptoSaid : Prop := polyzMovesUptoRow.holds Try.pinned (OpenSpec.upto polyzMovesSpec)

/-- 'hairlinelaw10.PolyzValues', WHERE WHAT IT READS IS OF BULK AT MOST 1048576: true; the input reads as it did. -/
def polyzValuesUptoRow : OpenClaim := { program := "ytdnjahdppgjmlaa", sum := "97262b1eb33cbd953d6055ad3e829dd0c4ccb84cd0c6f071f6b360b8a2881859", func := "hairline/hairlinelaw10.PolyzValues", spec := "polyzValues", inPlace := ["math/bits.Add64", "math/bits.Sub64"], named := ["math/bits.divideError", "math/bits.overflowError"], apart := false, narrowed := true }
def PolyzValuesUptoSaid : Prop := polyzValuesUptoRow.holds Try.pinned (OpenSpec.upto polyzValuesSpec)

/-- 'hairlinelaw10.PolyzRests', WHERE WHAT IT READS IS OF BULK AT MOST 1048576: true; the input reads as it did. -/
def polyzRestsUptoRow : OpenClaim := { program := "ytdnjahdppgjmlaa", sum := "97262b1eb33cbd953d6055ad3e829dd0c4ccb84cd0c6f071f6b360b8a2881859", func := "hairline/hairlinelaw10.PolyzRests", spec := "polyzRests", inPlace := ["math/bits.Add64", "math/bits.Sub64"], named := ["math/bits.divideError", "math/bits.overflowError"], apart := false, narrowed := true }
def PolyzRestsUptoSaid : Prop := polyzRestsUptoRow.holds Try.pinned (OpenSpec.upto polyzRestsSpec)

/-- 'hairlinelaw10.PolyzShifts', WHERE WHAT IT READS IS OF BULK AT MOST 1048576: true; the input reads as it did. -/
def polyzShiftsUptoRow : OpenClaim := { program := "ytdnjahdppgjmlaa", sum := "97262b1eb33cbd953d6055ad3e829dd0c4ccb84cd0c6f071f6b360b8a2881859", func := "hairline/hairlinelaw10.PolyzShifts", spec := "polyzShifts", inPlace := ["math/bits.Add64", "math/bits.Sub64"], named := ["math/bits.divideError", "math/bits.overflowError"], apart := false, narrowed := true }
def PolyzShiftsUptoSaid : Prop := polyzShiftsUptoRow.holds Try.pinned (OpenSpec.upto polyzShiftsSpec)

/-- 'hairlinelaw10.PolyzExact', WHERE WHAT IT READS IS OF BULK AT MOST 1048576: true; the input reads as it did. -/
def polyzExactUptoRow : OpenClaim := { program := "ytdnjahdppgjmlaa", sum := "97262b1eb33cbd953d6055ad3e829dd0c4ccb84cd0c6f071f6b360b8a2881859", func := "hairline/hairlinelaw10.PolyzExact", spec := "polyzExact", inPlace := ["math/bits.Add64", "math/bits.Sub64"], named := ["math/bits.divideError", "math/bits.overflowError"], apart := false, narrowed := true }
def PolyzExactUptoSaid : Prop := polyzExactUptoRow.holds Try.pinned (OpenSpec.upto polyzExactSpec)

/-- 'hairlinelaw10.PolyzTells', WHERE WHAT IT READS IS OF BULK AT MOST 1048576: true; the input reads as it did. -/
def polyzTellsUptoRow : OpenClaim := { program := "ytdnjahdppgjmlaa", sum := "97262b1eb33cbd953d6055ad3e829dd0c4ccb84cd0c6f071f6b360b8a2881859", func := "hairline/hairlinelaw10.PolyzTells", spec := "polyzTells", inPlace := ["math/bits.Add64", "math/bits.Sub64"], named := ["math/bits.divideError", "math/bits.overflowError"], apart := false, narrowed := true }
def PolyzTellsUptoSaid : Prop := polyzTellsUptoRow.holds Try.pinned (OpenSpec.upto polyzTellsSpec)

end Rows
end Go.Proofs.Ytdnjahdppgjmlaa
