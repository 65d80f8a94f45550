/-
  No cell of these rows narrows 'for every input' (looked for: loops, veiled, ifaces, maps, wideKeys, modest, calm, conditions, laid).
  DERIVED. THE GIVEN ROWS OF THIS SEAT. 6 by the template 'for every input the law returns true; each argument reads behind the call as it read before'; 0 by the template 'total and deterministic' (their statements: YtfkeohlpcjpkbaaTotals.lean).
  GIVEN WITH THE SEED: the statements are not yours to turn. If you find one false, say at which input.
  Laid BY PROGRAM, IN A SANDBOX (cutbox-rows.mjs): the forced cells as the released guide's own fill.sh prints them over the translation 3e1b2763426c78d1… (all of the seat's roots in one cut). By AI agents, Wed Nov 11 2026. No macro, syntax, notation, axiom, sorry.
-/
import Derived.Test.YtfkeohlpcjpkbaaChecked
import GoSem.Claim
import GoSem.ClaimJoined
import GoSem.ClaimMapViews
import Derived.JoinedTies
import Derived.KernelRfl
namespace Go.Proofs.Ytfkeohlpcjpkbaa
/- THE CELL 'sum', in the pinned program and in every row, IS THE sha256 OF THE DUMP (.gsa) THAT YtfkeohlpcjpkbaaProg.lean LOADS. Nothing in Lean hashes anything: it is a label: what it is worth is what the hold of that sum in a sandbox is worth. -/
noncomputable def Try.pinned : Pinned := { name := "ytfkeohlpcjpkbaa", sum := "3e1b2763426c78d104974a27b2e9eea922cd4be5013f984632b80413c1ce751a", checked := Try.checked }
namespace Rows
def none {H : Type} : Left H := { results := [], args := [] }

/-- 'hairlinelaw12.GridEliminates': WHATEVER THE INPUT: true; the input reads as it did. -/
def gridEliminatesSpec : ChangeSpec := { name := "gridEliminates", fn := fun _ => fun
  | [d1, d2] => { results := [.lit (.bool true)], args := [d1, d2] }
  | _ => none }
def gridEliminatesRow : OpenClaim := { program := "ytfkeohlpcjpkbaa", sum := "3e1b2763426c78d104974a27b2e9eea922cd4be5013f984632b80413c1ce751a", func := "hairline/hairlinelaw12.GridEliminates", spec := "gridEliminates", inPlace := ["math/bits.Add64", "math/bits.Sub64"], recurses := true, named := ["math/bits.divideError", "math/bits.overflowError"], plainKeys := false, apart := false }
def GridEliminatesSaid : Prop := gridEliminatesRow.holds Try.pinned (OpenSpec.ofChange gridEliminatesSpec)

/-- ITS FALSE NEIGHBOUR: 'it returns false'. Refute it at one input. -/
def gridEliminatesWrong : ChangeSpec := { name := "gridEliminates", fn := fun _ => fun
  | [d1, d2] => { results := [.lit (.bool false)], args := [d1, d2] }
  | _ => none }
def GridEliminatesWrongFalsely : Prop := gridEliminatesRow.holds Try.pinned (OpenSpec.ofChange gridEliminatesWrong)

/-- 'hairlinelaw12.GridFactors': WHATEVER THE INPUT: true; the input reads as it did. -/
def gridFactorsSpec : ChangeSpec := { name := "gridFactors", fn := fun _ => fun
  | [d1, d2, d3] => { results := [.lit (.bool true)], args := [d1, d2, d3] }
  | _ => none }
def gridFactorsRow : OpenClaim := { program := "ytfkeohlpcjpkbaa", sum := "3e1b2763426c78d104974a27b2e9eea922cd4be5013f984632b80413c1ce751a", func := "hairline/hairlinelaw12.GridFactors", spec := "gridFactors", inPlace := ["math/bits.Add64", "math/bits.Sub64"], named := ["math/bits.divideError", "math/bits.overflowError"], plainKeys := false, apart := false }
def GridFactorsSaid : Prop := gridFactorsRow.holds Try.pinned (OpenSpec.ofChange gridFactorsSpec)

/-- ITS FALSE NEIGHBOUR: 'it returns false'. Refute it at one input. -/
def gridFactorsWrong : ChangeSpec := { name := "gridFactors", fn := fun _ => fun
  | [d1, d2, d3] => { results := [.lit (.bool false)], args := [d1, d2, d3] }
  | _ => none }
def GridFactorsWrongFalsely : Prop := gridFactorsRow.holds Try.pinned (OpenSpec.ofChange gridFactorsWrong)

/-- 'hairlinelaw12.GridValues': WHATEVER THE INPUT: true; the input reads as it did. -/
def gridValuesSpec : ChangeSpec := { name := "gridValues", fn := fun _ => fun
  | [d1, d2, d3, d4] => { results := [.lit (.bool true)], args := [d1, d2, d3, d4] }
  | _ => none }
def gridValuesRow : OpenClaim := { program := "ytfkeohlpcjpkbaa", sum := "3e1b2763426c78d104974a27b2e9eea922cd4be5013f984632b80413c1ce751a", func := "hairline/hairlinelaw12.GridValues", spec := "gridValues", inPlace := ["math/bits.Add64", "math/bits.Sub64"], named := ["math/bits.divideError", "math/bits.overflowError"], plainKeys := false, apart := false }
def GridValuesSaid : Prop := gridValuesRow.holds Try.pinned (OpenSpec.ofChange gridValuesSpec)

/-- ITS FALSE NEIGHBOUR: 'it returns false'. Refute it at one input. -/
def gridValuesWrong : ChangeSpec := { name := "gridValues", fn := fun _ => fun
  | [d1, d2, d3, d4] => { results := [.lit (.bool false)], args := [d1, d2, d3, d4] }
  | _ => none }
def GridValuesWrongFalsely : Prop := gridValuesRow.holds Try.pinned (OpenSpec.ofChange gridValuesWrong)

/-- 'hairlinelaw12.GridMeets': WHATEVER THE INPUT: true; the input reads as it did. -/
def gridMeetsSpec : ChangeSpec := { name := "gridMeets", fn := fun _ => fun
  | [d1, d2, d3] => { results := [.lit (.bool true)], args := [d1, d2, d3] }
  | _ => none }
def gridMeetsRow : OpenClaim := { program := "ytfkeohlpcjpkbaa", sum := "3e1b2763426c78d104974a27b2e9eea922cd4be5013f984632b80413c1ce751a", func := "hairline/hairlinelaw12.GridMeets", spec := "gridMeets", inPlace := ["math/bits.Add64", "math/bits.Sub64"], named := ["math/bits.divideError", "math/bits.overflowError"], plainKeys := false, apart := false }
def GridMeetsSaid : Prop := gridMeetsRow.holds Try.pinned (OpenSpec.ofChange gridMeetsSpec)

/-- ITS FALSE NEIGHBOUR: 'it returns false'. Refute it at one input. -/
def gridMeetsWrong : ChangeSpec := { name := "gridMeets", fn := fun _ => fun
  | [d1, d2, d3] => { results := [.lit (.bool false)], args := [d1, d2, d3] }
  | _ => none }
def GridMeetsWrongFalsely : Prop := gridMeetsRow.holds Try.pinned (OpenSpec.ofChange gridMeetsWrong)

/-- 'hairlinelaw12.GridRings': WHATEVER THE INPUT: true; the input reads as it did. -/
def gridRingsSpec : ChangeSpec := { name := "gridRings", fn := fun _ => fun
  | [d1, d2, d3] => { results := [.lit (.bool true)], args := [d1, d2, d3] }
  | _ => none }
def gridRingsRow : OpenClaim := { program := "ytfkeohlpcjpkbaa", sum := "3e1b2763426c78d104974a27b2e9eea922cd4be5013f984632b80413c1ce751a", func := "hairline/hairlinelaw12.GridRings", spec := "gridRings", inPlace := ["math/bits.Add64", "math/bits.Sub64"], named := ["math/bits.divideError", "math/bits.overflowError"], plainKeys := false, apart := false }
def GridRingsSaid : Prop := gridRingsRow.holds Try.pinned (OpenSpec.ofChange gridRingsSpec)

/-- ITS FALSE NEIGHBOUR: 'it returns false'. Refute it at one input. -/
def gridRingsWrong : ChangeSpec := { name := "gridRings", fn := fun _ => fun
  | [d1, d2, d3] => { results := [.lit (.bool false)], args := [d1, d2, d3] }
  | _ => none }
def GridRingsWrongFalsely : Prop := gridRingsRow.holds Try.pinned (OpenSpec.ofChange gridRingsWrong)

/-- 'hairlinelaw12.GridPoints': WHATEVER THE INPUT: true; the input reads as it did. -/
def gridPointsSpec : ChangeSpec := { name := "gridPoints", fn := fun _ => fun
  | [d1, d2, d3] => { results := [.lit (.bool true)], args := [d1, d2, d3] }
  | _ => none }
def gridPointsRow : OpenClaim := { program := "ytfkeohlpcjpkbaa", sum := "3e1b2763426c78d104974a27b2e9eea922cd4be5013f984632b80413c1ce751a", func := "hairline/hairlinelaw12.GridPoints", spec := "gridPoints", inPlace := ["math/bits.Add64", "math/bits.Sub64"], unfollowed := true, recurses := true, named := ["math/bits.divideError", "math/bits.overflowError"], plainKeys := false, apart := false }
def GridPointsSaid : Prop := gridPointsRow.holds Try.pinned (OpenSpec.ofChange gridPointsSpec)

/-- ITS FALSE NEIGHBOUR: 'it returns false'. Refute it at one input. -/
def gridPointsWrong : ChangeSpec := { name := "gridPoints", fn := fun _ => fun
  | [d1, d2, d3] => { results := [.lit (.bool false)], args := [d1, d2, d3] }
  | _ => none }
def GridPointsWrongFalsely : Prop := gridPointsRow.holds Try.pinned (OpenSpec.ofChange gridPointsWrong)

/- THE SECOND FORM. 'bulk': how many values and letters a reading holds, each counted each time it is reached (what is shared counts as often as it is met; a slice's spare places count too). A statement '..UptoSaid' is the law's where the arguments, and the package variables that the reading takes, are together of bulk at most 1048576: NARROWER than '..Said'. Prove '..Said' where nothing that the law and all that it calls make is longer than what came in: it says more and counts as full. Else prove '..UptoSaid'. A law counts once. -/
mutual
def uptoBulk {H : Type} : DataW H → Nat
  | .lit (.string bytes) => bytes.length + 1
  | .lit _ => 1
  | .nil => 1
  | .ptr d => uptoBulk d + 1
  | .slice elems spare => uptoBulkAll elems + uptoBulkAll spare + 1
  | .agg parts => uptoBulkAll parts + 1
  | .iface _ d => uptoBulk d + 1
  | .map entries => uptoBulkEntries entries + 1
  | .held _ => 1
def uptoBulkAll {H : Type} : List (DataW H) → Nat
  | [] => 0
  | d :: r => uptoBulk d + uptoBulkAll r
def uptoBulkEntries {H : Type} : List (Lit × DataW H) → Nat
  | [] => 0
  | x :: r => uptoBulkEntry x + uptoBulkEntries r
def uptoBulkEntry {H : Type} : Lit × DataW H → Nat
  | (.string bytes, d) => bytes.length + uptoBulk d + 1
  | (_, d) => uptoBulk d + 1
 end
def uptoSmall : (H : Type) → List (DataW H) → Bool := fun _ ds => decide (uptoBulkAll ds ≤ 1048576)
def OpenSpec.upto (s : _root_.Go.ChangeSpec) : _root_.Go.OpenSpec := { _root_.Go.OpenSpec.ofChange s with cond := some uptoSmall }

/-- 'hairlinelaw12.GridEliminates', WHERE WHAT IT READS IS OF BULK AT MOST 1048576: true; the input reads as it did. -/
def gridEliminatesUptoRow : OpenClaim := { program := "ytfkeohlpcjpkbaa", sum := "3e1b2763426c78d104974a27b2e9eea922cd4be5013f984632b80413c1ce751a", func := "hairline/hairlinelaw12.GridEliminates", spec := "gridEliminates", inPlace := ["math/bits.Add64", "math/bits.Sub64"], recurses := true, named := ["math/bits.divideError", "math/bits.overflowError"], plainKeys := false, apart := false, narrowed := true }
def GridEliminatesUptoSaid : Prop := gridEliminatesUptoRow.holds Try.pinned (OpenSpec.upto gridEliminatesSpec)

/-- 'hairlinelaw12.GridFactors', WHERE WHAT IT READS IS OF BULK AT MOST 1048576: true; the input reads as it did. -/
def gridFactorsUptoRow : OpenClaim := { program := "ytfkeohlpcjpkbaa", sum := "3e1b2763426c78d104974a27b2e9eea922cd4be5013f984632b80413c1ce751a", func := "hairline/hairlinelaw12.GridFactors", spec := "gridFactors", inPlace := ["math/bits.Add64", "math/bits.Sub64"], named := ["math/bits.divideError", "math/bits.overflowError"], plainKeys := false, apart := false, narrowed := true }
def GridFactorsUptoSaid : Prop := gridFactorsUptoRow.holds Try.pinned (OpenSpec.upto gridFactorsSpec)

/-- 'hairlinelaw12.GridValues', WHERE WHAT IT READS IS OF BULK AT MOST 1048576: true; the input reads as it did. -/
def gridValuesUptoRow : OpenClaim := { program := "ytfkeohlpcjpkbaa", sum := "3e1b2763426c78d104974a27b2e9eea922cd4be5013f984632b80413c1ce751a", func := "hairline/hairlinelaw12.GridValues", spec := "gridValues", inPlace := ["math/bits.Add64", "math/bits.Sub64"], named := ["math/bits.divideError", "math/bits.overflowError"], plainKeys := false, apart := false, narrowed := true }
def GridValuesUptoSaid : Prop := gridValuesUptoRow.holds Try.pinned (OpenSpec.upto gridValuesSpec)

/-- 'hairlinelaw12.GridMeets', WHERE WHAT IT READS IS OF BULK AT MOST 1048576: true; the input reads as it did. -/
def gridMeetsUptoRow : OpenClaim := { program := "ytfkeohlpcjpkbaa", sum := "3e1b2763426c78d104974a27b2e9eea922cd4be5013f984632b80413c1ce751a", func := "hairline/hairlinelaw12.GridMeets", spec := "gridMeets", inPlace := ["math/bits.Add64", "math/bits.Sub64"], named := ["math/bits.divideError", "math/bits.overflowError"], plainKeys := false, apart := false, narrowed := true }
def GridMeetsUptoSaid : Prop := gridMeetsUptoRow.holds Try.pinned (OpenSpec.upto gridMeetsSpec)

/-- 'hairlinelaw12.GridRings', WHERE WHAT IT READS IS OF BULK AT MOST 1048576: true; the input reads as it did. -/
def gridRingsUptoRow : OpenClaim := { program := "ytfkeohlpcjpkbaa", sum := "3e1b2763426c78d104974a27b2e9eea922cd4be5013f984632b80413c1ce751a", func := "hairline/hairlinelaw12.GridRings", spec := "gridRings", inPlace := ["math/bits.Add64", "math/bits.Sub64"], named := ["math/bits.divideError", "math/bits.overflowError"], plainKeys := false, apart := false, narrowed := true }
def GridRingsUptoSaid : Prop := gridRingsUptoRow.holds Try.pinned (OpenSpec.upto gridRingsSpec)

/-- 'hairlinelaw12.GridPoints', WHERE WHAT IT READS IS OF BULK AT MOST 1048576: true; the input reads as it did. -/
def gridPointsUptoRow : OpenClaim := { program := "ytfkeohlpcjpkbaa", sum := "3e1b2763426c78d104974a27b2e9eea922cd4be5013f984632b80413c1ce751a", func := "hairline/hairlinelaw12.GridPoints", spec := "gridPoints", inPlace := ["math/bits.Add64", "math/bits.Sub64"], unfollowed := true, recurses := true, named := ["math/bits.divideError", "math/bits.overflowError"], plainKeys := false, apart := false, narrowed := true }
def GridPointsUptoSaid : Prop := gridPointsUptoRow.holds Try.pinned (OpenSpec.upto gridPointsSpec)

end Rows
end Go.Proofs.Ytfkeohlpcjpkbaa
