/-
  No cell of these rows narrows 'for every input' (looked for: loops, veiled, ifaces, maps, wideKeys, modest, calm, conditions, laid).
  DERIVED. THE GIVEN ROWS OF THIS SEAT. 6 by the template 'for every input the law returns true; each argument reads behind the call as it read before'; 0 by the template 'total and deterministic' (their statements: YtgpcepcbdpigfaaTotals.lean).
  GIVEN WITH THE SEED: the statements are not yours to turn. If you find one false, say at which input.
  Laid BY PROGRAM, IN A SANDBOX (cutbox-rows.mjs): the forced cells as the released guide's own fill.sh prints them over the translation 22039249998ae173… (all of the seat's roots in one cut). By AI agents, Wed Nov 11 2026. No macro, syntax, notation, axiom, sorry.
-/
import Derived.Test.YtgpcepcbdpigfaaChecked
import GoSem.Claim
import GoSem.ClaimJoined
import GoSem.ClaimMapViews
import Derived.JoinedTies
import Derived.KernelRfl
namespace Go.Proofs.Ytgpcepcbdpigfaa
/- THE CELL 'sum', in the pinned program and in every row, IS THE sha256 OF THE DUMP (.gsa) THAT YtgpcepcbdpigfaaProg.lean LOADS. Nothing in Lean hashes anything: it is a label: what it is worth is what the hold of that sum in a sandbox is worth. -/
noncomputable def Try.pinned : Pinned := { name := "ytgpcepcbdpigfaa", sum := "22039249998ae173a1f5e7f7a660761902f4cc922730f64f6d2bbff65eceb72d", checked := Try.checked }
namespace Rows
def none {H : Type} : Left H := { results := [], args := [] }

/-- 'hairlinelaw13.RootsTries': WHATEVER THE INPUT: true; the input reads as it did. -/
def rootsTriesSpec : ChangeSpec := { name := "rootsTries", fn := fun _ => fun
  | [d1, d2, d3] => { results := [.lit (.bool true)], args := [d1, d2, d3] }
  | _ => none }
def rootsTriesRow : OpenClaim := { program := "ytgpcepcbdpigfaa", sum := "22039249998ae173a1f5e7f7a660761902f4cc922730f64f6d2bbff65eceb72d", func := "hairline/hairlinelaw13.RootsTries", spec := "rootsTries", inPlace := ["math/bits.Add64", "math/bits.Sub64"], unfollowed := true, recurses := true, named := ["math/bits.divideError", "math/bits.overflowError"], apart := false }
def RootsTriesSaid : Prop := rootsTriesRow.holds Try.pinned (OpenSpec.ofChange rootsTriesSpec)

/-- ITS FALSE NEIGHBOUR: 'it returns false'. Refute it at one input. -/
def rootsTriesWrong : ChangeSpec := { name := "rootsTries", fn := fun _ => fun
  | [d1, d2, d3] => { results := [.lit (.bool false)], args := [d1, d2, d3] }
  | _ => none }
def RootsTriesWrongFalsely : Prop := rootsTriesRow.holds Try.pinned (OpenSpec.ofChange rootsTriesWrong)

/-- 'hairlinelaw13.RootsBounds': WHATEVER THE INPUT: true; the input reads as it did. -/
def rootsBoundsSpec : ChangeSpec := { name := "rootsBounds", fn := fun _ => fun
  | [d1, d2] => { results := [.lit (.bool true)], args := [d1, d2] }
  | _ => none }
def rootsBoundsRow : OpenClaim := { program := "ytgpcepcbdpigfaa", sum := "22039249998ae173a1f5e7f7a660761902f4cc922730f64f6d2bbff65eceb72d", func := "hairline/hairlinelaw13.RootsBounds", spec := "rootsBounds", inPlace := ["math/bits.Add64", "math/bits.Sub64"], unfollowed := true, recurses := true, named := ["math/bits.divideError", "math/bits.overflowError"], apart := false }
def RootsBoundsSaid : Prop := rootsBoundsRow.holds Try.pinned (OpenSpec.ofChange rootsBoundsSpec)

/-- ITS FALSE NEIGHBOUR: 'it returns false'. Refute it at one input. -/
def rootsBoundsWrong : ChangeSpec := { name := "rootsBounds", fn := fun _ => fun
  | [d1, d2] => { results := [.lit (.bool false)], args := [d1, d2] }
  | _ => none }
def RootsBoundsWrongFalsely : Prop := rootsBoundsRow.holds Try.pinned (OpenSpec.ofChange rootsBoundsWrong)

/-- 'hairlinelaw13.RootsSigns': WHATEVER THE INPUT: true; the input reads as it did. -/
def rootsSignsSpec : ChangeSpec := { name := "rootsSigns", fn := fun _ => fun
  | [d1, d2, d3] => { results := [.lit (.bool true)], args := [d1, d2, d3] }
  | _ => none }
def rootsSignsRow : OpenClaim := { program := "ytgpcepcbdpigfaa", sum := "22039249998ae173a1f5e7f7a660761902f4cc922730f64f6d2bbff65eceb72d", func := "hairline/hairlinelaw13.RootsSigns", spec := "rootsSigns", inPlace := ["math/bits.Add64", "math/bits.Sub64"], unfollowed := true, recurses := true, named := ["math/bits.divideError", "math/bits.overflowError"], apart := false }
def RootsSignsSaid : Prop := rootsSignsRow.holds Try.pinned (OpenSpec.ofChange rootsSignsSpec)

/-- ITS FALSE NEIGHBOUR: 'it returns false'. Refute it at one input. -/
def rootsSignsWrong : ChangeSpec := { name := "rootsSigns", fn := fun _ => fun
  | [d1, d2, d3] => { results := [.lit (.bool false)], args := [d1, d2, d3] }
  | _ => none }
def RootsSignsWrongFalsely : Prop := rootsSignsRow.holds Try.pinned (OpenSpec.ofChange rootsSignsWrong)

/-- 'hairlinelaw13.RootsFloors': WHATEVER THE INPUT: true; the input reads as it did. -/
def rootsFloorsSpec : ChangeSpec := { name := "rootsFloors", fn := fun _ => fun
  | [d1, d2, d3, d4] => { results := [.lit (.bool true)], args := [d1, d2, d3, d4] }
  | _ => none }
def rootsFloorsRow : OpenClaim := { program := "ytgpcepcbdpigfaa", sum := "22039249998ae173a1f5e7f7a660761902f4cc922730f64f6d2bbff65eceb72d", func := "hairline/hairlinelaw13.RootsFloors", spec := "rootsFloors", inPlace := ["math/bits.Add64", "math/bits.Sub64"], unfollowed := true, recurses := true, named := ["math/bits.divideError", "math/bits.overflowError"], apart := false }
def RootsFloorsSaid : Prop := rootsFloorsRow.holds Try.pinned (OpenSpec.ofChange rootsFloorsSpec)

/-- ITS FALSE NEIGHBOUR: 'it returns false'. Refute it at one input. -/
def rootsFloorsWrong : ChangeSpec := { name := "rootsFloors", fn := fun _ => fun
  | [d1, d2, d3, d4] => { results := [.lit (.bool false)], args := [d1, d2, d3, d4] }
  | _ => none }
def RootsFloorsWrongFalsely : Prop := rootsFloorsRow.holds Try.pinned (OpenSpec.ofChange rootsFloorsWrong)

/-- 'hairlinelaw13.RootsKnown': WHATEVER THE INPUT: true; the input reads as it did. -/
def rootsKnownSpec : ChangeSpec := { name := "rootsKnown", fn := fun _ => fun
  | [d1, d2, d3, d4, d5] => { results := [.lit (.bool true)], args := [d1, d2, d3, d4, d5] }
  | _ => none }
def rootsKnownRow : OpenClaim := { program := "ytgpcepcbdpigfaa", sum := "22039249998ae173a1f5e7f7a660761902f4cc922730f64f6d2bbff65eceb72d", func := "hairline/hairlinelaw13.RootsKnown", spec := "rootsKnown", inPlace := ["math/bits.Add64", "math/bits.Sub64"], unfollowed := true, recurses := true, named := ["math/bits.divideError", "math/bits.overflowError"], apart := false }
def RootsKnownSaid : Prop := rootsKnownRow.holds Try.pinned (OpenSpec.ofChange rootsKnownSpec)

/-- ITS FALSE NEIGHBOUR: 'it returns false'. Refute it at one input. -/
def rootsKnownWrong : ChangeSpec := { name := "rootsKnown", fn := fun _ => fun
  | [d1, d2, d3, d4, d5] => { results := [.lit (.bool false)], args := [d1, d2, d3, d4, d5] }
  | _ => none }
def RootsKnownWrongFalsely : Prop := rootsKnownRow.holds Try.pinned (OpenSpec.ofChange rootsKnownWrong)

/-- 'hairlinelaw13.RootsAdds': WHATEVER THE INPUT: true; the input reads as it did. -/
def rootsAddsSpec : ChangeSpec := { name := "rootsAdds", fn := fun _ => fun
  | [d1, d2, d3, d4] => { results := [.lit (.bool true)], args := [d1, d2, d3, d4] }
  | _ => none }
def rootsAddsRow : OpenClaim := { program := "ytgpcepcbdpigfaa", sum := "22039249998ae173a1f5e7f7a660761902f4cc922730f64f6d2bbff65eceb72d", func := "hairline/hairlinelaw13.RootsAdds", spec := "rootsAdds", inPlace := ["math/bits.Add64", "math/bits.Sub64"], unfollowed := true, recurses := true, named := ["math/bits.divideError", "math/bits.overflowError"], apart := false }
def RootsAddsSaid : Prop := rootsAddsRow.holds Try.pinned (OpenSpec.ofChange rootsAddsSpec)

/-- ITS FALSE NEIGHBOUR: 'it returns false'. Refute it at one input. -/
def rootsAddsWrong : ChangeSpec := { name := "rootsAdds", fn := fun _ => fun
  | [d1, d2, d3, d4] => { results := [.lit (.bool false)], args := [d1, d2, d3, d4] }
  | _ => none }
def RootsAddsWrongFalsely : Prop := rootsAddsRow.holds Try.pinned (OpenSpec.ofChange rootsAddsWrong)

/- THE SECOND FORM. 'bulk': how many values and letters a reading holds, each counted each time it is reached (what is shared counts as often as it is met; a slice's spare places count too). A statement '..UptoSaid' is the law's where the arguments, and the package variables that the reading takes, are together of bulk at most 1048576: NARROWER than '..Said'. Prove '..Said' where nothing that the law and all that it calls make is longer than what came in: it says more and counts as full. Else prove '..UptoSaid'. A law counts once. -/
mutual
def uptoBulk {H : Type} : DataW H → Nat
  | .lit (.string bytes) => bytes.length + 1
  | .lit _ => 1
  | .nil => 1
  | .ptr d => uptoBulk d + 1
  | .slice elems spare => uptoBulkAll elems + uptoBulkAll spare + 1
  | .agg parts => uptoBulkAll parts + 1
  | .iface _ d => uptoBulk d + 1
  | .map entries => uptoBulkEntries entries + 1
  | .held _ => 1
def uptoBulkAll {H : Type} : List (DataW H) → Nat
  | [] => 0
  | d :: r => uptoBulk d + uptoBulkAll r
def uptoBulkEntries {H : Type} : List (Lit × DataW H) → Nat
  | [] => 0
  | x :: r => uptoBulkEntry x + uptoBulkEntries r
def uptoBulkEntry {H : Type} : Lit × DataW H → Nat
  | (.string bytes, d) => bytes.length + uptoBulk d + 1
  | (_, d) => uptoBulk d + 1
 end
def uptoSmall : (H : Type) → List (DataW H) → Bool := fun _ ds => decide (uptoBulkAll ds ≤ 1048576)
def OpenSpec.upto (s : _root_.Go.ChangeSpec) : _root_.Go.OpenSpec := { _root_.Go.OpenSpec.ofChange s with cond := some uptoSmall }

/-- 'hairlinelaw13.RootsTries', WHERE WHAT IT READS IS OF BULK AT MOST 1048576: true; the input reads as it did. -/
def rootsTriesUptoRow : OpenClaim := { program := "ytgpcepcbdpigfaa", sum := "22039249998ae173a1f5e7f7a660761902f4cc922730f64f6d2bbff65eceb72d", func := "hairline/hairlinelaw13.RootsTries", spec := "rootsTries", inPlace := ["math/bits.Add64", "math/bits.Sub64"], unfollowed := true, recurses := true, named := ["math/bits.divideError", "math/bits.overflowError"], apart := false, narrowed := true }
def RootsTriesUptoSaid : Prop := rootsTriesUptoRow.holds Try.pinned (OpenSpec.upto rootsTriesSpec)

/-- 'hairlinelaw13.RootsBounds', WHERE WHAT IT READS IS OF BULK AT MOST 1048576: true; the input reads as it did. -/
def rootsBoundsUptoRow : OpenClaim := { program := "ytgpcepcbdpigfaa", sum := "22039249998ae173a1f5e7f7a660761902f4cc922730f64f6d2bbff65eceb72d", func := "hairline/hairlinelaw13.RootsBounds", spec := "rootsBounds", inPlace := ["math/bits.Add64", "math/bits.Sub64"], unfollowed := true, recurses := true, named := ["math/bits.divideError", "math/bits.overflowError"], apart := false, narrowed := true }
def RootsBoundsUptoSaid : Prop := rootsBoundsUptoRow.holds Try.pinned (OpenSpec.upto rootsBoundsSpec)

/-- 'hairlinelaw13.RootsSigns', WHERE WHAT IT READS IS OF BULK AT MOST 1048576: true; the input reads as it did. -/
def rootsSignsUptoRow : OpenClaim := { program := "ytgpcepcbdpigfaa", sum := "22039249998ae173a1f5e7f7a660761902f4cc922730f64f6d2bbff65eceb72d", func := "hairline/hairlinelaw13.RootsSigns", spec := "rootsSigns", inPlace := ["math/bits.Add64", "math/bits.Sub64"], unfollowed := true, recurses := true, named := ["math/bits.divideError", "math/bits.overflowError"], apart := false, narrowed := true }
def RootsSignsUptoSaid : Prop := rootsSignsUptoRow.holds Try.pinned (OpenSpec.upto rootsSignsSpec)

/-- 'hairlinelaw13.RootsFloors', WHERE WHAT IT READS IS OF BULK AT MOST 1048576: true; the input reads as it did. -/
def rootsFloorsUptoRow : OpenClaim := { program := "ytgpcepcbdpigfaa", sum := "22039249998ae173a1f5e7f7a660761902f4cc922730f64f6d2bbff65eceb72d", func := "hairline/hairlinelaw13.RootsFloors", spec := "rootsFloors", inPlace := ["math/bits.Add64", "math/bits.Sub64"], unfollowed := true, recurses := true, named := ["math/bits.divideError", "math/bits.overflowError"], apart := false, narrowed := true }
def RootsFloorsUptoSaid : Prop := rootsFloorsUptoRow.holds Try.pinned (OpenSpec.upto rootsFloorsSpec)

/-- 'hairlinelaw13.RootsKnown', WHERE WHAT IT READS IS OF BULK AT MOST 1048576: true; the input reads as it did. -/
def rootsKnownUptoRow : OpenClaim := { program := "ytgpcepcbdpigfaa", sum := "22039249998ae173a1f5e7f7a660761902f4cc922730f64f6d2bbff65eceb72d", func := "hairline/hairlinelaw13.RootsKnown", spec := "rootsKnown", inPlace := ["math/bits.Add64", "math/bits.Sub64"], unfollowed := true, recurses := true, named := ["math/bits.divideError", "math/bits.overflowError"], apart := false, narrowed := true }
def RootsKnownUptoSaid : Prop := rootsKnownUptoRow.holds Try.pinned (OpenSpec.upto rootsKnownSpec)

/-- 'hairlinelaw13.RootsAdds', WHERE WHAT IT READS IS OF BULK AT MOST 1048576: true; the input reads as it did. -/
def rootsAddsUptoRow : OpenClaim := { program := "ytgpcepcbdpigfaa", sum := "22039249998ae173a1f5e7f7a660761902f4cc922730f64f6d2bbff65eceb72d", func := "hairline/hairlinelaw13.RootsAdds", spec := "rootsAdds", inPlace := ["math/bits.Add64", "math/bits.Sub64"], unfollowed := true, recurses := true, named := ["math/bits.divideError", "math/bits.overflowError"], apart := false, narrowed := true }
def RootsAddsUptoSaid : Prop := rootsAddsUptoRow.holds Try.pinned (OpenSpec.upto rootsAddsSpec)

end Rows
end Go.Proofs.Ytgpcepcbdpigfaa
