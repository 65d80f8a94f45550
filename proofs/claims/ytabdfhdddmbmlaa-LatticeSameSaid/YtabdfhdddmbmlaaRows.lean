/-
  No cell of these rows narrows 'for every input' (looked for: loops, veiled, ifaces, maps, wideKeys, modest, calm, conditions, laid).
  DERIVED. THE GIVEN ROWS OF THIS SEAT. 6 by the template 'for every input the law returns true; each argument reads behind the call as it read before'; 0 by the template 'total and deterministic' (their statements: YtabdfhdddmbmlaaTotals.lean).
  GIVEN WITH THE SEED: the statements are not yours to turn. If you find one false, say at which input.
  Laid BY PROGRAM, IN A SANDBOX (cutbox-rows.mjs): the forced cells as the released guide's own fill.sh prints them over the translation 48038c29119d5f13… (all of the seat's roots in one cut). By AI agents, Wed Nov 11 2026. No macro, syntax, notation, axiom, sorry.
-/
import Derived.Test.YtabdfhdddmbmlaaChecked
import GoSem.Claim
import GoSem.ClaimJoined
import GoSem.ClaimMapViews
import Derived.JoinedTies
import Derived.KernelRfl
namespace Go.Proofs.Ytabdfhdddmbmlaa
/- THE CELL 'sum', in the pinned program and in every row, IS THE sha256 OF THE DUMP (.gsa) THAT YtabdfhdddmbmlaaProg.lean LOADS. Nothing in Lean hashes anything: it is a label: what it is worth is what the hold of that sum in a sandbox is worth. -/
noncomputable def Try.pinned : Pinned := { name := "ytabdfhdddmbmlaa", sum := "48038c29119d5f132a5165c4284f8bdc60956d6b61fe40f46240d492fdcea319", checked := Try.checked }
namespace Rows
def none {H : Type} : Left H := { results := [], args := [] }

/-- 'hairlinelaw14.LatticeSound': WHATEVER THE INPUT: true; the input reads as it did. -/
def latticeSoundSpec : ChangeSpec := { name := "latticeSound", fn := fun _ => fun
  | [d] => { results := [.lit (.bool true)], args := [d] }
  | _ => none }
def latticeSoundRow : OpenClaim := { program := "ytabdfhdddmbmlaa", sum := "48038c29119d5f132a5165c4284f8bdc60956d6b61fe40f46240d492fdcea319", func := "hairline/hairlinelaw14.LatticeSound", spec := "latticeSound", inPlace := ["math/bits.Add64", "math/bits.Sub64"], unfollowed := true, recurses := true, named := ["math/bits.divideError", "math/bits.overflowError"], apart := false }
def LatticeSoundSaid : Prop := latticeSoundRow.holds Try.pinned (OpenSpec.ofChange latticeSoundSpec)

/-- ITS FALSE NEIGHBOUR: 'it returns false'. Refute it at one input. -/
def latticeSoundWrong : ChangeSpec := { name := "latticeSound", fn := fun _ => fun
  | [d] => { results := [.lit (.bool false)], args := [d] }
  | _ => none }
def LatticeSoundWrongFalsely : Prop := latticeSoundRow.holds Try.pinned (OpenSpec.ofChange latticeSoundWrong)

/-- 'hairlinelaw14.LatticeInside': WHATEVER THE INPUT: true; the input reads as it did. -/
def latticeInsideSpec : ChangeSpec := { name := "latticeInside", fn := fun _ => fun
  | [d1, d2] => { results := [.lit (.bool true)], args := [d1, d2] }
  | _ => none }
def latticeInsideRow : OpenClaim := { program := "ytabdfhdddmbmlaa", sum := "48038c29119d5f132a5165c4284f8bdc60956d6b61fe40f46240d492fdcea319", func := "hairline/hairlinelaw14.LatticeInside", spec := "latticeInside", inPlace := ["math/bits.Add64", "math/bits.Sub64"], unfollowed := true, recurses := true, named := ["math/bits.divideError", "math/bits.overflowError"], apart := false }
def LatticeInsideSaid : Prop := latticeInsideRow.holds Try.pinned (OpenSpec.ofChange latticeInsideSpec)

/-- ITS FALSE NEIGHBOUR: 'it returns false'. Refute it at one input. -/
def latticeInsideWrong : ChangeSpec := { name := "latticeInside", fn := fun _ => fun
  | [d1, d2] => { results := [.lit (.bool false)], args := [d1, d2] }
  | _ => none }
def LatticeInsideWrongFalsely : Prop := latticeInsideRow.holds Try.pinned (OpenSpec.ofChange latticeInsideWrong)

/-- 'hairlinelaw14.LatticeSpans': WHATEVER THE INPUT: true; the input reads as it did. -/
def latticeSpansSpec : ChangeSpec := { name := "latticeSpans", fn := fun _ => fun
  | [d1, d2] => { results := [.lit (.bool true)], args := [d1, d2] }
  | _ => none }
def latticeSpansRow : OpenClaim := { program := "ytabdfhdddmbmlaa", sum := "48038c29119d5f132a5165c4284f8bdc60956d6b61fe40f46240d492fdcea319", func := "hairline/hairlinelaw14.LatticeSpans", spec := "latticeSpans", inPlace := ["math/bits.Add64", "math/bits.Sub64"], unfollowed := true, recurses := true, named := ["math/bits.divideError", "math/bits.overflowError"], apart := false }
def LatticeSpansSaid : Prop := latticeSpansRow.holds Try.pinned (OpenSpec.ofChange latticeSpansSpec)

/-- ITS FALSE NEIGHBOUR: 'it returns false'. Refute it at one input. -/
def latticeSpansWrong : ChangeSpec := { name := "latticeSpans", fn := fun _ => fun
  | [d1, d2] => { results := [.lit (.bool false)], args := [d1, d2] }
  | _ => none }
def LatticeSpansWrongFalsely : Prop := latticeSpansRow.holds Try.pinned (OpenSpec.ofChange latticeSpansWrong)

/-- 'hairlinelaw14.LatticeShort': WHATEVER THE INPUT: true; the input reads as it did. -/
def latticeShortSpec : ChangeSpec := { name := "latticeShort", fn := fun _ => fun
  | [d1, d2] => { results := [.lit (.bool true)], args := [d1, d2] }
  | _ => none }
def latticeShortRow : OpenClaim := { program := "ytabdfhdddmbmlaa", sum := "48038c29119d5f132a5165c4284f8bdc60956d6b61fe40f46240d492fdcea319", func := "hairline/hairlinelaw14.LatticeShort", spec := "latticeShort", inPlace := ["math/bits.Add64", "math/bits.Sub64"], unfollowed := true, recurses := true, named := ["math/bits.divideError", "math/bits.overflowError"], apart := false }
def LatticeShortSaid : Prop := latticeShortRow.holds Try.pinned (OpenSpec.ofChange latticeShortSpec)

/-- ITS FALSE NEIGHBOUR: 'it returns false'. Refute it at one input. -/
def latticeShortWrong : ChangeSpec := { name := "latticeShort", fn := fun _ => fun
  | [d1, d2] => { results := [.lit (.bool false)], args := [d1, d2] }
  | _ => none }
def LatticeShortWrongFalsely : Prop := latticeShortRow.holds Try.pinned (OpenSpec.ofChange latticeShortWrong)

/-- 'hairlinelaw14.LatticeVolumes': WHATEVER THE INPUT: true; the input reads as it did. -/
def latticeVolumesSpec : ChangeSpec := { name := "latticeVolumes", fn := fun _ => fun
  | [d] => { results := [.lit (.bool true)], args := [d] }
  | _ => none }
def latticeVolumesRow : OpenClaim := { program := "ytabdfhdddmbmlaa", sum := "48038c29119d5f132a5165c4284f8bdc60956d6b61fe40f46240d492fdcea319", func := "hairline/hairlinelaw14.LatticeVolumes", spec := "latticeVolumes", inPlace := ["math/bits.Add64", "math/bits.Sub64"], unfollowed := true, recurses := true, named := ["math/bits.divideError", "math/bits.overflowError"], apart := false }
def LatticeVolumesSaid : Prop := latticeVolumesRow.holds Try.pinned (OpenSpec.ofChange latticeVolumesSpec)

/-- ITS FALSE NEIGHBOUR: 'it returns false'. Refute it at one input. -/
def latticeVolumesWrong : ChangeSpec := { name := "latticeVolumes", fn := fun _ => fun
  | [d] => { results := [.lit (.bool false)], args := [d] }
  | _ => none }
def LatticeVolumesWrongFalsely : Prop := latticeVolumesRow.holds Try.pinned (OpenSpec.ofChange latticeVolumesWrong)

/-- 'hairlinelaw14.LatticeSame': WHATEVER THE INPUT: true; the input reads as it did. -/
def latticeSameSpec : ChangeSpec := { name := "latticeSame", fn := fun _ => fun
  | [d] => { results := [.lit (.bool true)], args := [d] }
  | _ => none }
def latticeSameRow : OpenClaim := { program := "ytabdfhdddmbmlaa", sum := "48038c29119d5f132a5165c4284f8bdc60956d6b61fe40f46240d492fdcea319", func := "hairline/hairlinelaw14.LatticeSame", spec := "latticeSame", inPlace := ["math/bits.Add64", "math/bits.Sub64"], unfollowed := true, recurses := true, named := ["math/bits.divideError", "math/bits.overflowError"], apart := false }
def LatticeSameSaid : Prop := latticeSameRow.holds Try.pinned (OpenSpec.ofChange latticeSameSpec)

/-- ITS FALSE NEIGHBOUR: 'it returns false'. Refute it at one input. -/
def latticeSameWrong : ChangeSpec := { name := "latticeSame", fn := fun _ => fun
  | [d] => { results := [.lit (.bool false)], args := [d] }
  | _ => none }
def LatticeSameWrongFalsely : Prop := latticeSameRow.holds Try.pinned (OpenSpec.ofChange latticeSameWrong)

/- THE SECOND FORM. 'bulk': how many values and letters a reading holds, each counted each time it is reached (what is shared counts as often as it is met; a slice's spare places count too). A statement '..UptoSaid' is the law's where the arguments, and the package variables that the reading takes, are together of bulk at most 1048576: NARROWER than '..Said'. Prove '..Said' where nothing that the law and all that it calls make is longer than what came in: it says more and counts as full. Else prove '..UptoSaid'. A law counts once. -/
mutual
def uptoBulk {H : Type} : DataW H → Nat
  | .lit (.string bytes) => bytes.length + 1
  | .lit _ => 1
  | .nil => 1
  | .ptr d => uptoBulk d + 1
  | .slice elems spare => uptoBulkAll elems + uptoBulkAll spare + 1
  | .agg parts => uptoBulkAll parts + 1
  | .iface _ d => uptoBulk d + 1
  | .map entries => uptoBulkEntries entries + 1
  | .held _ => 1
def uptoBulkAll {H : Type} : List (DataW H) → Nat
  | [] => 0
  | d :: r => uptoBulk d + uptoBulkAll r
def uptoBulkEntries {H : Type} : List (Lit × DataW H) → Nat
  | [] => 0
  | x :: r => uptoBulkEntry x + uptoBulkEntries r
def uptoBulkEntry {H : Type} : Lit × DataW H → Nat
  | (.string bytes, d) => bytes.length + uptoBulk d + 1
  | (_, d) => uptoBulk d + 1
 end
def uptoSmall : (H : Type) → List (DataW H) → Bool := fun _ ds => decide (uptoBulkAll ds ≤ 1048576)
def OpenSpec.upto (s : _root_.Go.ChangeSpec) : _root_.Go.OpenSpec := { _root_.Go.OpenSpec.ofChange s with cond := some uptoSmall }

/-- 'hairlinelaw14.LatticeSound', WHERE WHAT IT READS IS OF BULK AT MOST 1048576: true; the input reads as it did. -/
def latticeSoundUptoRow : OpenClaim := { program := "ytabdfhdddmbmlaa", sum := "48038c29119d5f132a5165c4284f8bdc60956d6b61fe40f46240d492fdcea319", func := "hairline/hairlinelaw14.LatticeSound", spec := "latticeSound", inPlace := ["math/bits.Add64", "math/bits.Sub64"], unfollowed := true, recurses := true, named := ["math/bits.divideError", "math/bits.overflowError"], apart := false, narrowed := true }
def LatticeSoundUptoSaid : Prop := latticeSoundUptoRow.holds Try.pinned (OpenSpec.upto latticeSoundSpec)

/-- 'hairlinelaw14.LatticeInside', WHERE WHAT IT READS IS OF BULK AT MOST 1048576: true; the input reads as it did. -/
def latticeInsideUptoRow : OpenClaim := { program := "ytabdfhdddmbmlaa", sum := "48038c29119d5f132a5165c4284f8bdc60956d6b61fe40f46240d492fdcea319", func := "hairline/hairlinelaw14.LatticeInside", spec := "latticeInside", inPlace := ["math/bits.Add64", "math/bits.Sub64"], unfollowed := true, recurses := true, named := ["math/bits.divideError", "math/bits.overflowError"], apart := false, narrowed := true }
def LatticeInsideUptoSaid : Prop := latticeInsideUptoRow.holds Try.pinned (OpenSpec.upto latticeInsideSpec)

/-- 'hairlinelaw14.LatticeSpans', WHERE WHAT IT READS IS OF BULK AT MOST 1048576: true; the input reads as it did. -/
def latticeSpansUptoRow : OpenClaim := { program := "ytabdfhdddmbmlaa", sum := "48038c29119d5f132a5165c4284f8bdc60956d6b61fe40f46240d492fdcea319", func := "hairline/hairlinelaw14.LatticeSpans", spec := "latticeSpans", inPlace := ["math/bits.Add64", "math/bits.Sub64"], unfollowed := true, recurses := true, named := ["math/bits.divideError", "math/bits.overflowError"], apart := false, narrowed := true }
def LatticeSpansUptoSaid : Prop := latticeSpansUptoRow.holds Try.pinned (OpenSpec.upto latticeSpansSpec)

/-- 'hairlinelaw14.LatticeShort', WHERE WHAT IT READS IS OF BULK AT MOST 1048576: true; the input reads as it did. -/
def latticeShortUptoRow : OpenClaim := { program := "ytabdfhdddmbmlaa", sum := "48038c29119d5f132a5165c4284f8bdc60956d6b61fe40f46240d492fdcea319", func := "hairline/hairlinelaw14.LatticeShort", spec := "latticeShort", inPlace := ["math/bits.Add64", "math/bits.Sub64"], unfollowed := true, recurses := true, named := ["math/bits.divideError", "math/bits.overflowError"], apart := false, narrowed := true }
def LatticeShortUptoSaid : Prop := latticeShortUptoRow.holds Try.pinned (OpenSpec.upto latticeShortSpec)

/-- 'hairlinelaw14.LatticeVolumes', WHERE WHAT IT READS IS OF BULK AT MOST 1048576: true; the input reads as it did. -/
def latticeVolumesUptoRow : OpenClaim := { program := "ytabdfhdddmbmlaa", sum := "48038c29119d5f132a5165c4284f8bdc60956d6b61fe40f46240d492fdcea319", func := "hairline/hairlinelaw14.LatticeVolumes", spec := "latticeVolumes", inPlace := ["math/bits.Add64", "math/bits.Sub64"], unfollowed := true, recurses := true, named := ["math/bits.divideError", "math/bits.overflowError"], apart := false, narrowed := true }
def LatticeVolumesUptoSaid : Prop := latticeVolumesUptoRow.holds Try.pinned (OpenSpec.upto latticeVolumesSpec)

/-- 'hairlinelaw14.LatticeSame', WHERE WHAT IT READS IS OF BULK AT MOST 1048576: true; the input reads as it did. -/
def latticeSameUptoRow : OpenClaim := { program := "ytabdfhdddmbmlaa", sum := "48038c29119d5f132a5165c4284f8bdc60956d6b61fe40f46240d492fdcea319", func := "hairline/hairlinelaw14.LatticeSame", spec := "latticeSame", inPlace := ["math/bits.Add64", "math/bits.Sub64"], unfollowed := true, recurses := true, named := ["math/bits.divideError", "math/bits.overflowError"], apart := false, narrowed := true }
def LatticeSameUptoSaid : Prop := latticeSameUptoRow.holds Try.pinned (OpenSpec.upto latticeSameSpec)

end Rows
end Go.Proofs.Ytabdfhdddmbmlaa
