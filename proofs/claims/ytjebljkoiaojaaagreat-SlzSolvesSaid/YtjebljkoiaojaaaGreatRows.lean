/-
  No cell of these rows narrows 'for every input' (looked for: loops, veiled, ifaces, maps, wideKeys, modest, calm, conditions, laid).
  DERIVED. THE GIVEN ROWS OF THIS SEAT. 7 by the template 'for every input the law returns true; each argument reads behind the call as it read before'; 0 by the template 'total and deterministic' (their statements: YtjebljkoiaojaaaGreatTotals.lean).
  GIVEN WITH THE SEED: the statements are not yours to turn. If you find one false, say at which input.
  Laid BY PROGRAM, IN A SANDBOX (cutbox-rows.mjs): the forced cells as the released guide's own fill.sh prints them over the translation 167b2b9885fcbafb… (all of the seat's roots in one cut). By AI agents, Wed Nov 11 2026. No macro, syntax, notation, axiom, sorry.
-/
import Derived.Test.YtjebljkoiaojaaaGreatChecked
import GoSem.Claim
import GoSem.ClaimJoined
import GoSem.ClaimMapViews
import Derived.JoinedTies
import Derived.KernelRfl
namespace Go.Proofs.YtjebljkoiaojaaaGreat
/- THE CELL 'sum', in the pinned program and in every row, IS THE sha256 OF THE DUMP (.gsa) THAT YtjebljkoiaojaaaGreatProg.lean LOADS. Nothing in Lean hashes anything: it is a label: what it is worth is what the hold of that sum in a sandbox is worth. -/
noncomputable def Tryz.pinned : Pinned := { name := "ytjebljkoiaojaaagreat", sum := "167b2b9885fcbafb0329790209c66863cb1e006f27045e7f505f737eae44f501", checked := Tryz.checked }
namespace Rows
def none {H : Type} : Left H := { results := [], args := [] }

/-- 'hairlinelaw17.SlzTells': WHATEVER THE INPUT: true; the input reads as it did. -/
def slzTellsSpec : ChangeSpec := { name := "slzTells", fn := fun _ => fun
  | [d1, d2, d3] => { results := [.lit (.bool true)], args := [d1, d2, d3] }
  | _ => none }
def slzTellsRow : OpenClaim := { program := "ytjebljkoiaojaaagreat", sum := "167b2b9885fcbafb0329790209c66863cb1e006f27045e7f505f737eae44f501", func := "hairline/hairlinelaw17.SlzTells", spec := "slzTells", inPlace := ["math/bits.Add64", "math/bits.Sub64"], unfollowed := true, recurses := true, named := ["math/bits.divideError", "math/bits.overflowError"], plainKeys := false, apart := false }
def SlzTellsSaid : Prop := slzTellsRow.holds Tryz.pinned (OpenSpec.ofChange slzTellsSpec)

/-- ITS FALSE NEIGHBOUR: 'it returns false'. Refute it at one input. -/
def slzTellsWrong : ChangeSpec := { name := "slzTells", fn := fun _ => fun
  | [d1, d2, d3] => { results := [.lit (.bool false)], args := [d1, d2, d3] }
  | _ => none }
def SlzTellsWrongFalsely : Prop := slzTellsRow.holds Tryz.pinned (OpenSpec.ofChange slzTellsWrong)

/-- 'hairlinelaw17.SlzTries': WHATEVER THE INPUT: true; the input reads as it did. -/
def slzTriesSpec : ChangeSpec := { name := "slzTries", fn := fun _ => fun
  | [d] => { results := [.lit (.bool true)], args := [d] }
  | _ => none }
def slzTriesRow : OpenClaim := { program := "ytjebljkoiaojaaagreat", sum := "167b2b9885fcbafb0329790209c66863cb1e006f27045e7f505f737eae44f501", func := "hairline/hairlinelaw17.SlzTries", spec := "slzTries", inPlace := ["math/bits.Add64", "math/bits.Sub64"], unfollowed := true, recurses := true, named := ["math/bits.divideError", "math/bits.overflowError"], plainKeys := false, apart := false }
def SlzTriesSaid : Prop := slzTriesRow.holds Tryz.pinned (OpenSpec.ofChange slzTriesSpec)

/-- ITS FALSE NEIGHBOUR: 'it returns false'. Refute it at one input. -/
def slzTriesWrong : ChangeSpec := { name := "slzTries", fn := fun _ => fun
  | [d] => { results := [.lit (.bool false)], args := [d] }
  | _ => none }
def SlzTriesWrongFalsely : Prop := slzTriesRow.holds Tryz.pinned (OpenSpec.ofChange slzTriesWrong)

/-- 'hairlinelaw17.SlzSolves': WHATEVER THE INPUT: true; the input reads as it did. -/
def slzSolvesSpec : ChangeSpec := { name := "slzSolves", fn := fun _ => fun
  | [d] => { results := [.lit (.bool true)], args := [d] }
  | _ => none }
def slzSolvesRow : OpenClaim := { program := "ytjebljkoiaojaaagreat", sum := "167b2b9885fcbafb0329790209c66863cb1e006f27045e7f505f737eae44f501", func := "hairline/hairlinelaw17.SlzSolves", spec := "slzSolves", inPlace := ["math/bits.Add64", "math/bits.Sub64"], unfollowed := true, recurses := true, named := ["math/bits.divideError", "math/bits.overflowError"], plainKeys := false, apart := false }
def SlzSolvesSaid : Prop := slzSolvesRow.holds Tryz.pinned (OpenSpec.ofChange slzSolvesSpec)

/-- ITS FALSE NEIGHBOUR: 'it returns false'. Refute it at one input. -/
def slzSolvesWrong : ChangeSpec := { name := "slzSolves", fn := fun _ => fun
  | [d] => { results := [.lit (.bool false)], args := [d] }
  | _ => none }
def SlzSolvesWrongFalsely : Prop := slzSolvesRow.holds Tryz.pinned (OpenSpec.ofChange slzSolvesWrong)

/-- 'hairlinelaw17.SlzRight': WHATEVER THE INPUT: true; the input reads as it did. -/
def slzRightSpec : ChangeSpec := { name := "slzRight", fn := fun _ => fun
  | [d] => { results := [.lit (.bool true)], args := [d] }
  | _ => none }
def slzRightRow : OpenClaim := { program := "ytjebljkoiaojaaagreat", sum := "167b2b9885fcbafb0329790209c66863cb1e006f27045e7f505f737eae44f501", func := "hairline/hairlinelaw17.SlzRight", spec := "slzRight", inPlace := ["math/bits.Add64", "math/bits.Sub64"], unfollowed := true, recurses := true, named := ["math/bits.divideError", "math/bits.overflowError"], plainKeys := false, apart := false }
def SlzRightSaid : Prop := slzRightRow.holds Tryz.pinned (OpenSpec.ofChange slzRightSpec)

/-- ITS FALSE NEIGHBOUR: 'it returns false'. Refute it at one input. -/
def slzRightWrong : ChangeSpec := { name := "slzRight", fn := fun _ => fun
  | [d] => { results := [.lit (.bool false)], args := [d] }
  | _ => none }
def SlzRightWrongFalsely : Prop := slzRightRow.holds Tryz.pinned (OpenSpec.ofChange slzRightWrong)

/-- 'hairlinelaw17.SlzInside': WHATEVER THE INPUT: true; the input reads as it did. -/
def slzInsideSpec : ChangeSpec := { name := "slzInside", fn := fun _ => fun
  | [d] => { results := [.lit (.bool true)], args := [d] }
  | _ => none }
def slzInsideRow : OpenClaim := { program := "ytjebljkoiaojaaagreat", sum := "167b2b9885fcbafb0329790209c66863cb1e006f27045e7f505f737eae44f501", func := "hairline/hairlinelaw17.SlzInside", spec := "slzInside", inPlace := ["math/bits.Add64", "math/bits.Sub64"], unfollowed := true, recurses := true, named := ["math/bits.divideError", "math/bits.overflowError"], plainKeys := false, apart := false }
def SlzInsideSaid : Prop := slzInsideRow.holds Tryz.pinned (OpenSpec.ofChange slzInsideSpec)

/-- ITS FALSE NEIGHBOUR: 'it returns false'. Refute it at one input. -/
def slzInsideWrong : ChangeSpec := { name := "slzInside", fn := fun _ => fun
  | [d] => { results := [.lit (.bool false)], args := [d] }
  | _ => none }
def SlzInsideWrongFalsely : Prop := slzInsideRow.holds Tryz.pinned (OpenSpec.ofChange slzInsideWrong)

/-- 'hairlinelaw17.SlzVanishes': WHATEVER THE INPUT: true; the input reads as it did. -/
def slzVanishesSpec : ChangeSpec := { name := "slzVanishes", fn := fun _ => fun
  | [d1, d2, d3] => { results := [.lit (.bool true)], args := [d1, d2, d3] }
  | _ => none }
def slzVanishesRow : OpenClaim := { program := "ytjebljkoiaojaaagreat", sum := "167b2b9885fcbafb0329790209c66863cb1e006f27045e7f505f737eae44f501", func := "hairline/hairlinelaw17.SlzVanishes", spec := "slzVanishes", inPlace := ["math/bits.Add64", "math/bits.Sub64"], unfollowed := true, recurses := true, named := ["math/bits.divideError", "math/bits.overflowError"], plainKeys := false, apart := false }
def SlzVanishesSaid : Prop := slzVanishesRow.holds Tryz.pinned (OpenSpec.ofChange slzVanishesSpec)

/-- ITS FALSE NEIGHBOUR: 'it returns false'. Refute it at one input. -/
def slzVanishesWrong : ChangeSpec := { name := "slzVanishes", fn := fun _ => fun
  | [d1, d2, d3] => { results := [.lit (.bool false)], args := [d1, d2, d3] }
  | _ => none }
def SlzVanishesWrongFalsely : Prop := slzVanishesRow.holds Tryz.pinned (OpenSpec.ofChange slzVanishesWrong)

/-- 'hairlinelaw17.SlzVolumes': WHATEVER THE INPUT: true; the input reads as it did. -/
def slzVolumesSpec : ChangeSpec := { name := "slzVolumes", fn := fun _ => fun
  | [d] => { results := [.lit (.bool true)], args := [d] }
  | _ => none }
def slzVolumesRow : OpenClaim := { program := "ytjebljkoiaojaaagreat", sum := "167b2b9885fcbafb0329790209c66863cb1e006f27045e7f505f737eae44f501", func := "hairline/hairlinelaw17.SlzVolumes", spec := "slzVolumes", inPlace := ["math/bits.Add64", "math/bits.Sub64"], unfollowed := true, recurses := true, named := ["math/bits.divideError", "math/bits.overflowError"], plainKeys := false, apart := false }
def SlzVolumesSaid : Prop := slzVolumesRow.holds Tryz.pinned (OpenSpec.ofChange slzVolumesSpec)

/-- ITS FALSE NEIGHBOUR: 'it returns false'. Refute it at one input. -/
def slzVolumesWrong : ChangeSpec := { name := "slzVolumes", fn := fun _ => fun
  | [d] => { results := [.lit (.bool false)], args := [d] }
  | _ => none }
def SlzVolumesWrongFalsely : Prop := slzVolumesRow.holds Tryz.pinned (OpenSpec.ofChange slzVolumesWrong)

/- THE SECOND FORM. 'bulk': how many values and letters a reading holds, each counted each time it is reached (what is shared counts as often as it is met; a slice's spare places count too). A statement '..UptoSaid' is the law's where the arguments, and the package variables that the reading takes, are together of bulk at most 1048576: NARROWER than '..Said'. Prove '..Said' where nothing that the law and all that it calls make is longer than what came in: it says more and counts as full. Else prove '..UptoSaid'. A law counts once. -/
mutual
def uptoBulk {H : Type} : DataW H → Nat
  | .lit (.string bytes) => bytes.length + 1
  | .lit _ => 1
  | .nil => 1
  | .ptr d => uptoBulk d + 1
  | .slice elems spare => uptoBulkAll elems + uptoBulkAll spare + 1
  | .agg parts => uptoBulkAll parts + 1
  | .iface _ d => uptoBulk d + 1
  | .map entries => uptoBulkEntries entries + 1
  | .held _ => 1
def uptoBulkAll {H : Type} : List (DataW H) → Nat
  | [] => 0
  | d :: r => uptoBulk d + uptoBulkAll r
def uptoBulkEntries {H : Type} : List (Lit × DataW H) → Nat
  | [] => 0
  | x :: r => uptoBulkEntry x + uptoBulkEntries r
def uptoBulkEntry {H : Type} : Lit × DataW H → Nat
  | (.string bytes, d) => bytes.length + uptoBulk d + 1
  | (_, d) => uptoBulk d + 1
 end
def uptoSmall : (H : Type) → List (DataW H) → Bool := fun _ ds => decide (uptoBulkAll ds ≤ 1048576)
def OpenSpec.upto (s : _root_.Go.ChangeSpec) : _root_.Go.OpenSpec := { _root_.Go.OpenSpec.ofChange s with cond := some uptoSmall }

/-- 'hairlinelaw17.SlzTells', WHERE WHAT IT READS IS OF BULK AT MOST 1048576: true; the input reads as it did. -/
def slzTellsUptoRow : OpenClaim := { program := "ytjebljkoiaojaaagreat", sum := "167b2b9885fcbafb0329790209c66863cb1e006f27045e7f505f737eae44f501", func := "hairline/hairlinelaw17.SlzTells", spec := "slzTells", inPlace := ["math/bits.Add64", "math/bits.Sub64"], unfollowed := true, recurses := true, named := ["math/bits.divideError", "math/bits.overflowError"], plainKeys := false, apart := false, narrowed := true }
def SlzTellsUptoSaid : Prop := slzTellsUptoRow.holds Tryz.pinned (OpenSpec.upto slzTellsSpec)

/-- 'hairlinelaw17.SlzTries', WHERE WHAT IT READS IS OF BULK AT MOST 1048576: true; the input reads as it did. -/
def slzTriesUptoRow : OpenClaim := { program := "ytjebljkoiaojaaagreat", sum := "167b2b9885fcbafb0329790209c66863cb1e006f27045e7f505f737eae44f501", func := "hairline/hairlinelaw17.SlzTries", spec := "slzTries", inPlace := ["math/bits.Add64", "math/bits.Sub64"], unfollowed := true, recurses := true, named := ["math/bits.divideError", "math/bits.overflowError"], plainKeys := false, apart := false, narrowed := true }
def SlzTriesUptoSaid : Prop := slzTriesUptoRow.holds Tryz.pinned (OpenSpec.upto slzTriesSpec)

/-- 'hairlinelaw17.SlzSolves', WHERE WHAT IT READS IS OF BULK AT MOST 1048576: true; the input reads as it did. -/
def slzSolvesUptoRow : OpenClaim := { program := "ytjebljkoiaojaaagreat", sum := "167b2b9885fcbafb0329790209c66863cb1e006f27045e7f505f737eae44f501", func := "hairline/hairlinelaw17.SlzSolves", spec := "slzSolves", inPlace := ["math/bits.Add64", "math/bits.Sub64"], unfollowed := true, recurses := true, named := ["math/bits.divideError", "math/bits.overflowError"], plainKeys := false, apart := false, narrowed := true }
def SlzSolvesUptoSaid : Prop := slzSolvesUptoRow.holds Tryz.pinned (OpenSpec.upto slzSolvesSpec)

/-- 'hairlinelaw17.SlzRight', WHERE WHAT IT READS IS OF BULK AT MOST 1048576: true; the input reads as it did. -/
def slzRightUptoRow : OpenClaim := { program := "ytjebljkoiaojaaagreat", sum := "167b2b9885fcbafb0329790209c66863cb1e006f27045e7f505f737eae44f501", func := "hairline/hairlinelaw17.SlzRight", spec := "slzRight", inPlace := ["math/bits.Add64", "math/bits.Sub64"], unfollowed := true, recurses := true, named := ["math/bits.divideError", "math/bits.overflowError"], plainKeys := false, apart := false, narrowed := true }
def SlzRightUptoSaid : Prop := slzRightUptoRow.holds Tryz.pinned (OpenSpec.upto slzRightSpec)

/-- 'hairlinelaw17.SlzInside', WHERE WHAT IT READS IS OF BULK AT MOST 1048576: true; the input reads as it did. -/
def slzInsideUptoRow : OpenClaim := { program := "ytjebljkoiaojaaagreat", sum := "167b2b9885fcbafb0329790209c66863cb1e006f27045e7f505f737eae44f501", func := "hairline/hairlinelaw17.SlzInside", spec := "slzInside", inPlace := ["math/bits.Add64", "math/bits.Sub64"], unfollowed := true, recurses := true, named := ["math/bits.divideError", "math/bits.overflowError"], plainKeys := false, apart := false, narrowed := true }
def SlzInsideUptoSaid : Prop := slzInsideUptoRow.holds Tryz.pinned (OpenSpec.upto slzInsideSpec)

/-- 'hairlinelaw17.SlzVanishes', WHERE WHAT IT READS IS OF BULK AT MOST 1048576: true; the input reads as it did. -/
def slzVanishesUptoRow : OpenClaim := { program := "ytjebljkoiaojaaagreat", sum := "167b2b9885fcbafb0329790209c66863cb1e006f27045e7f505f737eae44f501", func := "hairline/hairlinelaw17.SlzVanishes", spec := "slzVanishes", inPlace := ["math/bits.Add64", "math/bits.Sub64"], unfollowed := true, recurses := true, named := ["math/bits.divideError", "math/bits.overflowError"], plainKeys := false, apart := false, narrowed := true }
def SlzVanishesUptoSaid : Prop := slzVanishesUptoRow.holds Tryz.pinned (OpenSpec.upto slzVanishesSpec)

/-- 'hairlinelaw17.SlzVolumes', WHERE WHAT IT READS IS OF BULK AT MOST 1048576: true; the input reads as it did. -/
def slzVolumesUptoRow : OpenClaim := { program := "ytjebljkoiaojaaagreat", sum := "167b2b9885fcbafb0329790209c66863cb1e006f27045e7f505f737eae44f501", func := "hairline/hairlinelaw17.SlzVolumes", spec := "slzVolumes", inPlace := ["math/bits.Add64", "math/bits.Sub64"], unfollowed := true, recurses := true, named := ["math/bits.divideError", "math/bits.overflowError"], plainKeys := false, apart := false, narrowed := true }
def SlzVolumesUptoSaid : Prop := slzVolumesUptoRow.holds Tryz.pinned (OpenSpec.upto slzVolumesSpec)

end Rows
end Go.Proofs.YtjebljkoiaojaaaGreat
