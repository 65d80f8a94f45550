/-
  No cell of these rows narrows 'for every input' (looked for: loops, veiled, ifaces, maps, wideKeys, modest, calm, conditions, laid).
  DERIVED. THE GIVEN ROWS OF THIS SEAT. 2 by the template 'for every input the law returns true; each argument reads behind the call as it read before'; 0 by the template 'total and deterministic' (their statements: YtgpcepcbdpigfaaGreatTotals.lean).
  GIVEN WITH THE SEED: the statements are not yours to turn. If you find one false, say at which input.
  Laid BY PROGRAM, IN A SANDBOX (cutbox-rows.mjs): the forced cells as the released guide's own fill.sh prints them over the translation 57b6ef1fb93e06ef… (all of the seat's roots in one cut). By AI agents, Wed Nov 11 2026. No macro, syntax, notation, axiom, sorry.
-/
import Derived.Test.YtgpcepcbdpigfaaGreatChecked
import GoSem.Claim
import GoSem.ClaimJoined
import GoSem.ClaimMapViews
import Derived.JoinedTies
import Derived.KernelRfl
namespace Go.Proofs.YtgpcepcbdpigfaaGreat
/- THE CELL 'sum', in the pinned program and in every row, IS THE sha256 OF THE DUMP (.gsa) THAT YtgpcepcbdpigfaaGreatProg.lean LOADS. Nothing in Lean hashes anything: it is a label: what it is worth is what the hold of that sum in a sandbox is worth. -/
noncomputable def Tryz.pinned : Pinned := { name := "ytgpcepcbdpigfaagreat", sum := "57b6ef1fb93e06efdd3417a6768dd38d8a37c3f831e14cd732dc95e7dee032e5", checked := Tryz.checked }
namespace Rows
def none {H : Type} : Left H := { results := [], args := [] }

/-- 'hairlinelaw13.RootsTells': WHATEVER THE INPUT: true; the input reads as it did. -/
def rootsTellsSpec : ChangeSpec := { name := "rootsTells", fn := fun _ => fun
  | [d1, d2, d3] => { results := [.lit (.bool true)], args := [d1, d2, d3] }
  | _ => none }
def rootsTellsRow : OpenClaim := { program := "ytgpcepcbdpigfaagreat", sum := "57b6ef1fb93e06efdd3417a6768dd38d8a37c3f831e14cd732dc95e7dee032e5", func := "hairline/hairlinelaw13.RootsTells", spec := "rootsTells", inPlace := ["math/bits.Add64", "math/bits.Sub64"], unfollowed := true, recurses := true, named := ["math/bits.divideError", "math/bits.overflowError"], apart := false }
def RootsTellsSaid : Prop := rootsTellsRow.holds Tryz.pinned (OpenSpec.ofChange rootsTellsSpec)

/-- ITS FALSE NEIGHBOUR: 'it returns false'. Refute it at one input. -/
def rootsTellsWrong : ChangeSpec := { name := "rootsTells", fn := fun _ => fun
  | [d1, d2, d3] => { results := [.lit (.bool false)], args := [d1, d2, d3] }
  | _ => none }
def RootsTellsWrongFalsely : Prop := rootsTellsRow.holds Tryz.pinned (OpenSpec.ofChange rootsTellsWrong)

/-- 'hairlinelaw13.RootsFinds': WHATEVER THE INPUT: true; the input reads as it did. -/
def rootsFindsSpec : ChangeSpec := { name := "rootsFinds", fn := fun _ => fun
  | [d1, d2, d3] => { results := [.lit (.bool true)], args := [d1, d2, d3] }
  | _ => none }
def rootsFindsRow : OpenClaim := { program := "ytgpcepcbdpigfaagreat", sum := "57b6ef1fb93e06efdd3417a6768dd38d8a37c3f831e14cd732dc95e7dee032e5", func := "hairline/hairlinelaw13.RootsFinds", spec := "rootsFinds", inPlace := ["math/bits.Add64", "math/bits.Sub64"], unfollowed := true, recurses := true, named := ["math/bits.divideError", "math/bits.overflowError"], apart := false }
def RootsFindsSaid : Prop := rootsFindsRow.holds Tryz.pinned (OpenSpec.ofChange rootsFindsSpec)

/-- ITS FALSE NEIGHBOUR: 'it returns false'. Refute it at one input. -/
def rootsFindsWrong : ChangeSpec := { name := "rootsFinds", fn := fun _ => fun
  | [d1, d2, d3] => { results := [.lit (.bool false)], args := [d1, d2, d3] }
  | _ => none }
def RootsFindsWrongFalsely : Prop := rootsFindsRow.holds Tryz.pinned (OpenSpec.ofChange rootsFindsWrong)

/- THE SECOND FORM. 'bulk': how many values and letters a reading holds, each counted each time it is reached (what is shared counts as often as it is met; a slice's spare places count too). A statement '..UptoSaid' is the law's where the arguments, and the package variables that the reading takes, are together of bulk at most 1048576: NARROWER than '..Said'. Prove '..Said' where nothing that the law and all that it calls make is longer than what came in: it says more and counts as full. Else prove '..UptoSaid'. A law counts once. -/
mutual
def uptoBulk {H : Type} : DataW H → Nat
  | .lit (.string bytes) => bytes.length + 1
  | .lit _ => 1
  | .nil => 1
  | .ptr d => uptoBulk d + 1
  | .slice elems spare => uptoBulkAll elems + uptoBulkAll spare + 1
  | .agg parts => uptoBulkAll parts + 1
  | .iface _ d => uptoBulk d + 1
  | .map entries => uptoBulkEntries entries + 1
  | .held _ => 1
def uptoBulkAll {H : Type} : List (DataW H) → Nat
  | [] => 0
  | d :: r => uptoBulk d + uptoBulkAll r
def uptoBulkEntries {H : Type} : List (Lit × DataW H) → Nat
  | [] => 0
  | x :: r => uptoBulkEntry x + uptoBulkEntries r
def uptoBulkEntry {H : Type} : Lit × DataW H → Nat
  | (.string bytes, d) => bytes.length + uptoBulk d + 1
  | (_, d) => uptoBulk d + 1
 end
def uptoSmall : (H : Type) → List (DataW H) → Bool := fun _ ds => decide (uptoBulkAll ds ≤ 1048576)
def OpenSpec.upto (s : _root_.Go.ChangeSpec) : _root_.Go.OpenSpec := { _root_.Go.OpenSpec.ofChange s with cond := some uptoSmall }

/-- 'hairlinelaw13.RootsTells', WHERE WHAT IT READS IS OF BULK AT MOST 1048576: true; the input reads as it did. -/
def rootsTellsUptoRow : OpenClaim := { program := "ytgpcepcbdpigfaagreat", sum := "57b6ef1fb93e06efdd3417a6768dd38d8a37c3f831e14cd732dc95e7dee032e5", func := "hairline/hairlinelaw13.RootsTells", spec := "rootsTells", inPlace := ["math/bits.Add64", "math/bits.Sub64"], unfollowed := true, recurses := true, named := ["math/bits.divideError", "math/bits.overflowError"], apart := false, narrowed := true }
def RootsTellsUptoSaid : Prop := rootsTellsUptoRow.holds Tryz.pinned (OpenSpec.upto rootsTellsSpec)

/-- 'hairlinelaw13.RootsFinds', WHERE WHAT IT READS IS OF BULK AT MOST 1048576: true; the input reads as it did. -/
def rootsFindsUptoRow : OpenClaim := { program := "ytgpcepcbdpigfaagreat", sum := "57b6ef1fb93e06efdd3417a6768dd38d8a37c3f831e14cd732dc95e7dee032e5", func := "hairline/hairlinelaw13.RootsFinds", spec := "rootsFinds", inPlace := ["math/bits.Add64", "math/bits.Sub64"], unfollowed := true, recurses := true, named := ["math/bits.divideError", "math/bits.overflowError"], apart := false, narrowed := true }
def RootsFindsUptoSaid : Prop := rootsFindsUptoRow.holds Tryz.pinned (OpenSpec.upto rootsFindsSpec)

end Rows
end Go.Proofs.YtgpcepcbdpigfaaGreat
