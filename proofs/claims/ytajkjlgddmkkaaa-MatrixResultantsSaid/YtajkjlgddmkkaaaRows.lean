/-
  No cell of these rows narrows 'for every input' (looked for: loops, veiled, ifaces, maps, wideKeys, modest, calm, conditions, laid).
  DERIVED. THE GIVEN ROWS OF THIS SEAT. 10 by the template 'for every input the law returns true; each argument reads behind the call as it read before'; 0 by the template 'total and deterministic' (their statements: YtajkjlgddmkkaaaTotals.lean).
  GIVEN WITH THE SEED: the statements are not yours to turn. If you find one false, say at which input.
  Laid BY PROGRAM, IN A SANDBOX (cutbox-rows.mjs): the forced cells as the released guide's own fill.sh prints them over the translation 57d823630f60bd8d… (all of the seat's roots in one cut). By AI agents, Wed Nov 11 2026. No macro, syntax, notation, axiom, sorry.
-/
import Derived.Test.YtajkjlgddmkkaaaChecked
import GoSem.Claim
import GoSem.ClaimJoined
import GoSem.ClaimMapViews
import Derived.JoinedTies
import Derived.KernelRfl
namespace Go.Proofs.Ytajkjlgddmkkaaa
/- THE CELL 'sum', in the pinned program and in every row, IS THE sha256 OF THE DUMP (.gsa) THAT YtajkjlgddmkkaaaProg.lean LOADS. Nothing in Lean hashes anything: it is a label: what it is worth is what the hold of that sum in a sandbox is worth. -/
noncomputable def Try.pinned : Pinned := { name := "ytajkjlgddmkkaaa", sum := "57d823630f60bd8d754a3d9e837f7a81d32fd3e75dc5525f365f6016f7d9fe09", checked := Try.checked }
namespace Rows
def none {H : Type} : Left H := { results := [], args := [] }

/-- 'hairlinelaw11.MatrixDets': WHATEVER THE INPUT: true; the input reads as it did. -/
def matrixDetsSpec : ChangeSpec := { name := "matrixDets", fn := fun _ => fun
  | [d] => { results := [.lit (.bool true)], args := [d] }
  | _ => none }
def matrixDetsRow : OpenClaim := { program := "ytajkjlgddmkkaaa", sum := "57d823630f60bd8d754a3d9e837f7a81d32fd3e75dc5525f365f6016f7d9fe09", func := "hairline/hairlinelaw11.MatrixDets", spec := "matrixDets", inPlace := ["math/bits.Add64", "math/bits.Sub64"], unfollowed := true, recurses := true, named := ["math/bits.divideError", "math/bits.overflowError"], apart := false }
def MatrixDetsSaid : Prop := matrixDetsRow.holds Try.pinned (OpenSpec.ofChange matrixDetsSpec)

/-- ITS FALSE NEIGHBOUR: 'it returns false'. Refute it at one input. -/
def matrixDetsWrong : ChangeSpec := { name := "matrixDets", fn := fun _ => fun
  | [d] => { results := [.lit (.bool false)], args := [d] }
  | _ => none }
def MatrixDetsWrongFalsely : Prop := matrixDetsRow.holds Try.pinned (OpenSpec.ofChange matrixDetsWrong)

/-- 'hairlinelaw11.MatrixCofactors': WHATEVER THE INPUT: true; the input reads as it did. -/
def matrixCofactorsSpec : ChangeSpec := { name := "matrixCofactors", fn := fun _ => fun
  | [d1, d2] => { results := [.lit (.bool true)], args := [d1, d2] }
  | _ => none }
def matrixCofactorsRow : OpenClaim := { program := "ytajkjlgddmkkaaa", sum := "57d823630f60bd8d754a3d9e837f7a81d32fd3e75dc5525f365f6016f7d9fe09", func := "hairline/hairlinelaw11.MatrixCofactors", spec := "matrixCofactors", inPlace := ["math/bits.Add64", "math/bits.Sub64"], unfollowed := true, recurses := true, named := ["math/bits.divideError", "math/bits.overflowError"], apart := false }
def MatrixCofactorsSaid : Prop := matrixCofactorsRow.holds Try.pinned (OpenSpec.ofChange matrixCofactorsSpec)

/-- ITS FALSE NEIGHBOUR: 'it returns false'. Refute it at one input. -/
def matrixCofactorsWrong : ChangeSpec := { name := "matrixCofactors", fn := fun _ => fun
  | [d1, d2] => { results := [.lit (.bool false)], args := [d1, d2] }
  | _ => none }
def MatrixCofactorsWrongFalsely : Prop := matrixCofactorsRow.holds Try.pinned (OpenSpec.ofChange matrixCofactorsWrong)

/-- 'hairlinelaw11.MatrixSylvesters': WHATEVER THE INPUT: true; the input reads as it did. -/
def matrixSylvestersSpec : ChangeSpec := { name := "matrixSylvesters", fn := fun _ => fun
  | [d1, d2] => { results := [.lit (.bool true)], args := [d1, d2] }
  | _ => none }
def matrixSylvestersRow : OpenClaim := { program := "ytajkjlgddmkkaaa", sum := "57d823630f60bd8d754a3d9e837f7a81d32fd3e75dc5525f365f6016f7d9fe09", func := "hairline/hairlinelaw11.MatrixSylvesters", spec := "matrixSylvesters", inPlace := ["math/bits.Add64", "math/bits.Sub64"], unfollowed := true, recurses := true, named := ["math/bits.divideError", "math/bits.overflowError"], apart := false }
def MatrixSylvestersSaid : Prop := matrixSylvestersRow.holds Try.pinned (OpenSpec.ofChange matrixSylvestersSpec)

/-- ITS FALSE NEIGHBOUR: 'it returns false'. Refute it at one input. -/
def matrixSylvestersWrong : ChangeSpec := { name := "matrixSylvesters", fn := fun _ => fun
  | [d1, d2] => { results := [.lit (.bool false)], args := [d1, d2] }
  | _ => none }
def MatrixSylvestersWrongFalsely : Prop := matrixSylvestersRow.holds Try.pinned (OpenSpec.ofChange matrixSylvestersWrong)

/-- 'hairlinelaw11.MatrixRows': WHATEVER THE INPUT: true; the input reads as it did. -/
def matrixRowsSpec : ChangeSpec := { name := "matrixRows", fn := fun _ => fun
  | [d1, d2, d3, d4] => { results := [.lit (.bool true)], args := [d1, d2, d3, d4] }
  | _ => none }
def matrixRowsRow : OpenClaim := { program := "ytajkjlgddmkkaaa", sum := "57d823630f60bd8d754a3d9e837f7a81d32fd3e75dc5525f365f6016f7d9fe09", func := "hairline/hairlinelaw11.MatrixRows", spec := "matrixRows", inPlace := ["math/bits.Add64", "math/bits.Sub64"], unfollowed := true, recurses := true, named := ["math/bits.divideError", "math/bits.overflowError"], apart := false }
def MatrixRowsSaid : Prop := matrixRowsRow.holds Try.pinned (OpenSpec.ofChange matrixRowsSpec)

/-- ITS FALSE NEIGHBOUR: 'it returns false'. Refute it at one input. -/
def matrixRowsWrong : ChangeSpec := { name := "matrixRows", fn := fun _ => fun
  | [d1, d2, d3, d4] => { results := [.lit (.bool false)], args := [d1, d2, d3, d4] }
  | _ => none }
def MatrixRowsWrongFalsely : Prop := matrixRowsRow.holds Try.pinned (OpenSpec.ofChange matrixRowsWrong)

/-- 'hairlinelaw11.MatrixCramers': WHATEVER THE INPUT: true; the input reads as it did. -/
def matrixCramersSpec : ChangeSpec := { name := "matrixCramers", fn := fun _ => fun
  | [d1, d2] => { results := [.lit (.bool true)], args := [d1, d2] }
  | _ => none }
def matrixCramersRow : OpenClaim := { program := "ytajkjlgddmkkaaa", sum := "57d823630f60bd8d754a3d9e837f7a81d32fd3e75dc5525f365f6016f7d9fe09", func := "hairline/hairlinelaw11.MatrixCramers", spec := "matrixCramers", inPlace := ["math/bits.Add64", "math/bits.Sub64"], unfollowed := true, recurses := true, named := ["math/bits.divideError", "math/bits.overflowError"], apart := false }
def MatrixCramersSaid : Prop := matrixCramersRow.holds Try.pinned (OpenSpec.ofChange matrixCramersSpec)

/-- ITS FALSE NEIGHBOUR: 'it returns false'. Refute it at one input. -/
def matrixCramersWrong : ChangeSpec := { name := "matrixCramers", fn := fun _ => fun
  | [d1, d2] => { results := [.lit (.bool false)], args := [d1, d2] }
  | _ => none }
def MatrixCramersWrongFalsely : Prop := matrixCramersRow.holds Try.pinned (OpenSpec.ofChange matrixCramersWrong)

/-- 'hairlinelaw11.MatrixAdjugates': WHATEVER THE INPUT: true; the input reads as it did. -/
def matrixAdjugatesSpec : ChangeSpec := { name := "matrixAdjugates", fn := fun _ => fun
  | [d] => { results := [.lit (.bool true)], args := [d] }
  | _ => none }
def matrixAdjugatesRow : OpenClaim := { program := "ytajkjlgddmkkaaa", sum := "57d823630f60bd8d754a3d9e837f7a81d32fd3e75dc5525f365f6016f7d9fe09", func := "hairline/hairlinelaw11.MatrixAdjugates", spec := "matrixAdjugates", inPlace := ["math/bits.Add64", "math/bits.Sub64"], unfollowed := true, recurses := true, named := ["math/bits.divideError", "math/bits.overflowError"], apart := false }
def MatrixAdjugatesSaid : Prop := matrixAdjugatesRow.holds Try.pinned (OpenSpec.ofChange matrixAdjugatesSpec)

/-- ITS FALSE NEIGHBOUR: 'it returns false'. Refute it at one input. -/
def matrixAdjugatesWrong : ChangeSpec := { name := "matrixAdjugates", fn := fun _ => fun
  | [d] => { results := [.lit (.bool false)], args := [d] }
  | _ => none }
def MatrixAdjugatesWrongFalsely : Prop := matrixAdjugatesRow.holds Try.pinned (OpenSpec.ofChange matrixAdjugatesWrong)

/-- 'hairlinelaw11.MatrixTells': WHATEVER THE INPUT: true; the input reads as it did. -/
def matrixTellsSpec : ChangeSpec := { name := "matrixTells", fn := fun _ => fun
  | [d1, d2] => { results := [.lit (.bool true)], args := [d1, d2] }
  | _ => none }
def matrixTellsRow : OpenClaim := { program := "ytajkjlgddmkkaaa", sum := "57d823630f60bd8d754a3d9e837f7a81d32fd3e75dc5525f365f6016f7d9fe09", func := "hairline/hairlinelaw11.MatrixTells", spec := "matrixTells", inPlace := ["math/bits.Add64", "math/bits.Sub64"], unfollowed := true, recurses := true, named := ["math/bits.divideError", "math/bits.overflowError"], apart := false }
def MatrixTellsSaid : Prop := matrixTellsRow.holds Try.pinned (OpenSpec.ofChange matrixTellsSpec)

/-- ITS FALSE NEIGHBOUR: 'it returns false'. Refute it at one input. -/
def matrixTellsWrong : ChangeSpec := { name := "matrixTells", fn := fun _ => fun
  | [d1, d2] => { results := [.lit (.bool false)], args := [d1, d2] }
  | _ => none }
def MatrixTellsWrongFalsely : Prop := matrixTellsRow.holds Try.pinned (OpenSpec.ofChange matrixTellsWrong)

/-- 'hairlinelaw11.MatrixProducts': WHATEVER THE INPUT: true; the input reads as it did. -/
def matrixProductsSpec : ChangeSpec := { name := "matrixProducts", fn := fun _ => fun
  | [d1, d2, d3] => { results := [.lit (.bool true)], args := [d1, d2, d3] }
  | _ => none }
def matrixProductsRow : OpenClaim := { program := "ytajkjlgddmkkaaa", sum := "57d823630f60bd8d754a3d9e837f7a81d32fd3e75dc5525f365f6016f7d9fe09", func := "hairline/hairlinelaw11.MatrixProducts", spec := "matrixProducts", inPlace := ["math/bits.Add64", "math/bits.Sub64"], unfollowed := true, recurses := true, named := ["math/bits.divideError", "math/bits.overflowError"], apart := false }
def MatrixProductsSaid : Prop := matrixProductsRow.holds Try.pinned (OpenSpec.ofChange matrixProductsSpec)

/-- ITS FALSE NEIGHBOUR: 'it returns false'. Refute it at one input. -/
def matrixProductsWrong : ChangeSpec := { name := "matrixProducts", fn := fun _ => fun
  | [d1, d2, d3] => { results := [.lit (.bool false)], args := [d1, d2, d3] }
  | _ => none }
def MatrixProductsWrongFalsely : Prop := matrixProductsRow.holds Try.pinned (OpenSpec.ofChange matrixProductsWrong)

/-- 'hairlinelaw11.MatrixRanks': WHATEVER THE INPUT: true; the input reads as it did. -/
def matrixRanksSpec : ChangeSpec := { name := "matrixRanks", fn := fun _ => fun
  | [d1, d2] => { results := [.lit (.bool true)], args := [d1, d2] }
  | _ => none }
def matrixRanksRow : OpenClaim := { program := "ytajkjlgddmkkaaa", sum := "57d823630f60bd8d754a3d9e837f7a81d32fd3e75dc5525f365f6016f7d9fe09", func := "hairline/hairlinelaw11.MatrixRanks", spec := "matrixRanks", inPlace := ["math/bits.Add64", "math/bits.Sub64"], unfollowed := true, recurses := true, named := ["math/bits.divideError", "math/bits.overflowError"], apart := false }
def MatrixRanksSaid : Prop := matrixRanksRow.holds Try.pinned (OpenSpec.ofChange matrixRanksSpec)

/-- ITS FALSE NEIGHBOUR: 'it returns false'. Refute it at one input. -/
def matrixRanksWrong : ChangeSpec := { name := "matrixRanks", fn := fun _ => fun
  | [d1, d2] => { results := [.lit (.bool false)], args := [d1, d2] }
  | _ => none }
def MatrixRanksWrongFalsely : Prop := matrixRanksRow.holds Try.pinned (OpenSpec.ofChange matrixRanksWrong)

/-- 'hairlinelaw11.MatrixResultants': WHATEVER THE INPUT: true; the input reads as it did. -/
def matrixResultantsSpec : ChangeSpec := { name := "matrixResultants", fn := fun _ => fun
  | [d1, d2, d3, d4] => { results := [.lit (.bool true)], args := [d1, d2, d3, d4] }
  | _ => none }
def matrixResultantsRow : OpenClaim := { program := "ytajkjlgddmkkaaa", sum := "57d823630f60bd8d754a3d9e837f7a81d32fd3e75dc5525f365f6016f7d9fe09", func := "hairline/hairlinelaw11.MatrixResultants", spec := "matrixResultants", inPlace := ["math/bits.Add64", "math/bits.Sub64"], unfollowed := true, recurses := true, named := ["math/bits.divideError", "math/bits.overflowError"], apart := false }
def MatrixResultantsSaid : Prop := matrixResultantsRow.holds Try.pinned (OpenSpec.ofChange matrixResultantsSpec)

/-- ITS FALSE NEIGHBOUR: 'it returns false'. Refute it at one input. -/
def matrixResultantsWrong : ChangeSpec := { name := "matrixResultants", fn := fun _ => fun
  | [d1, d2, d3, d4] => { results := [.lit (.bool false)], args := [d1, d2, d3, d4] }
  | _ => none }
def MatrixResultantsWrongFalsely : Prop := matrixResultantsRow.holds Try.pinned (OpenSpec.ofChange matrixResultantsWrong)

/- THE SECOND FORM. 'bulk': how many values and letters a reading holds, each counted each time it is reached (what is shared counts as often as it is met; a slice's spare places count too). A statement '..UptoSaid' is the law's where the arguments, and the package variables that the reading takes, are together of bulk at most 1048576: NARROWER than '..Said'. Prove '..Said' where nothing that the law and all that it calls make is longer than what came in: it says more and counts as full. Else prove '..UptoSaid'. A law counts once. -/
mutual
def uptoBulk {H : Type} : DataW H → Nat
  | .lit (.string bytes) => bytes.length + 1
  | .lit _ => 1
  | .nil => 1
  | .ptr d => uptoBulk d + 1
  | .slice elems spare => uptoBulkAll elems + uptoBulkAll spare + 1
  | .agg parts => uptoBulkAll parts + 1
  | .iface _ d => uptoBulk d + 1
  | .map entries => uptoBulkEntries entries + 1
  | .held _ => 1
def uptoBulkAll {H : Type} : List (DataW H) → Nat
  | [] => 0
  | d :: r => uptoBulk d + uptoBulkAll r
def uptoBulkEntries {H : Type} : List (Lit × DataW H) → Nat
  | [] => 0
  | x :: r => uptoBulkEntry x + uptoBulkEntries r
def uptoBulkEntry {H : Type} : Lit × DataW H → Nat
  | (.string bytes, d) => bytes.length + uptoBulk d + 1
  | (_, d) => uptoBulk d + 1
 end
def uptoSmall : (H : Type) → List (DataW H) → Bool := fun _ ds => decide (uptoBulkAll ds ≤ 1048576)
def OpenSpec.upto (s : _root_.Go.ChangeSpec) : _root_.Go.OpenSpec := { _root_.Go.OpenSpec.ofChange s with cond := some uptoSmall }

/-- 'hairlinelaw11.MatrixDets', WHERE WHAT IT READS IS OF BULK AT MOST 1048576: true; the input reads as it did. -/
def matrixDetsUptoRow : OpenClaim := { program := "ytajkjlgddmkkaaa", sum := "57d823630f60bd8d754a3d9e837f7a81d32fd3e75dc5525f365f6016f7d9fe09", func := "hairline/hairlinelaw11.MatrixDets", spec := "matrixDets", inPlace := ["math/bits.Add64", "math/bits.Sub64"], unfollowed := true, recurses := true, named := ["math/bits.divideError", "math/bits.overflowError"], apart := false, narrowed := true }
def MatrixDetsUptoSaid : Prop := matrixDetsUptoRow.holds Try.pinned (OpenSpec.upto matrixDetsSpec)

/-- 'hairlinelaw11.MatrixCofactors', WHERE WHAT IT READS IS OF BULK AT MOST 1048576: true; the input reads as it did. -/
def matrixCofactorsUptoRow : OpenClaim := { program := "ytajkjlgddmkkaaa", sum := "57d823630f60bd8d754a3d9e837f7a81d32fd3e75dc5525f365f6016f7d9fe09", func := "hairline/hairlinelaw11.MatrixCofactors", spec := "matrixCofactors", inPlace := ["math/bits.Add64", "math/bits.Sub64"], unfollowed := true, recurses := true, named := ["math/bits.divideError", "math/bits.overflowError"], apart := false, narrowed := true }
def MatrixCofactorsUptoSaid : Prop := matrixCofactorsUptoRow.holds Try.pinned (OpenSpec.upto matrixCofactorsSpec)

/-- 'hairlinelaw11.MatrixSylvesters', WHERE WHAT IT READS IS OF BULK AT MOST 1048576: true; the input reads as it did. -/
def matrixSylvestersUptoRow : OpenClaim := { program := "ytajkjlgddmkkaaa", sum := "57d823630f60bd8d754a3d9e837f7a81d32fd3e75dc5525f365f6016f7d9fe09", func := "hairline/hairlinelaw11.MatrixSylvesters", spec := "matrixSylvesters", inPlace := ["math/bits.Add64", "math/bits.Sub64"], unfollowed := true, recurses := true, named := ["math/bits.divideError", "math/bits.overflowError"], apart := false, narrowed := true }
def MatrixSylvestersUptoSaid : Prop := matrixSylvestersUptoRow.holds Try.pinned (OpenSpec.upto matrixSylvestersSpec)

/-- 'hairlinelaw11.MatrixRows', WHERE WHAT IT READS IS OF BULK AT MOST 1048576: true; the input reads as it did. -/
def matrixRowsUptoRow : OpenClaim := { program := "ytajkjlgddmkkaaa", sum := "57d823630f60bd8d754a3d9e837f7a81d32fd3e75dc5525f365f6016f7d9fe09", func := "hairline/hairlinelaw11.MatrixRows", spec := "matrixRows", inPlace := ["math/bits.Add64", "math/bits.Sub64"], unfollowed := true, recurses := true, named := ["math/bits.divideError", "math/bits.overflowError"], apart := false, narrowed := true }
def MatrixRowsUptoSaid : Prop := matrixRowsUptoRow.holds Try.pinned (OpenSpec.upto matrixRowsSpec)

/-- 'hairlinelaw11.MatrixCramers', WHERE WHAT IT READS IS OF BULK AT MOST 1048576: true; the input reads as it did. -/
def matrixCramersUptoRow : OpenClaim := { program := "ytajkjlgddmkkaaa", sum := "57d823630f60bd8d754a3d9e837f7a81d32fd3e75dc5525f365f6016f7d9fe09", func := "hairline/hairlinelaw11.MatrixCramers", spec := "matrixCramers", inPlace := ["math/bits.Add64", "math/bits.Sub64"], unfollowed := true, recurses := true, named := ["math/bits.divideError", "math/bits.overflowError"], apart := false, narrowed := true }
def MatrixCramersUptoSaid : Prop := matrixCramersUptoRow.holds Try.pinned (OpenSpec.upto matrixCramersSpec)

/-- 'hairlinelaw11.MatrixAdjugates', WHERE WHAT IT READS IS OF BULK AT MOST 1048576: true; the input reads as it did. -/
def matrixAdjugatesUptoRow : OpenClaim := { program := "ytajkjlgddmkkaaa", sum := "57d823630f60bd8d754a3d9e837f7a81d32fd3e75dc5525f365f6016f7d9fe09", func := "hairline/hairlinelaw11.MatrixAdjugates", spec := "matrixAdjugates", inPlace := ["math/bits.Add64", "math/bits.Sub64"], unfollowed := true, recurses := true, named := ["math/bits.divideError", "math/bits.overflowError"], apart := false, narrowed := true }
def MatrixAdjugatesUptoSaid : Prop := matrixAdjugatesUptoRow.holds Try.pinned (OpenSpec.upto matrixAdjugatesSpec)

/-- 'hairlinelaw11.MatrixTells', WHERE WHAT IT READS IS OF BULK AT MOST 1048576: true; the input reads as it did. -/
def matrixTellsUptoRow : OpenClaim := { program := "ytajkjlgddmkkaaa", sum := "57d823630f60bd8d754a3d9e837f7a81d32fd3e75dc5525f365f6016f7d9fe09", func := "hairline/hairlinelaw11.MatrixTells", spec := "matrixTells", inPlace := ["math/bits.Add64", "math/bits.Sub64"], unfollowed := true, recurses := true, named := ["math/bits.divideError", "math/bits.overflowError"], apart := false, narrowed := true }
def MatrixTellsUptoSaid : Prop := matrixTellsUptoRow.holds Try.pinned (OpenSpec.upto matrixTellsSpec)

/-- 'hairlinelaw11.MatrixProducts', WHERE WHAT IT READS IS OF BULK AT MOST 1048576: true; the input reads as it did. -/
def matrixProductsUptoRow : OpenClaim := { program := "ytajkjlgddmkkaaa", sum := "57d823630f60bd8d754a3d9e837f7a81d32fd3e75dc5525f365f6016f7d9fe09", func := "hairline/hairlinelaw11.MatrixProducts", spec := "matrixProducts", inPlace := ["math/bits.Add64", "math/bits.Sub64"], unfollowed := true, recurses := true, named := ["math/bits.divideError", "math/bits.overflowError"], apart := false, narrowed := true }
def MatrixProductsUptoSaid : Prop := matrixProductsUptoRow.holds Try.pinned (OpenSpec.upto matrixProductsSpec)

/-- 'hairlinelaw11.MatrixRanks', WHERE WHAT IT READS IS OF BULK AT MOST 1048576: true; the input reads as it did. -/
def matrixRanksUptoRow : OpenClaim := { program := "ytajkjlgddmkkaaa", sum := "57d823630f60bd8d754a3d9e837f7a81d32fd3e75dc5525f365f6016f7d9fe09", func := "hairline/hairlinelaw11.MatrixRanks", spec := "matrixRanks", inPlace := ["math/bits.Add64", "math/bits.Sub64"], unfollowed := true, recurses := true, named := ["math/bits.divideError", "math/bits.overflowError"], apart := false, narrowed := true }
def MatrixRanksUptoSaid : Prop := matrixRanksUptoRow.holds Try.pinned (OpenSpec.upto matrixRanksSpec)

/-- 'hairlinelaw11.MatrixResultants', WHERE WHAT IT READS IS OF BULK AT MOST 1048576: true; the input reads as it did. -/
def matrixResultantsUptoRow : OpenClaim := { program := "ytajkjlgddmkkaaa", sum := "57d823630f60bd8d754a3d9e837f7a81d32fd3e75dc5525f365f6016f7d9fe09", func := "hairline/hairlinelaw11.MatrixResultants", spec := "matrixResultants", inPlace := ["math/bits.Add64", "math/bits.Sub64"], unfollowed := true, recurses := true, named := ["math/bits.divideError", "math/bits.overflowError"], apart := false, narrowed := true }
def MatrixResultantsUptoSaid : Prop := matrixResultantsUptoRow.holds Try.pinned (OpenSpec.upto matrixResultantsSpec)

end Rows
end Go.Proofs.Ytajkjlgddmkkaaa
