/-
  No cell of these rows narrows 'for every input' (looked for: loops, veiled, ifaces, maps, wideKeys, modest, calm, conditions, laid).
  DERIVED. THE GIVEN ROWS OF THIS SEAT. 8 by the template 'for every input the law returns true; each argument reads behind the call as it read before'; 0 by the template 'total and deterministic' (their statements: YtenkamppgcgcdaaTotals.lean).
  GIVEN WITH THE SEED: the statements are not yours to turn. If you find one false, say at which input.
  Laid BY PROGRAM, IN A SANDBOX (cutbox-rows.mjs): the forced cells as the released guide's own fill.sh prints them over the translation d6629f9d40a0133d… (all of the seat's roots in one cut). By AI agents, Wed Nov 11 2026. No macro, syntax, notation, axiom, sorry.
-/
import Derived.Test.YtenkamppgcgcdaaChecked
import GoSem.Claim
import GoSem.ClaimJoined
import GoSem.ClaimMapViews
import Derived.JoinedTies
import Derived.KernelRfl
namespace Go.Proofs.Ytenkamppgcgcdaa
/- THE CELL 'sum', in the pinned program and in every row, IS THE sha256 OF THE DUMP (.gsa) THAT YtenkamppgcgcdaaProg.lean LOADS. Nothing in Lean hashes anything: it is a label: what it is worth is what the hold of that sum in a sandbox is worth. -/
noncomputable def Try.pinned : Pinned := { name := "ytenkamppgcgcdaa", sum := "d6629f9d40a0133d7b4c0d1aff637d577902ba7905296616a62bbdeeb34ee4af", checked := Try.checked }
namespace Rows
def none {H : Type} : Left H := { results := [], args := [] }

/-- 'clepsydralaw1.NumRows': WHATEVER THE INPUT: true; the input reads as it did. -/
def numRowsSpec : ChangeSpec := { name := "numRows", fn := fun _ => fun
  | [d] => { results := [.lit (.bool true)], args := [d] }
  | _ => none }
def numRowsRow : OpenClaim := { program := "ytenkamppgcgcdaa", sum := "d6629f9d40a0133d7b4c0d1aff637d577902ba7905296616a62bbdeeb34ee4af", func := "clepsydra/clepsydralaw1.NumRows", spec := "numRows", apart := false }
def NumRowsSaid : Prop := numRowsRow.holds Try.pinned (OpenSpec.ofChange numRowsSpec)

/-- ITS FALSE NEIGHBOUR: 'it returns false'. Refute it at one input. -/
def numRowsWrong : ChangeSpec := { name := "numRows", fn := fun _ => fun
  | [d] => { results := [.lit (.bool false)], args := [d] }
  | _ => none }
def NumRowsWrongFalsely : Prop := numRowsRow.holds Try.pinned (OpenSpec.ofChange numRowsWrong)

/-- 'clepsydralaw1.NumCanon': WHATEVER THE INPUT: true; the input reads as it did. -/
def numCanonSpec : ChangeSpec := { name := "numCanon", fn := fun _ => fun
  | [d1, d2] => { results := [.lit (.bool true)], args := [d1, d2] }
  | _ => none }
def numCanonRow : OpenClaim := { program := "ytenkamppgcgcdaa", sum := "d6629f9d40a0133d7b4c0d1aff637d577902ba7905296616a62bbdeeb34ee4af", func := "clepsydra/clepsydralaw1.NumCanon", spec := "numCanon", apart := false }
def NumCanonSaid : Prop := numCanonRow.holds Try.pinned (OpenSpec.ofChange numCanonSpec)

/-- ITS FALSE NEIGHBOUR: 'it returns false'. Refute it at one input. -/
def numCanonWrong : ChangeSpec := { name := "numCanon", fn := fun _ => fun
  | [d1, d2] => { results := [.lit (.bool false)], args := [d1, d2] }
  | _ => none }
def NumCanonWrongFalsely : Prop := numCanonRow.holds Try.pinned (OpenSpec.ofChange numCanonWrong)

/-- 'clepsydralaw1.NumSigns': WHATEVER THE INPUT: true; the input reads as it did. -/
def numSignsSpec : ChangeSpec := { name := "numSigns", fn := fun _ => fun
  | [d1, d2] => { results := [.lit (.bool true)], args := [d1, d2] }
  | _ => none }
def numSignsRow : OpenClaim := { program := "ytenkamppgcgcdaa", sum := "d6629f9d40a0133d7b4c0d1aff637d577902ba7905296616a62bbdeeb34ee4af", func := "clepsydra/clepsydralaw1.NumSigns", spec := "numSigns", apart := false }
def NumSignsSaid : Prop := numSignsRow.holds Try.pinned (OpenSpec.ofChange numSignsSpec)

/-- ITS FALSE NEIGHBOUR: 'it returns false'. Refute it at one input. -/
def numSignsWrong : ChangeSpec := { name := "numSigns", fn := fun _ => fun
  | [d1, d2] => { results := [.lit (.bool false)], args := [d1, d2] }
  | _ => none }
def NumSignsWrongFalsely : Prop := numSignsRow.holds Try.pinned (OpenSpec.ofChange numSignsWrong)

/-- 'clepsydralaw1.NumOrders': WHATEVER THE INPUT: true; the input reads as it did. -/
def numOrdersSpec : ChangeSpec := { name := "numOrders", fn := fun _ => fun
  | [d1, d2] => { results := [.lit (.bool true)], args := [d1, d2] }
  | _ => none }
def numOrdersRow : OpenClaim := { program := "ytenkamppgcgcdaa", sum := "d6629f9d40a0133d7b4c0d1aff637d577902ba7905296616a62bbdeeb34ee4af", func := "clepsydra/clepsydralaw1.NumOrders", spec := "numOrders", apart := false }
def NumOrdersSaid : Prop := numOrdersRow.holds Try.pinned (OpenSpec.ofChange numOrdersSpec)

/-- ITS FALSE NEIGHBOUR: 'it returns false'. Refute it at one input. -/
def numOrdersWrong : ChangeSpec := { name := "numOrders", fn := fun _ => fun
  | [d1, d2] => { results := [.lit (.bool false)], args := [d1, d2] }
  | _ => none }
def NumOrdersWrongFalsely : Prop := numOrdersRow.holds Try.pinned (OpenSpec.ofChange numOrdersWrong)

/-- 'clepsydralaw1.NumTakes': WHATEVER THE INPUT: true; the input reads as it did. -/
def numTakesSpec : ChangeSpec := { name := "numTakes", fn := fun _ => fun
  | [d] => { results := [.lit (.bool true)], args := [d] }
  | _ => none }
def numTakesRow : OpenClaim := { program := "ytenkamppgcgcdaa", sum := "d6629f9d40a0133d7b4c0d1aff637d577902ba7905296616a62bbdeeb34ee4af", func := "clepsydra/clepsydralaw1.NumTakes", spec := "numTakes", apart := false }
def NumTakesSaid : Prop := numTakesRow.holds Try.pinned (OpenSpec.ofChange numTakesSpec)

/-- ITS FALSE NEIGHBOUR: 'it returns false'. Refute it at one input. -/
def numTakesWrong : ChangeSpec := { name := "numTakes", fn := fun _ => fun
  | [d] => { results := [.lit (.bool false)], args := [d] }
  | _ => none }
def NumTakesWrongFalsely : Prop := numTakesRow.holds Try.pinned (OpenSpec.ofChange numTakesWrong)

/-- 'clepsydralaw1.NumPuts': WHATEVER THE INPUT: true; the input reads as it did. -/
def numPutsSpec : ChangeSpec := { name := "numPuts", fn := fun _ => fun
  | [d1, d2, d3] => { results := [.lit (.bool true)], args := [d1, d2, d3] }
  | _ => none }
def numPutsRow : OpenClaim := { program := "ytenkamppgcgcdaa", sum := "d6629f9d40a0133d7b4c0d1aff637d577902ba7905296616a62bbdeeb34ee4af", func := "clepsydra/clepsydralaw1.NumPuts", spec := "numPuts", apart := false }
def NumPutsSaid : Prop := numPutsRow.holds Try.pinned (OpenSpec.ofChange numPutsSpec)

/-- ITS FALSE NEIGHBOUR: 'it returns false'. Refute it at one input. -/
def numPutsWrong : ChangeSpec := { name := "numPuts", fn := fun _ => fun
  | [d1, d2, d3] => { results := [.lit (.bool false)], args := [d1, d2, d3] }
  | _ => none }
def NumPutsWrongFalsely : Prop := numPutsRow.holds Try.pinned (OpenSpec.ofChange numPutsWrong)

/-- 'clepsydralaw1.NumCuts': WHATEVER THE INPUT: true; the input reads as it did. -/
def numCutsSpec : ChangeSpec := { name := "numCuts", fn := fun _ => fun
  | [d1, d2] => { results := [.lit (.bool true)], args := [d1, d2] }
  | _ => none }
def numCutsRow : OpenClaim := { program := "ytenkamppgcgcdaa", sum := "d6629f9d40a0133d7b4c0d1aff637d577902ba7905296616a62bbdeeb34ee4af", func := "clepsydra/clepsydralaw1.NumCuts", spec := "numCuts", apart := false }
def NumCutsSaid : Prop := numCutsRow.holds Try.pinned (OpenSpec.ofChange numCutsSpec)

/-- ITS FALSE NEIGHBOUR: 'it returns false'. Refute it at one input. -/
def numCutsWrong : ChangeSpec := { name := "numCuts", fn := fun _ => fun
  | [d1, d2] => { results := [.lit (.bool false)], args := [d1, d2] }
  | _ => none }
def NumCutsWrongFalsely : Prop := numCutsRow.holds Try.pinned (OpenSpec.ofChange numCutsWrong)

/-- 'clepsydralaw1.NumLists': WHATEVER THE INPUT: true; the input reads as it did. -/
def numListsSpec : ChangeSpec := { name := "numLists", fn := fun _ => fun
  | [d1, d2, d3, d4] => { results := [.lit (.bool true)], args := [d1, d2, d3, d4] }
  | _ => none }
def numListsRow : OpenClaim := { program := "ytenkamppgcgcdaa", sum := "d6629f9d40a0133d7b4c0d1aff637d577902ba7905296616a62bbdeeb34ee4af", func := "clepsydra/clepsydralaw1.NumLists", spec := "numLists", apart := false }
def NumListsSaid : Prop := numListsRow.holds Try.pinned (OpenSpec.ofChange numListsSpec)

/-- ITS FALSE NEIGHBOUR: 'it returns false'. Refute it at one input. -/
def numListsWrong : ChangeSpec := { name := "numLists", fn := fun _ => fun
  | [d1, d2, d3, d4] => { results := [.lit (.bool false)], args := [d1, d2, d3, d4] }
  | _ => none }
def NumListsWrongFalsely : Prop := numListsRow.holds Try.pinned (OpenSpec.ofChange numListsWrong)

/- THE SECOND FORM. 'bulk': how many values and letters a reading holds, each counted each time it is reached (what is shared counts as often as it is met; a slice's spare places count too). A statement '..UptoSaid' is the law's where the arguments, and the package variables that the reading takes, are together of bulk at most 1048576: NARROWER than '..Said'. Prove '..Said' where nothing that the law and all that it calls make is longer than what came in: it says more and counts as full. Else prove '..UptoSaid'. A law counts once. -/
mutual
def uptoBulk {H : Type} : DataW H → Nat
  | .lit (.string bytes) => bytes.length + 1
  | .lit _ => 1
  | .nil => 1
  | .ptr d => uptoBulk d + 1
  | .slice elems spare => uptoBulkAll elems + uptoBulkAll spare + 1
  | .agg parts => uptoBulkAll parts + 1
  | .iface _ d => uptoBulk d + 1
  | .map entries => uptoBulkEntries entries + 1
  | .held _ => 1
def uptoBulkAll {H : Type} : List (DataW H) → Nat
  | [] => 0
  | d :: r => uptoBulk d + uptoBulkAll r
def uptoBulkEntries {H : Type} : List (Lit × DataW H) → Nat
  | [] => 0
  | x :: r => uptoBulkEntry x + uptoBulkEntries r
def uptoBulkEntry {H : Type} : Lit × DataW H → Nat
  | (.string bytes, d) => bytes.length + uptoBulk d + 1
  | (_, d) => uptoBulk d + 1
 end
def uptoSmall : (H : Type) → List (DataW H) → Bool := fun _ ds => decide (uptoBulkAll ds ≤ 1048576)
def OpenSpec.upto (s : _root_.Go.ChangeSpec) : _root_.Go.OpenSpec := { _root_.Go.OpenSpec.ofChange s with cond := some uptoSmall }

/-- 'clepsydralaw1.NumRows', WHERE WHAT IT READS IS OF BULK AT MOST 1048576: true; the input reads as it did. -/
def numRowsUptoRow : OpenClaim := { program := "ytenkamppgcgcdaa", sum := "d6629f9d40a0133d7b4c0d1aff637d577902ba7905296616a62bbdeeb34ee4af", func := "clepsydra/clepsydralaw1.NumRows", spec := "numRows", apart := false, narrowed := true }
def NumRowsUptoSaid : Prop := numRowsUptoRow.holds Try.pinned (OpenSpec.upto numRowsSpec)

/-- 'clepsydralaw1.NumCanon', WHERE WHAT IT READS IS OF BULK AT MOST 1048576: true; the input reads as it did. -/
def numCanonUptoRow : OpenClaim := { program := "ytenkamppgcgcdaa", sum := "d6629f9d40a0133d7b4c0d1aff637d577902ba7905296616a62bbdeeb34ee4af", func := "clepsydra/clepsydralaw1.NumCanon", spec := "numCanon", apart := false, narrowed := true }
def NumCanonUptoSaid : Prop := numCanonUptoRow.holds Try.pinned (OpenSpec.upto numCanonSpec)

/-- 'clepsydralaw1.NumSigns', WHERE WHAT IT READS IS OF BULK AT MOST 1048576: true; the input reads as it did. -/
def numSignsUptoRow : OpenClaim := { program := "ytenkamppgcgcdaa", sum := "d6629f9d40a0133d7b4c0d1aff637d577902ba7905296616a62bbdeeb34ee4af", func := "clepsydra/clepsydralaw1.NumSigns", spec := "numSigns", apart := false, narrowed := true }
def NumSignsUptoSaid : Prop := numSignsUptoRow.holds Try.pinned (OpenSpec.upto numSignsSpec)

/-- 'clepsydralaw1.NumOrders', WHERE WHAT IT READS IS OF BULK AT MOST 1048576: true; the input reads as it did. -/
def numOrdersUptoRow : OpenClaim := { program := "ytenkamppgcgcdaa", sum := "d6629f9d40a0133d7b4c0d1aff637d577902ba7905296616a62bbdeeb34ee4af", func := "clepsydra/clepsydralaw1.NumOrders", spec := "numOrders", apart := false, narrowed := true }
def NumOrdersUptoSaid : Prop := numOrdersUptoRow.holds Try.pinned (OpenSpec.upto numOrdersSpec)

/-- 'clepsydralaw1.NumTakes', WHERE WHAT IT READS IS OF BULK AT MOST 1048576: true; the input reads as it did. -/
def numTakesUptoRow : OpenClaim := { program := "ytenkamppgcgcdaa", sum := "d6629f9d40a0133d7b4c0d1aff637d577902ba7905296616a62bbdeeb34ee4af", func := "clepsydra/clepsydralaw1.NumTakes", spec := "numTakes", apart := false, narrowed := true }
def NumTakesUptoSaid : Prop := numTakesUptoRow.holds Try.pinned (OpenSpec.upto numTakesSpec)

/-- 'clepsydralaw1.NumPuts', WHERE WHAT IT READS IS OF BULK AT MOST 1048576: true; the input reads as it did. -/
def numPutsUptoRow : OpenClaim := { program := "ytenkamppgcgcdaa", sum := "d6629f9d40a0133d7b4c0d1aff637d577902ba7905296616a62bbdeeb34ee4af", func := "clepsydra/clepsydralaw1.NumPuts", spec := "numPuts", apart := false, narrowed := true }
def NumPutsUptoSaid : Prop := numPutsUptoRow.holds Try.pinned (OpenSpec.upto numPutsSpec)

/-- 'clepsydralaw1.NumCuts', WHERE WHAT IT READS IS OF BULK AT MOST 1048576: true; the input reads as it did. -/
def numCutsUptoRow : OpenClaim := { program := "ytenkamppgcgcdaa", sum := "d6629f9d40a0133d7b4c0d1aff637d577902ba7905296616a62bbdeeb34ee4af", func := "clepsydra/clepsydralaw1.NumCuts", spec := "numCuts", apart := false, narrowed := true }
def NumCutsUptoSaid : Prop := numCutsUptoRow.holds Try.pinned (OpenSpec.upto numCutsSpec)

/-- 'clepsydralaw1.NumLists', WHERE WHAT IT READS IS OF BULK AT MOST 1048576: true; the input reads as it did. -/
def numListsUptoRow : OpenClaim := { program := "ytenkamppgcgcdaa", sum := "d6629f9d40a0133d7b4c0d1aff637d577902ba7905296616a62bbdeeb34ee4af", func := "clepsydra/clepsydralaw1.NumLists", spec := "numLists", apart := false, narrowed := true }
def NumListsUptoSaid : Prop := numListsUptoRow.holds Try.pinned (OpenSpec.upto numListsSpec)

end Rows
end Go.Proofs.Ytenkamppgcgcdaa
