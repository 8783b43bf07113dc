/-
  No cell of these rows narrows 'for every input' (looked for: loops, veiled, ifaces, maps, wideKeys, modest, calm, conditions, laid).
  DERIVED. THE GIVEN ROWS OF THIS SEAT. 6 by the template 'for every input the law returns true; each argument reads behind the call as it read before'; 0 by the template 'total and deterministic' (their statements: YtokcaoaclheiiaaTotals.lean).
  GIVEN WITH THE SEED: the statements are not yours to turn. If you find one false, say at which input.
  Laid BY PROGRAM, IN A SANDBOX (cutbox-rows.mjs): the forced cells as the released guide's own fill.sh prints them over the translation 735a26fb25666a7b… (all of the seat's roots in one cut). By AI agents, Wed Nov 11 2026. No macro, syntax, notation, axiom, sorry.
-/
import Derived.Test.YtokcaoaclheiiaaChecked
import GoSem.Claim
import GoSem.ClaimJoined
import GoSem.ClaimMapViews
import Derived.JoinedTies
import Derived.KernelRfl
namespace Go.Proofs.Ytokcaoaclheiiaa
/- THE CELL 'sum', in the pinned program and in every row, IS THE sha256 OF THE DUMP (.gsa) THAT YtokcaoaclheiiaaProg.lean LOADS. Nothing in Lean hashes anything: it is a label: what it is worth is what the hold of that sum in a sandbox is worth. -/
noncomputable def Try.pinned : Pinned := { name := "ytokcaoaclheiiaa", sum := "735a26fb25666a7b8fa8a74a94405b84feb95225f59c3e4eca4cfdf68ec211cb", checked := Try.checked }
namespace Rows
def none {H : Type} : Left H := { results := [], args := [] }

/-- 'clepsydralaw15.EditFields': WHATEVER THE INPUT: true; the input reads as it did. -/
def editFieldsSpec : ChangeSpec := { name := "editFields", fn := fun _ => fun
  | [d1, d2, d3] => { results := [.lit (.bool true)], args := [d1, d2, d3] }
  | _ => none }
def editFieldsRow : OpenClaim := { program := "ytokcaoaclheiiaa", sum := "735a26fb25666a7b8fa8a74a94405b84feb95225f59c3e4eca4cfdf68ec211cb", func := "clepsydra/clepsydralaw15.EditFields", spec := "editFields", unfollowed := true, recurses := true, apart := false }
def EditFieldsSaid : Prop := editFieldsRow.holds Try.pinned (OpenSpec.ofChange editFieldsSpec)

/-- ITS FALSE NEIGHBOUR: 'it returns false'. Refute it at one input. -/
def editFieldsWrong : ChangeSpec := { name := "editFields", fn := fun _ => fun
  | [d1, d2, d3] => { results := [.lit (.bool false)], args := [d1, d2, d3] }
  | _ => none }
def EditFieldsWrongFalsely : Prop := editFieldsRow.holds Try.pinned (OpenSpec.ofChange editFieldsWrong)

/-- 'clepsydralaw15.EditWhole': WHATEVER THE INPUT: true; the input reads as it did. -/
def editWholeSpec : ChangeSpec := { name := "editWhole", fn := fun _ => fun
  | [d1, d2] => { results := [.lit (.bool true)], args := [d1, d2] }
  | _ => none }
def editWholeRow : OpenClaim := { program := "ytokcaoaclheiiaa", sum := "735a26fb25666a7b8fa8a74a94405b84feb95225f59c3e4eca4cfdf68ec211cb", func := "clepsydra/clepsydralaw15.EditWhole", spec := "editWhole", unfollowed := true, recurses := true, apart := false }
def EditWholeSaid : Prop := editWholeRow.holds Try.pinned (OpenSpec.ofChange editWholeSpec)

/-- ITS FALSE NEIGHBOUR: 'it returns false'. Refute it at one input. -/
def editWholeWrong : ChangeSpec := { name := "editWhole", fn := fun _ => fun
  | [d1, d2] => { results := [.lit (.bool false)], args := [d1, d2] }
  | _ => none }
def EditWholeWrongFalsely : Prop := editWholeRow.holds Try.pinned (OpenSpec.ofChange editWholeWrong)

/-- 'clepsydralaw15.EditReads': WHATEVER THE INPUT: true; the input reads as it did. -/
def editReadsSpec : ChangeSpec := { name := "editReads", fn := fun _ => fun
  | [d1, d2, d3, d4, d5] => { results := [.lit (.bool true)], args := [d1, d2, d3, d4, d5] }
  | _ => none }
def editReadsRow : OpenClaim := { program := "ytokcaoaclheiiaa", sum := "735a26fb25666a7b8fa8a74a94405b84feb95225f59c3e4eca4cfdf68ec211cb", func := "clepsydra/clepsydralaw15.EditReads", spec := "editReads", unfollowed := true, recurses := true, apart := false }
def EditReadsSaid : Prop := editReadsRow.holds Try.pinned (OpenSpec.ofChange editReadsSpec)

/-- ITS FALSE NEIGHBOUR: 'it returns false'. Refute it at one input. -/
def editReadsWrong : ChangeSpec := { name := "editReads", fn := fun _ => fun
  | [d1, d2, d3, d4, d5] => { results := [.lit (.bool false)], args := [d1, d2, d3, d4, d5] }
  | _ => none }
def EditReadsWrongFalsely : Prop := editReadsRow.holds Try.pinned (OpenSpec.ofChange editReadsWrong)

/-- 'clepsydralaw15.EditPuts': WHATEVER THE INPUT: true; the input reads as it did. -/
def editPutsSpec : ChangeSpec := { name := "editPuts", fn := fun _ => fun
  | [d1, d2] => { results := [.lit (.bool true)], args := [d1, d2] }
  | _ => none }
def editPutsRow : OpenClaim := { program := "ytokcaoaclheiiaa", sum := "735a26fb25666a7b8fa8a74a94405b84feb95225f59c3e4eca4cfdf68ec211cb", func := "clepsydra/clepsydralaw15.EditPuts", spec := "editPuts", unfollowed := true, recurses := true, apart := false }
def EditPutsSaid : Prop := editPutsRow.holds Try.pinned (OpenSpec.ofChange editPutsSpec)

/-- ITS FALSE NEIGHBOUR: 'it returns false'. Refute it at one input. -/
def editPutsWrong : ChangeSpec := { name := "editPuts", fn := fun _ => fun
  | [d1, d2] => { results := [.lit (.bool false)], args := [d1, d2] }
  | _ => none }
def EditPutsWrongFalsely : Prop := editPutsRow.holds Try.pinned (OpenSpec.ofChange editPutsWrong)

/-- 'clepsydralaw15.EditApplies': WHATEVER THE INPUT: true; the input reads as it did. -/
def editAppliesSpec : ChangeSpec := { name := "editApplies", fn := fun _ => fun
  | [d1, d2, d3, d4] => { results := [.lit (.bool true)], args := [d1, d2, d3, d4] }
  | _ => none }
def editAppliesRow : OpenClaim := { program := "ytokcaoaclheiiaa", sum := "735a26fb25666a7b8fa8a74a94405b84feb95225f59c3e4eca4cfdf68ec211cb", func := "clepsydra/clepsydralaw15.EditApplies", spec := "editApplies", unfollowed := true, recurses := true, apart := false }
def EditAppliesSaid : Prop := editAppliesRow.holds Try.pinned (OpenSpec.ofChange editAppliesSpec)

/-- ITS FALSE NEIGHBOUR: 'it returns false'. Refute it at one input. -/
def editAppliesWrong : ChangeSpec := { name := "editApplies", fn := fun _ => fun
  | [d1, d2, d3, d4] => { results := [.lit (.bool false)], args := [d1, d2, d3, d4] }
  | _ => none }
def EditAppliesWrongFalsely : Prop := editAppliesRow.holds Try.pinned (OpenSpec.ofChange editAppliesWrong)

/-- 'clepsydralaw15.EditCuts': WHATEVER THE INPUT: true; the input reads as it did. -/
def editCutsSpec : ChangeSpec := { name := "editCuts", fn := fun _ => fun
  | [d1, d2] => { results := [.lit (.bool true)], args := [d1, d2] }
  | _ => none }
def editCutsRow : OpenClaim := { program := "ytokcaoaclheiiaa", sum := "735a26fb25666a7b8fa8a74a94405b84feb95225f59c3e4eca4cfdf68ec211cb", func := "clepsydra/clepsydralaw15.EditCuts", spec := "editCuts", unfollowed := true, recurses := true, apart := false }
def EditCutsSaid : Prop := editCutsRow.holds Try.pinned (OpenSpec.ofChange editCutsSpec)

/-- ITS FALSE NEIGHBOUR: 'it returns false'. Refute it at one input. -/
def editCutsWrong : ChangeSpec := { name := "editCuts", fn := fun _ => fun
  | [d1, d2] => { results := [.lit (.bool false)], args := [d1, d2] }
  | _ => none }
def EditCutsWrongFalsely : Prop := editCutsRow.holds Try.pinned (OpenSpec.ofChange editCutsWrong)

/- THE SECOND FORM. 'bulk': how many values and letters a reading holds, each counted each time it is reached (what is shared counts as often as it is met; a slice's spare places count too). A statement '..UptoSaid' is the law's where the arguments, and the package variables that the reading takes, are together of bulk at most 1048576: NARROWER than '..Said'. Prove '..Said' where nothing that the law and all that it calls make is longer than what came in: it says more and counts as full. Else prove '..UptoSaid'. A law counts once. -/
mutual
def uptoBulk {H : Type} : DataW H → Nat
  | .lit (.string bytes) => bytes.length + 1
  | .lit _ => 1
  | .nil => 1
  | .ptr d => uptoBulk d + 1
  | .slice elems spare => uptoBulkAll elems + uptoBulkAll spare + 1
  | .agg parts => uptoBulkAll parts + 1
  | .iface _ d => uptoBulk d + 1
  | .map entries => uptoBulkEntries entries + 1
  | .held _ => 1
def uptoBulkAll {H : Type} : List (DataW H) → Nat
  | [] => 0
  | d :: r => uptoBulk d + uptoBulkAll r
def uptoBulkEntries {H : Type} : List (Lit × DataW H) → Nat
  | [] => 0
  | x :: r => uptoBulkEntry x + uptoBulkEntries r
def uptoBulkEntry {H : Type} : Lit × DataW H → Nat
  | (.string bytes, d) => bytes.length + uptoBulk d + 1
  | (_, d) => uptoBulk d + 1
 end
def uptoSmall : (H : Type) → List (DataW H) → Bool := fun _ ds => decide (uptoBulkAll ds ≤ 1048576)
def OpenSpec.upto (s : _root_.Go.ChangeSpec) : _root_.Go.OpenSpec := { _root_.Go.OpenSpec.ofChange s with cond := some uptoSmall }

/-- 'clepsydralaw15.EditFields', WHERE WHAT IT READS IS OF BULK AT MOST 1048576: true; the input reads as it did. -/
def editFieldsUptoRow : OpenClaim := { program := "ytokcaoaclheiiaa", sum := "735a26fb25666a7b8fa8a74a94405b84feb95225f59c3e4eca4cfdf68ec211cb", func := "clepsydra/clepsydralaw15.EditFields", spec := "editFields", unfollowed := true, recurses := true, apart := false, narrowed := true }
def EditFieldsUptoSaid : Prop := editFieldsUptoRow.holds Try.pinned (OpenSpec.upto editFieldsSpec)

/-- 'clepsydralaw15.EditWhole', WHERE WHAT IT READS IS OF BULK AT MOST 1048576: true; the input reads as it did. -/
def editWholeUptoRow : OpenClaim := { program := "ytokcaoaclheiiaa", sum := "735a26fb25666a7b8fa8a74a94405b84feb95225f59c3e4eca4cfdf68ec211cb", func := "clepsydra/clepsydralaw15.EditWhole", spec := "editWhole", unfollowed := true, recurses := true, apart := false, narrowed := true }
def EditWholeUptoSaid : Prop := editWholeUptoRow.holds Try.pinned (OpenSpec.upto editWholeSpec)

/-- 'clepsydralaw15.EditReads', WHERE WHAT IT READS IS OF BULK AT MOST 1048576: true; the input reads as it did. -/
def editReadsUptoRow : OpenClaim := { program := "ytokcaoaclheiiaa", sum := "735a26fb25666a7b8fa8a74a94405b84feb95225f59c3e4eca4cfdf68ec211cb", func := "clepsydra/clepsydralaw15.EditReads", spec := "editReads", unfollowed := true, recurses := true, apart := false, narrowed := true }
def EditReadsUptoSaid : Prop := editReadsUptoRow.holds Try.pinned (OpenSpec.upto editReadsSpec)

/-- 'clepsydralaw15.EditPuts', WHERE WHAT IT READS IS OF BULK AT MOST 1048576: true; the input reads as it did. -/
def editPutsUptoRow : OpenClaim := { program := "ytokcaoaclheiiaa", sum := "735a26fb25666a7b8fa8a74a94405b84feb95225f59c3e4eca4cfdf68ec211cb", func := "clepsydra/clepsydralaw15.EditPuts", spec := "editPuts", unfollowed := true, recurses := true, apart := false, narrowed := true }
def EditPutsUptoSaid : Prop := editPutsUptoRow.holds Try.pinned (OpenSpec.upto editPutsSpec)

/-- 'clepsydralaw15.EditApplies', WHERE WHAT IT READS IS OF BULK AT MOST 1048576: true; the input reads as it did. -/
def editAppliesUptoRow : OpenClaim := { program := "ytokcaoaclheiiaa", sum := "735a26fb25666a7b8fa8a74a94405b84feb95225f59c3e4eca4cfdf68ec211cb", func := "clepsydra/clepsydralaw15.EditApplies", spec := "editApplies", unfollowed := true, recurses := true, apart := false, narrowed := true }
def EditAppliesUptoSaid : Prop := editAppliesUptoRow.holds Try.pinned (OpenSpec.upto editAppliesSpec)

/-- 'clepsydralaw15.EditCuts', WHERE WHAT IT READS IS OF BULK AT MOST 1048576: true; the input reads as it did. -/
def editCutsUptoRow : OpenClaim := { program := "ytokcaoaclheiiaa", sum := "735a26fb25666a7b8fa8a74a94405b84feb95225f59c3e4eca4cfdf68ec211cb", func := "clepsydra/clepsydralaw15.EditCuts", spec := "editCuts", unfollowed := true, recurses := true, apart := false, narrowed := true }
def EditCutsUptoSaid : Prop := editCutsUptoRow.holds Try.pinned (OpenSpec.upto editCutsSpec)

end Rows
end Go.Proofs.Ytokcaoaclheiiaa
