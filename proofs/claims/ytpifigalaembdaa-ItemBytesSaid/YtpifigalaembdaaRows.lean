/-
  No cell of these rows narrows 'for every input' (looked for: loops, veiled, ifaces, maps, wideKeys, modest, calm, conditions, laid).
  DERIVED. THE GIVEN ROWS OF THIS SEAT. 7 by the template 'for every input the law returns true; each argument reads behind the call as it read before'; 0 by the template 'total and deterministic' (their statements: YtpifigalaembdaaTotals.lean).
  GIVEN WITH THE SEED: the statements are not yours to turn. If you find one false, say at which input.
  Laid BY PROGRAM, IN A SANDBOX (cutbox-rows.mjs): the forced cells as the released guide's own fill.sh prints them over the translation 71fa71a0d523c8b7… (all of the seat's roots in one cut). By AI agents, Wed Nov 11 2026. No macro, syntax, notation, axiom, sorry.
-/
import Derived.Test.YtpifigalaembdaaChecked
import GoSem.Claim
import GoSem.ClaimJoined
import GoSem.ClaimMapViews
import Derived.JoinedTies
import Derived.KernelRfl
namespace Go.Proofs.Ytpifigalaembdaa
/- THE CELL 'sum', in the pinned program and in every row, IS THE sha256 OF THE DUMP (.gsa) THAT YtpifigalaembdaaProg.lean LOADS. Nothing in Lean hashes anything: it is a label: what it is worth is what the hold of that sum in a sandbox is worth. -/
noncomputable def Try.pinned : Pinned := { name := "ytpifigalaembdaa", sum := "71fa71a0d523c8b70fec43d0f0b7c7fe9e161ef3ca94c4807eacf806b1c77c94", checked := Try.checked }
namespace Rows
def none {H : Type} : Left H := { results := [], args := [] }

/-- 'clepsydralaw5.ItemHides': WHATEVER THE INPUT: true; the input reads as it did. -/
def itemHidesSpec : ChangeSpec := { name := "itemHides", fn := fun _ => fun
  | [d1, d2, d3, d4, d5] => { results := [.lit (.bool true)], args := [d1, d2, d3, d4, d5] }
  | _ => none }
def itemHidesRow : OpenClaim := { program := "ytpifigalaembdaa", sum := "71fa71a0d523c8b70fec43d0f0b7c7fe9e161ef3ca94c4807eacf806b1c77c94", func := "clepsydra/clepsydralaw5.ItemHides", spec := "itemHides", unfollowed := true, recurses := true, apart := false }
def ItemHidesSaid : Prop := itemHidesRow.holds Try.pinned (OpenSpec.ofChange itemHidesSpec)

/-- ITS FALSE NEIGHBOUR: 'it returns false'. Refute it at one input. -/
def itemHidesWrong : ChangeSpec := { name := "itemHides", fn := fun _ => fun
  | [d1, d2, d3, d4, d5] => { results := [.lit (.bool false)], args := [d1, d2, d3, d4, d5] }
  | _ => none }
def ItemHidesWrongFalsely : Prop := itemHidesRow.holds Try.pinned (OpenSpec.ofChange itemHidesWrong)

/-- 'clepsydralaw5.ItemShort': WHATEVER THE INPUT: true; the input reads as it did. -/
def itemShortSpec : ChangeSpec := { name := "itemShort", fn := fun _ => fun
  | [d1, d2] => { results := [.lit (.bool true)], args := [d1, d2] }
  | _ => none }
def itemShortRow : OpenClaim := { program := "ytpifigalaembdaa", sum := "71fa71a0d523c8b70fec43d0f0b7c7fe9e161ef3ca94c4807eacf806b1c77c94", func := "clepsydra/clepsydralaw5.ItemShort", spec := "itemShort", unfollowed := true, recurses := true, apart := false }
def ItemShortSaid : Prop := itemShortRow.holds Try.pinned (OpenSpec.ofChange itemShortSpec)

/-- ITS FALSE NEIGHBOUR: 'it returns false'. Refute it at one input. -/
def itemShortWrong : ChangeSpec := { name := "itemShort", fn := fun _ => fun
  | [d1, d2] => { results := [.lit (.bool false)], args := [d1, d2] }
  | _ => none }
def ItemShortWrongFalsely : Prop := itemShortRow.holds Try.pinned (OpenSpec.ofChange itemShortWrong)

/-- 'clepsydralaw5.ItemWins': WHATEVER THE INPUT: true; the input reads as it did. -/
def itemWinsSpec : ChangeSpec := { name := "itemWins", fn := fun _ => fun
  | [d1, d2, d3] => { results := [.lit (.bool true)], args := [d1, d2, d3] }
  | _ => none }
def itemWinsRow : OpenClaim := { program := "ytpifigalaembdaa", sum := "71fa71a0d523c8b70fec43d0f0b7c7fe9e161ef3ca94c4807eacf806b1c77c94", func := "clepsydra/clepsydralaw5.ItemWins", spec := "itemWins", unfollowed := true, recurses := true, apart := false }
def ItemWinsSaid : Prop := itemWinsRow.holds Try.pinned (OpenSpec.ofChange itemWinsSpec)

/-- ITS FALSE NEIGHBOUR: 'it returns false'. Refute it at one input. -/
def itemWinsWrong : ChangeSpec := { name := "itemWins", fn := fun _ => fun
  | [d1, d2, d3] => { results := [.lit (.bool false)], args := [d1, d2, d3] }
  | _ => none }
def ItemWinsWrongFalsely : Prop := itemWinsRow.holds Try.pinned (OpenSpec.ofChange itemWinsWrong)

/-- 'clepsydralaw5.ItemOrders': WHATEVER THE INPUT: true; the input reads as it did. -/
def itemOrdersSpec : ChangeSpec := { name := "itemOrders", fn := fun _ => fun
  | [d1, d2, d3] => { results := [.lit (.bool true)], args := [d1, d2, d3] }
  | _ => none }
def itemOrdersRow : OpenClaim := { program := "ytpifigalaembdaa", sum := "71fa71a0d523c8b70fec43d0f0b7c7fe9e161ef3ca94c4807eacf806b1c77c94", func := "clepsydra/clepsydralaw5.ItemOrders", spec := "itemOrders", unfollowed := true, recurses := true, apart := false }
def ItemOrdersSaid : Prop := itemOrdersRow.holds Try.pinned (OpenSpec.ofChange itemOrdersSpec)

/-- ITS FALSE NEIGHBOUR: 'it returns false'. Refute it at one input. -/
def itemOrdersWrong : ChangeSpec := { name := "itemOrders", fn := fun _ => fun
  | [d1, d2, d3] => { results := [.lit (.bool false)], args := [d1, d2, d3] }
  | _ => none }
def ItemOrdersWrongFalsely : Prop := itemOrdersRow.holds Try.pinned (OpenSpec.ofChange itemOrdersWrong)

/-- 'clepsydralaw5.ItemTells': WHATEVER THE INPUT: true; the input reads as it did. -/
def itemTellsSpec : ChangeSpec := { name := "itemTells", fn := fun _ => fun
  | [d1, d2] => { results := [.lit (.bool true)], args := [d1, d2] }
  | _ => none }
def itemTellsRow : OpenClaim := { program := "ytpifigalaembdaa", sum := "71fa71a0d523c8b70fec43d0f0b7c7fe9e161ef3ca94c4807eacf806b1c77c94", func := "clepsydra/clepsydralaw5.ItemTells", spec := "itemTells", unfollowed := true, recurses := true, apart := false }
def ItemTellsSaid : Prop := itemTellsRow.holds Try.pinned (OpenSpec.ofChange itemTellsSpec)

/-- ITS FALSE NEIGHBOUR: 'it returns false'. Refute it at one input. -/
def itemTellsWrong : ChangeSpec := { name := "itemTells", fn := fun _ => fun
  | [d1, d2] => { results := [.lit (.bool false)], args := [d1, d2] }
  | _ => none }
def ItemTellsWrongFalsely : Prop := itemTellsRow.holds Try.pinned (OpenSpec.ofChange itemTellsWrong)

/-- 'clepsydralaw5.ItemBytes': WHATEVER THE INPUT: true; the input reads as it did. -/
def itemBytesSpec : ChangeSpec := { name := "itemBytes", fn := fun _ => fun
  | [d1, d2, d3] => { results := [.lit (.bool true)], args := [d1, d2, d3] }
  | _ => none }
def itemBytesRow : OpenClaim := { program := "ytpifigalaembdaa", sum := "71fa71a0d523c8b70fec43d0f0b7c7fe9e161ef3ca94c4807eacf806b1c77c94", func := "clepsydra/clepsydralaw5.ItemBytes", spec := "itemBytes", unfollowed := true, recurses := true, apart := false }
def ItemBytesSaid : Prop := itemBytesRow.holds Try.pinned (OpenSpec.ofChange itemBytesSpec)

/-- ITS FALSE NEIGHBOUR: 'it returns false'. Refute it at one input. -/
def itemBytesWrong : ChangeSpec := { name := "itemBytes", fn := fun _ => fun
  | [d1, d2, d3] => { results := [.lit (.bool false)], args := [d1, d2, d3] }
  | _ => none }
def ItemBytesWrongFalsely : Prop := itemBytesRow.holds Try.pinned (OpenSpec.ofChange itemBytesWrong)

/-- 'clepsydralaw5.ItemCuts': WHATEVER THE INPUT: true; the input reads as it did. -/
def itemCutsSpec : ChangeSpec := { name := "itemCuts", fn := fun _ => fun
  | [d1, d2, d3] => { results := [.lit (.bool true)], args := [d1, d2, d3] }
  | _ => none }
def itemCutsRow : OpenClaim := { program := "ytpifigalaembdaa", sum := "71fa71a0d523c8b70fec43d0f0b7c7fe9e161ef3ca94c4807eacf806b1c77c94", func := "clepsydra/clepsydralaw5.ItemCuts", spec := "itemCuts", unfollowed := true, recurses := true, apart := false }
def ItemCutsSaid : Prop := itemCutsRow.holds Try.pinned (OpenSpec.ofChange itemCutsSpec)

/-- ITS FALSE NEIGHBOUR: 'it returns false'. Refute it at one input. -/
def itemCutsWrong : ChangeSpec := { name := "itemCuts", fn := fun _ => fun
  | [d1, d2, d3] => { results := [.lit (.bool false)], args := [d1, d2, d3] }
  | _ => none }
def ItemCutsWrongFalsely : Prop := itemCutsRow.holds Try.pinned (OpenSpec.ofChange itemCutsWrong)

/- THE SECOND FORM. 'bulk': how many values and letters a reading holds, each counted each time it is reached (what is shared counts as often as it is met; a slice's spare places count too). A statement '..UptoSaid' is the law's where the arguments, and the package variables that the reading takes, are together of bulk at most 1048576: NARROWER than '..Said'. Prove '..Said' where nothing that the law and all that it calls make is longer than what came in: it says more and counts as full. Else prove '..UptoSaid'. A law counts once. -/
mutual
def uptoBulk {H : Type} : DataW H → Nat
  | .lit (.string bytes) => bytes.length + 1
  | .lit _ => 1
  | .nil => 1
  | .ptr d => uptoBulk d + 1
  | .slice elems spare => uptoBulkAll elems + uptoBulkAll spare + 1
  | .agg parts => uptoBulkAll parts + 1
  | .iface _ d => uptoBulk d + 1
  | .map entries => uptoBulkEntries entries + 1
  | .held _ => 1
def uptoBulkAll {H : Type} : List (DataW H) → Nat
  | [] => 0
  | d :: r => uptoBulk d + uptoBulkAll r
def uptoBulkEntries {H : Type} : List (Lit × DataW H) → Nat
  | [] => 0
  | x :: r => uptoBulkEntry x + uptoBulkEntries r
def uptoBulkEntry {H : Type} : Lit × DataW H → Nat
  | (.string bytes, d) => bytes.length + uptoBulk d + 1
  | (_, d) => uptoBulk d + 1
 end
def uptoSmall : (H : Type) → List (DataW H) → Bool := fun _ ds => decide (uptoBulkAll ds ≤ 1048576)
def OpenSpec.upto (s : _root_.Go.ChangeSpec) : _root_.Go.OpenSpec := { _root_.Go.OpenSpec.ofChange s with cond := some uptoSmall }

/-- 'clepsydralaw5.ItemHides', WHERE WHAT IT READS IS OF BULK AT MOST 1048576: true; the input reads as it did. -/
def itemHidesUptoRow : OpenClaim := { program := "ytpifigalaembdaa", sum := "71fa71a0d523c8b70fec43d0f0b7c7fe9e161ef3ca94c4807eacf806b1c77c94", func := "clepsydra/clepsydralaw5.ItemHides", spec := "itemHides", unfollowed := true, recurses := true, apart := false, narrowed := true }
def ItemHidesUptoSaid : Prop := itemHidesUptoRow.holds Try.pinned (OpenSpec.upto itemHidesSpec)

/-- 'clepsydralaw5.ItemShort', WHERE WHAT IT READS IS OF BULK AT MOST 1048576: true; the input reads as it did. -/
def itemShortUptoRow : OpenClaim := { program := "ytpifigalaembdaa", sum := "71fa71a0d523c8b70fec43d0f0b7c7fe9e161ef3ca94c4807eacf806b1c77c94", func := "clepsydra/clepsydralaw5.ItemShort", spec := "itemShort", unfollowed := true, recurses := true, apart := false, narrowed := true }
def ItemShortUptoSaid : Prop := itemShortUptoRow.holds Try.pinned (OpenSpec.upto itemShortSpec)

/-- 'clepsydralaw5.ItemWins', WHERE WHAT IT READS IS OF BULK AT MOST 1048576: true; the input reads as it did. -/
def itemWinsUptoRow : OpenClaim := { program := "ytpifigalaembdaa", sum := "71fa71a0d523c8b70fec43d0f0b7c7fe9e161ef3ca94c4807eacf806b1c77c94", func := "clepsydra/clepsydralaw5.ItemWins", spec := "itemWins", unfollowed := true, recurses := true, apart := false, narrowed := true }
def ItemWinsUptoSaid : Prop := itemWinsUptoRow.holds Try.pinned (OpenSpec.upto itemWinsSpec)

/-- 'clepsydralaw5.ItemOrders', WHERE WHAT IT READS IS OF BULK AT MOST 1048576: true; the input reads as it did. -/
def itemOrdersUptoRow : OpenClaim := { program := "ytpifigalaembdaa", sum := "71fa71a0d523c8b70fec43d0f0b7c7fe9e161ef3ca94c4807eacf806b1c77c94", func := "clepsydra/clepsydralaw5.ItemOrders", spec := "itemOrders", unfollowed := true, recurses := true, apart := false, narrowed := true }
def ItemOrdersUptoSaid : Prop := itemOrdersUptoRow.holds Try.pinned (OpenSpec.upto itemOrdersSpec)

/-- 'clepsydralaw5.ItemTells', WHERE WHAT IT READS IS OF BULK AT MOST 1048576: true; the input reads as it did. -/
def itemTellsUptoRow : OpenClaim := { program := "ytpifigalaembdaa", sum := "71fa71a0d523c8b70fec43d0f0b7c7fe9e161ef3ca94c4807eacf806b1c77c94", func := "clepsydra/clepsydralaw5.ItemTells", spec := "itemTells", unfollowed := true, recurses := true, apart := false, narrowed := true }
def ItemTellsUptoSaid : Prop := itemTellsUptoRow.holds Try.pinned (OpenSpec.upto itemTellsSpec)

/-- 'clepsydralaw5.ItemBytes', WHERE WHAT IT READS IS OF BULK AT MOST 1048576: true; the input reads as it did. -/
def itemBytesUptoRow : OpenClaim := { program := "ytpifigalaembdaa", sum := "71fa71a0d523c8b70fec43d0f0b7c7fe9e161ef3ca94c4807eacf806b1c77c94", func := "clepsydra/clepsydralaw5.ItemBytes", spec := "itemBytes", unfollowed := true, recurses := true, apart := false, narrowed := true }
def ItemBytesUptoSaid : Prop := itemBytesUptoRow.holds Try.pinned (OpenSpec.upto itemBytesSpec)

/-- 'clepsydralaw5.ItemCuts', WHERE WHAT IT READS IS OF BULK AT MOST 1048576: true; the input reads as it did. -/
def itemCutsUptoRow : OpenClaim := { program := "ytpifigalaembdaa", sum := "71fa71a0d523c8b70fec43d0f0b7c7fe9e161ef3ca94c4807eacf806b1c77c94", func := "clepsydra/clepsydralaw5.ItemCuts", spec := "itemCuts", unfollowed := true, recurses := true, apart := false, narrowed := true }
def ItemCutsUptoSaid : Prop := itemCutsUptoRow.holds Try.pinned (OpenSpec.upto itemCutsSpec)

end Rows
end Go.Proofs.Ytpifigalaembdaa
