/-
  No cell of these rows narrows 'for every input' (looked for: loops, veiled, ifaces, maps, wideKeys, modest, calm, conditions, laid).
  DERIVED. THE GIVEN ROWS OF THIS SEAT. 5 by the template 'for every input the law returns true; each argument reads behind the call as it read before'; 0 by the template 'total and deterministic' (their statements: YtnbdijifhimogaaTotals.lean).
  GIVEN WITH THE SEED: the statements are not yours to turn. If you find one false, say at which input.
  Laid BY PROGRAM, IN A SANDBOX (cutbox-rows.mjs): the forced cells as the released guide's own fill.sh prints them over the translation 3988543ff2c54834… (all of the seat's roots in one cut). By AI agents, Wed Nov 11 2026. No macro, syntax, notation, axiom, sorry.
-/
import Derived.Test.YtnbdijifhimogaaChecked
import GoSem.Claim
import GoSem.ClaimJoined
import GoSem.ClaimMapViews
import Derived.JoinedTies
import Derived.KernelRfl
namespace Go.Proofs.Ytnbdijifhimogaa
/- THE CELL 'sum', in the pinned program and in every row, IS THE sha256 OF THE DUMP (.gsa) THAT YtnbdijifhimogaaProg.lean LOADS. Nothing in Lean hashes anything: it is a label: what it is worth is what the hold of that sum in a sandbox is worth. -/
noncomputable def Try.pinned : Pinned := { name := "ytnbdijifhimogaa", sum := "3988543ff2c54834391937245650c364f915ec35eb27a797aa6c8dbd20e63ede", checked := Try.checked }
namespace Rows
def none {H : Type} : Left H := { results := [], args := [] }

/-- 'clepsydralaw20.MsgKinds': WHATEVER THE INPUT: true; the input reads as it did. -/
def msgKindsSpec : ChangeSpec := { name := "msgKinds", fn := fun _ => fun
  | [d1, d2, d3, d4] => { results := [.lit (.bool true)], args := [d1, d2, d3, d4] }
  | _ => none }
def msgKindsRow : OpenClaim := { program := "ytnbdijifhimogaa", sum := "3988543ff2c54834391937245650c364f915ec35eb27a797aa6c8dbd20e63ede", func := "clepsydra/clepsydralaw20.MsgKinds", spec := "msgKinds", unfollowed := true, recurses := true, apart := false }
def MsgKindsSaid : Prop := msgKindsRow.holds Try.pinned (OpenSpec.ofChange msgKindsSpec)

/-- ITS FALSE NEIGHBOUR: 'it returns false'. Refute it at one input. -/
def msgKindsWrong : ChangeSpec := { name := "msgKinds", fn := fun _ => fun
  | [d1, d2, d3, d4] => { results := [.lit (.bool false)], args := [d1, d2, d3, d4] }
  | _ => none }
def MsgKindsWrongFalsely : Prop := msgKindsRow.holds Try.pinned (OpenSpec.ofChange msgKindsWrong)

/-- 'clepsydralaw20.MsgRows': WHATEVER THE INPUT: true; the input reads as it did. -/
def msgRowsSpec : ChangeSpec := { name := "msgRows", fn := fun _ => fun
  | [d1, d2] => { results := [.lit (.bool true)], args := [d1, d2] }
  | _ => none }
def msgRowsRow : OpenClaim := { program := "ytnbdijifhimogaa", sum := "3988543ff2c54834391937245650c364f915ec35eb27a797aa6c8dbd20e63ede", func := "clepsydra/clepsydralaw20.MsgRows", spec := "msgRows", unfollowed := true, recurses := true, apart := false }
def MsgRowsSaid : Prop := msgRowsRow.holds Try.pinned (OpenSpec.ofChange msgRowsSpec)

/-- ITS FALSE NEIGHBOUR: 'it returns false'. Refute it at one input. -/
def msgRowsWrong : ChangeSpec := { name := "msgRows", fn := fun _ => fun
  | [d1, d2] => { results := [.lit (.bool false)], args := [d1, d2] }
  | _ => none }
def MsgRowsWrongFalsely : Prop := msgRowsRow.holds Try.pinned (OpenSpec.ofChange msgRowsWrong)

/-- 'clepsydralaw20.MsgPuts': WHATEVER THE INPUT: true; the input reads as it did. -/
def msgPutsSpec : ChangeSpec := { name := "msgPuts", fn := fun _ => fun
  | [d1, d2, d3] => { results := [.lit (.bool true)], args := [d1, d2, d3] }
  | _ => none }
def msgPutsRow : OpenClaim := { program := "ytnbdijifhimogaa", sum := "3988543ff2c54834391937245650c364f915ec35eb27a797aa6c8dbd20e63ede", func := "clepsydra/clepsydralaw20.MsgPuts", spec := "msgPuts", unfollowed := true, recurses := true, apart := false }
def MsgPutsSaid : Prop := msgPutsRow.holds Try.pinned (OpenSpec.ofChange msgPutsSpec)

/-- ITS FALSE NEIGHBOUR: 'it returns false'. Refute it at one input. -/
def msgPutsWrong : ChangeSpec := { name := "msgPuts", fn := fun _ => fun
  | [d1, d2, d3] => { results := [.lit (.bool false)], args := [d1, d2, d3] }
  | _ => none }
def MsgPutsWrongFalsely : Prop := msgPutsRow.holds Try.pinned (OpenSpec.ofChange msgPutsWrong)

/-- 'clepsydralaw20.MsgHostile': WHATEVER THE INPUT: true; the input reads as it did. -/
def msgHostileSpec : ChangeSpec := { name := "msgHostile", fn := fun _ => fun
  | [d1, d2, d3, d4, d5, d6] => { results := [.lit (.bool true)], args := [d1, d2, d3, d4, d5, d6] }
  | _ => none }
def msgHostileRow : OpenClaim := { program := "ytnbdijifhimogaa", sum := "3988543ff2c54834391937245650c364f915ec35eb27a797aa6c8dbd20e63ede", func := "clepsydra/clepsydralaw20.MsgHostile", spec := "msgHostile", unfollowed := true, recurses := true, apart := false }
def MsgHostileSaid : Prop := msgHostileRow.holds Try.pinned (OpenSpec.ofChange msgHostileSpec)

/-- ITS FALSE NEIGHBOUR: 'it returns false'. Refute it at one input. -/
def msgHostileWrong : ChangeSpec := { name := "msgHostile", fn := fun _ => fun
  | [d1, d2, d3, d4, d5, d6] => { results := [.lit (.bool false)], args := [d1, d2, d3, d4, d5, d6] }
  | _ => none }
def MsgHostileWrongFalsely : Prop := msgHostileRow.holds Try.pinned (OpenSpec.ofChange msgHostileWrong)

/-- 'clepsydralaw20.MsgBits': WHATEVER THE INPUT: true; the input reads as it did. -/
def msgBitsSpec : ChangeSpec := { name := "msgBits", fn := fun _ => fun
  | [d1, d2, d3, d4] => { results := [.lit (.bool true)], args := [d1, d2, d3, d4] }
  | _ => none }
def msgBitsRow : OpenClaim := { program := "ytnbdijifhimogaa", sum := "3988543ff2c54834391937245650c364f915ec35eb27a797aa6c8dbd20e63ede", func := "clepsydra/clepsydralaw20.MsgBits", spec := "msgBits", unfollowed := true, recurses := true, apart := false }
def MsgBitsSaid : Prop := msgBitsRow.holds Try.pinned (OpenSpec.ofChange msgBitsSpec)

/-- ITS FALSE NEIGHBOUR: 'it returns false'. Refute it at one input. -/
def msgBitsWrong : ChangeSpec := { name := "msgBits", fn := fun _ => fun
  | [d1, d2, d3, d4] => { results := [.lit (.bool false)], args := [d1, d2, d3, d4] }
  | _ => none }
def MsgBitsWrongFalsely : Prop := msgBitsRow.holds Try.pinned (OpenSpec.ofChange msgBitsWrong)

/- THE SECOND FORM. 'bulk': how many values and letters a reading holds, each counted each time it is reached (what is shared counts as often as it is met; a slice's spare places count too). A statement '..UptoSaid' is the law's where the arguments, and the package variables that the reading takes, are together of bulk at most 1048576: NARROWER than '..Said'. Prove '..Said' where nothing that the law and all that it calls make is longer than what came in: it says more and counts as full. Else prove '..UptoSaid'. A law counts once. -/
mutual
def uptoBulk {H : Type} : DataW H → Nat
  | .lit (.string bytes) => bytes.length + 1
  | .lit _ => 1
  | .nil => 1
  | .ptr d => uptoBulk d + 1
  | .slice elems spare => uptoBulkAll elems + uptoBulkAll spare + 1
  | .agg parts => uptoBulkAll parts + 1
  | .iface _ d => uptoBulk d + 1
  | .map entries => uptoBulkEntries entries + 1
  | .held _ => 1
def uptoBulkAll {H : Type} : List (DataW H) → Nat
  | [] => 0
  | d :: r => uptoBulk d + uptoBulkAll r
def uptoBulkEntries {H : Type} : List (Lit × DataW H) → Nat
  | [] => 0
  | x :: r => uptoBulkEntry x + uptoBulkEntries r
def uptoBulkEntry {H : Type} : Lit × DataW H → Nat
  | (.string bytes, d) => bytes.length + uptoBulk d + 1
  | (_, d) => uptoBulk d + 1
 end
def uptoSmall : (H : Type) → List (DataW H) → Bool := fun _ ds => decide (uptoBulkAll ds ≤ 1048576)
def OpenSpec.upto (s : _root_.Go.ChangeSpec) : _root_.Go.OpenSpec := { _root_.Go.OpenSpec.ofChange s with cond := some uptoSmall }

/-- 'clepsydralaw20.MsgKinds', WHERE WHAT IT READS IS OF BULK AT MOST 1048576: true; the input reads as it did. -/
def msgKindsUptoRow : OpenClaim := { program := "ytnbdijifhimogaa", sum := "3988543ff2c54834391937245650c364f915ec35eb27a797aa6c8dbd20e63ede", func := "clepsydra/clepsydralaw20.MsgKinds", spec := "msgKinds", unfollowed := true, recurses := true, apart := false, narrowed := true }
def MsgKindsUptoSaid : Prop := msgKindsUptoRow.holds Try.pinned (OpenSpec.upto msgKindsSpec)

/-- 'clepsydralaw20.MsgRows', WHERE WHAT IT READS IS OF BULK AT MOST 1048576: true; the input reads as it did. -/
def msgRowsUptoRow : OpenClaim := { program := "ytnbdijifhimogaa", sum := "3988543ff2c54834391937245650c364f915ec35eb27a797aa6c8dbd20e63ede", func := "clepsydra/clepsydralaw20.MsgRows", spec := "msgRows", unfollowed := true, recurses := true, apart := false, narrowed := true }
def MsgRowsUptoSaid : Prop := msgRowsUptoRow.holds Try.pinned (OpenSpec.upto msgRowsSpec)

/-- 'clepsydralaw20.MsgPuts', WHERE WHAT IT READS IS OF BULK AT MOST 1048576: true; the input reads as it did. -/
def msgPutsUptoRow : OpenClaim := { program := "ytnbdijifhimogaa", sum := "3988543ff2c54834391937245650c364f915ec35eb27a797aa6c8dbd20e63ede", func := "clepsydra/clepsydralaw20.MsgPuts", spec := "msgPuts", unfollowed := true, recurses := true, apart := false, narrowed := true }
def MsgPutsUptoSaid : Prop := msgPutsUptoRow.holds Try.pinned (OpenSpec.upto msgPutsSpec)

/-- 'clepsydralaw20.MsgHostile', WHERE WHAT IT READS IS OF BULK AT MOST 1048576: true; the input reads as it did. -/
def msgHostileUptoRow : OpenClaim := { program := "ytnbdijifhimogaa", sum := "3988543ff2c54834391937245650c364f915ec35eb27a797aa6c8dbd20e63ede", func := "clepsydra/clepsydralaw20.MsgHostile", spec := "msgHostile", unfollowed := true, recurses := true, apart := false, narrowed := true }
def MsgHostileUptoSaid : Prop := msgHostileUptoRow.holds Try.pinned (OpenSpec.upto msgHostileSpec)

/-- 'clepsydralaw20.MsgBits', WHERE WHAT IT READS IS OF BULK AT MOST 1048576: true; the input reads as it did. -/
def msgBitsUptoRow : OpenClaim := { program := "ytnbdijifhimogaa", sum := "3988543ff2c54834391937245650c364f915ec35eb27a797aa6c8dbd20e63ede", func := "clepsydra/clepsydralaw20.MsgBits", spec := "msgBits", unfollowed := true, recurses := true, apart := false, narrowed := true }
def MsgBitsUptoSaid : Prop := msgBitsUptoRow.holds Try.pinned (OpenSpec.upto msgBitsSpec)

end Rows
end Go.Proofs.Ytnbdijifhimogaa
