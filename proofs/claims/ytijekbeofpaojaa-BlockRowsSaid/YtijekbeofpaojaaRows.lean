/-
  No cell of these rows narrows 'for every input' (looked for: loops, veiled, ifaces, maps, wideKeys, modest, calm, conditions, laid).
  DERIVED. THE GIVEN ROWS OF THIS SEAT. 5 by the template 'for every input the law returns true; each argument reads behind the call as it read before'; 0 by the template 'total and deterministic' (their statements: YtijekbeofpaojaaTotals.lean).
  GIVEN WITH THE SEED: the statements are not yours to turn. If you find one false, say at which input.
  Laid BY PROGRAM, IN A SANDBOX (cutbox-rows.mjs): the forced cells as the released guide's own fill.sh prints them over the translation d181224348c657b0… (all of the seat's roots in one cut). By AI agents, Wed Nov 11 2026. No macro, syntax, notation, axiom, sorry.
-/
import Derived.Test.YtijekbeofpaojaaChecked
import GoSem.Claim
import GoSem.ClaimJoined
import GoSem.ClaimMapViews
import Derived.JoinedTies
import Derived.KernelRfl
namespace Go.Proofs.Ytijekbeofpaojaa
/- THE CELL 'sum', in the pinned program and in every row, IS THE sha256 OF THE DUMP (.gsa) THAT YtijekbeofpaojaaProg.lean LOADS. Nothing in Lean hashes anything: it is a label: what it is worth is what the hold of that sum in a sandbox is worth. -/
noncomputable def Try.pinned : Pinned := { name := "ytijekbeofpaojaa", sum := "d181224348c657b0638cca55ab184515456b59398af2a72c015b73ff020c9f02", checked := Try.checked }
namespace Rows
def none {H : Type} : Left H := { results := [], args := [] }

/-- 'clepsydralaw11.BlockPuts': WHATEVER THE INPUT: true; the input reads as it did. -/
def blockPutsSpec : ChangeSpec := { name := "blockPuts", fn := fun _ => fun
  | [d1, d2, d3] => { results := [.lit (.bool true)], args := [d1, d2, d3] }
  | _ => none }
def blockPutsRow : OpenClaim := { program := "ytijekbeofpaojaa", sum := "d181224348c657b0638cca55ab184515456b59398af2a72c015b73ff020c9f02", func := "clepsydra/clepsydralaw11.BlockPuts", spec := "blockPuts", unfollowed := true, recurses := true, apart := false }
def BlockPutsSaid : Prop := blockPutsRow.holds Try.pinned (OpenSpec.ofChange blockPutsSpec)

/-- ITS FALSE NEIGHBOUR: 'it returns false'. Refute it at one input. -/
def blockPutsWrong : ChangeSpec := { name := "blockPuts", fn := fun _ => fun
  | [d1, d2, d3] => { results := [.lit (.bool false)], args := [d1, d2, d3] }
  | _ => none }
def BlockPutsWrongFalsely : Prop := blockPutsRow.holds Try.pinned (OpenSpec.ofChange blockPutsWrong)

/-- 'clepsydralaw11.BlockBits': WHATEVER THE INPUT: true; the input reads as it did. -/
def blockBitsSpec : ChangeSpec := { name := "blockBits", fn := fun _ => fun
  | [d1, d2, d3, d4] => { results := [.lit (.bool true)], args := [d1, d2, d3, d4] }
  | _ => none }
def blockBitsRow : OpenClaim := { program := "ytijekbeofpaojaa", sum := "d181224348c657b0638cca55ab184515456b59398af2a72c015b73ff020c9f02", func := "clepsydra/clepsydralaw11.BlockBits", spec := "blockBits", unfollowed := true, recurses := true, apart := false }
def BlockBitsSaid : Prop := blockBitsRow.holds Try.pinned (OpenSpec.ofChange blockBitsSpec)

/-- ITS FALSE NEIGHBOUR: 'it returns false'. Refute it at one input. -/
def blockBitsWrong : ChangeSpec := { name := "blockBits", fn := fun _ => fun
  | [d1, d2, d3, d4] => { results := [.lit (.bool false)], args := [d1, d2, d3, d4] }
  | _ => none }
def BlockBitsWrongFalsely : Prop := blockBitsRow.holds Try.pinned (OpenSpec.ofChange blockBitsWrong)

/-- 'clepsydralaw11.BlockRows': WHATEVER THE INPUT: true; the input reads as it did. -/
def blockRowsSpec : ChangeSpec := { name := "blockRows", fn := fun _ => fun
  | [d1, d2, d3] => { results := [.lit (.bool true)], args := [d1, d2, d3] }
  | _ => none }
def blockRowsRow : OpenClaim := { program := "ytijekbeofpaojaa", sum := "d181224348c657b0638cca55ab184515456b59398af2a72c015b73ff020c9f02", func := "clepsydra/clepsydralaw11.BlockRows", spec := "blockRows", unfollowed := true, recurses := true, apart := false }
def BlockRowsSaid : Prop := blockRowsRow.holds Try.pinned (OpenSpec.ofChange blockRowsSpec)

/-- ITS FALSE NEIGHBOUR: 'it returns false'. Refute it at one input. -/
def blockRowsWrong : ChangeSpec := { name := "blockRows", fn := fun _ => fun
  | [d1, d2, d3] => { results := [.lit (.bool false)], args := [d1, d2, d3] }
  | _ => none }
def BlockRowsWrongFalsely : Prop := blockRowsRow.holds Try.pinned (OpenSpec.ofChange blockRowsWrong)

/-- 'clepsydralaw11.BlockRaw': WHATEVER THE INPUT: true; the input reads as it did. -/
def blockRawSpec : ChangeSpec := { name := "blockRaw", fn := fun _ => fun
  | [d1, d2, d3, d4, d5, d6] => { results := [.lit (.bool true)], args := [d1, d2, d3, d4, d5, d6] }
  | _ => none }
def blockRawRow : OpenClaim := { program := "ytijekbeofpaojaa", sum := "d181224348c657b0638cca55ab184515456b59398af2a72c015b73ff020c9f02", func := "clepsydra/clepsydralaw11.BlockRaw", spec := "blockRaw", unfollowed := true, recurses := true, apart := false }
def BlockRawSaid : Prop := blockRawRow.holds Try.pinned (OpenSpec.ofChange blockRawSpec)

/-- ITS FALSE NEIGHBOUR: 'it returns false'. Refute it at one input. -/
def blockRawWrong : ChangeSpec := { name := "blockRaw", fn := fun _ => fun
  | [d1, d2, d3, d4, d5, d6] => { results := [.lit (.bool false)], args := [d1, d2, d3, d4, d5, d6] }
  | _ => none }
def BlockRawWrongFalsely : Prop := blockRawRow.holds Try.pinned (OpenSpec.ofChange blockRawWrong)

/-- 'clepsydralaw11.BlockCuts': WHATEVER THE INPUT: true; the input reads as it did. -/
def blockCutsSpec : ChangeSpec := { name := "blockCuts", fn := fun _ => fun
  | [d1, d2, d3] => { results := [.lit (.bool true)], args := [d1, d2, d3] }
  | _ => none }
def blockCutsRow : OpenClaim := { program := "ytijekbeofpaojaa", sum := "d181224348c657b0638cca55ab184515456b59398af2a72c015b73ff020c9f02", func := "clepsydra/clepsydralaw11.BlockCuts", spec := "blockCuts", unfollowed := true, recurses := true, apart := false }
def BlockCutsSaid : Prop := blockCutsRow.holds Try.pinned (OpenSpec.ofChange blockCutsSpec)

/-- ITS FALSE NEIGHBOUR: 'it returns false'. Refute it at one input. -/
def blockCutsWrong : ChangeSpec := { name := "blockCuts", fn := fun _ => fun
  | [d1, d2, d3] => { results := [.lit (.bool false)], args := [d1, d2, d3] }
  | _ => none }
def BlockCutsWrongFalsely : Prop := blockCutsRow.holds Try.pinned (OpenSpec.ofChange blockCutsWrong)

/- THE SECOND FORM. 'bulk': how many values and letters a reading holds, each counted each time it is reached (what is shared counts as often as it is met; a slice's spare places count too). A statement '..UptoSaid' is the law's where the arguments, and the package variables that the reading takes, are together of bulk at most 1048576: NARROWER than '..Said'. Prove '..Said' where nothing that the law and all that it calls make is longer than what came in: it says more and counts as full. Else prove '..UptoSaid'. A law counts once. -/
mutual
def uptoBulk {H : Type} : DataW H → Nat
  | .lit (.string bytes) => bytes.length + 1
  | .lit _ => 1
  | .nil => 1
  | .ptr d => uptoBulk d + 1
  | .slice elems spare => uptoBulkAll elems + uptoBulkAll spare + 1
  | .agg parts => uptoBulkAll parts + 1
  | .iface _ d => uptoBulk d + 1
  | .map entries => uptoBulkEntries entries + 1
  | .held _ => 1
def uptoBulkAll {H : Type} : List (DataW H) → Nat
  | [] => 0
  | d :: r => uptoBulk d + uptoBulkAll r
def uptoBulkEntries {H : Type} : List (Lit × DataW H) → Nat
  | [] => 0
  | x :: r => uptoBulkEntry x + uptoBulkEntries r
def uptoBulkEntry {H : Type} : Lit × DataW H → Nat
  | (.string bytes, d) => bytes.length + uptoBulk d + 1
  | (_, d) => uptoBulk d + 1
 end
def uptoSmall : (H : Type) → List (DataW H) → Bool := fun _ ds => decide (uptoBulkAll ds ≤ 1048576)
def OpenSpec.upto (s : _root_.Go.ChangeSpec) : _root_.Go.OpenSpec := { _root_.Go.OpenSpec.ofChange s with cond := some uptoSmall }

/-- 'clepsydralaw11.BlockPuts', WHERE WHAT IT READS IS OF BULK AT MOST 1048576: true; the input reads as it did. -/
def blockPutsUptoRow : OpenClaim := { program := "ytijekbeofpaojaa", sum := "d181224348c657b0638cca55ab184515456b59398af2a72c015b73ff020c9f02", func := "clepsydra/clepsydralaw11.BlockPuts", spec := "blockPuts", unfollowed := true, recurses := true, apart := false, narrowed := true }
def BlockPutsUptoSaid : Prop := blockPutsUptoRow.holds Try.pinned (OpenSpec.upto blockPutsSpec)

/-- 'clepsydralaw11.BlockBits', WHERE WHAT IT READS IS OF BULK AT MOST 1048576: true; the input reads as it did. -/
def blockBitsUptoRow : OpenClaim := { program := "ytijekbeofpaojaa", sum := "d181224348c657b0638cca55ab184515456b59398af2a72c015b73ff020c9f02", func := "clepsydra/clepsydralaw11.BlockBits", spec := "blockBits", unfollowed := true, recurses := true, apart := false, narrowed := true }
def BlockBitsUptoSaid : Prop := blockBitsUptoRow.holds Try.pinned (OpenSpec.upto blockBitsSpec)

/-- 'clepsydralaw11.BlockRows', WHERE WHAT IT READS IS OF BULK AT MOST 1048576: true; the input reads as it did. -/
def blockRowsUptoRow : OpenClaim := { program := "ytijekbeofpaojaa", sum := "d181224348c657b0638cca55ab184515456b59398af2a72c015b73ff020c9f02", func := "clepsydra/clepsydralaw11.BlockRows", spec := "blockRows", unfollowed := true, recurses := true, apart := false, narrowed := true }
def BlockRowsUptoSaid : Prop := blockRowsUptoRow.holds Try.pinned (OpenSpec.upto blockRowsSpec)

/-- 'clepsydralaw11.BlockRaw', WHERE WHAT IT READS IS OF BULK AT MOST 1048576: true; the input reads as it did. -/
def blockRawUptoRow : OpenClaim := { program := "ytijekbeofpaojaa", sum := "d181224348c657b0638cca55ab184515456b59398af2a72c015b73ff020c9f02", func := "clepsydra/clepsydralaw11.BlockRaw", spec := "blockRaw", unfollowed := true, recurses := true, apart := false, narrowed := true }
def BlockRawUptoSaid : Prop := blockRawUptoRow.holds Try.pinned (OpenSpec.upto blockRawSpec)

/-- 'clepsydralaw11.BlockCuts', WHERE WHAT IT READS IS OF BULK AT MOST 1048576: true; the input reads as it did. -/
def blockCutsUptoRow : OpenClaim := { program := "ytijekbeofpaojaa", sum := "d181224348c657b0638cca55ab184515456b59398af2a72c015b73ff020c9f02", func := "clepsydra/clepsydralaw11.BlockCuts", spec := "blockCuts", unfollowed := true, recurses := true, apart := false, narrowed := true }
def BlockCutsUptoSaid : Prop := blockCutsUptoRow.holds Try.pinned (OpenSpec.upto blockCutsSpec)

end Rows
end Go.Proofs.Ytijekbeofpaojaa
