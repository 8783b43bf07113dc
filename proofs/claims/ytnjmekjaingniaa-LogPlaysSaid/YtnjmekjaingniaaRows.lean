/-
  No cell of these rows narrows 'for every input' (looked for: loops, veiled, ifaces, maps, wideKeys, modest, calm, conditions, laid).
  DERIVED. THE GIVEN ROWS OF THIS SEAT. 7 by the template 'for every input the law returns true; each argument reads behind the call as it read before'; 0 by the template 'total and deterministic' (their statements: YtnjmekjaingniaaTotals.lean).
  GIVEN WITH THE SEED: the statements are not yours to turn. If you find one false, say at which input.
  Laid BY PROGRAM, IN A SANDBOX (cutbox-rows.mjs): the forced cells as the released guide's own fill.sh prints them over the translation 0badff6afc9c073d… (all of the seat's roots in one cut). By AI agents, Wed Nov 11 2026. No macro, syntax, notation, axiom, sorry.
-/
import Derived.Test.YtnjmekjaingniaaChecked
import GoSem.Claim
import GoSem.ClaimJoined
import GoSem.ClaimMapViews
import Derived.JoinedTies
import Derived.KernelRfl
namespace Go.Proofs.Ytnjmekjaingniaa
/- THE CELL 'sum', in the pinned program and in every row, IS THE sha256 OF THE DUMP (.gsa) THAT YtnjmekjaingniaaProg.lean LOADS. Nothing in Lean hashes anything: it is a label: what it is worth is what the hold of that sum in a sandbox is worth. -/
noncomputable def Try.pinned : Pinned := { name := "ytnjmekjaingniaa", sum := "0badff6afc9c073d8bf15925e74dc65614f5bfef825e2b410d1449aa22c70ade", checked := Try.checked }
namespace Rows
def none {H : Type} : Left H := { results := [], args := [] }

/-- 'clepsydralaw14.LogBounds': WHATEVER THE INPUT: true; the input reads as it did. -/
def logBoundsSpec : ChangeSpec := { name := "logBounds", fn := fun _ => fun
  | [d1, d2, d3] => { results := [.lit (.bool true)], args := [d1, d2, d3] }
  | _ => none }
def logBoundsRow : OpenClaim := { program := "ytnjmekjaingniaa", sum := "0badff6afc9c073d8bf15925e74dc65614f5bfef825e2b410d1449aa22c70ade", func := "clepsydra/clepsydralaw14.LogBounds", spec := "logBounds", inPlace := ["sync/atomic.AddInt64", "sync/atomic.LoadInt64"], unfollowed := true, recurses := true, apart := false }
def LogBoundsSaid : Prop := logBoundsRow.holds Try.pinned (OpenSpec.ofChange logBoundsSpec)

/-- ITS FALSE NEIGHBOUR: 'it returns false'. Refute it at one input. -/
def logBoundsWrong : ChangeSpec := { name := "logBounds", fn := fun _ => fun
  | [d1, d2, d3] => { results := [.lit (.bool false)], args := [d1, d2, d3] }
  | _ => none }
def LogBoundsWrongFalsely : Prop := logBoundsRow.holds Try.pinned (OpenSpec.ofChange logBoundsWrong)

/-- 'clepsydralaw14.LogJoins': WHATEVER THE INPUT: true; the input reads as it did. -/
def logJoinsSpec : ChangeSpec := { name := "logJoins", fn := fun _ => fun
  | [d1, d2] => { results := [.lit (.bool true)], args := [d1, d2] }
  | _ => none }
def logJoinsRow : OpenClaim := { program := "ytnjmekjaingniaa", sum := "0badff6afc9c073d8bf15925e74dc65614f5bfef825e2b410d1449aa22c70ade", func := "clepsydra/clepsydralaw14.LogJoins", spec := "logJoins", inPlace := ["sync/atomic.AddInt64", "sync/atomic.LoadInt64"], unfollowed := true, recurses := true, apart := false }
def LogJoinsSaid : Prop := logJoinsRow.holds Try.pinned (OpenSpec.ofChange logJoinsSpec)

/-- ITS FALSE NEIGHBOUR: 'it returns false'. Refute it at one input. -/
def logJoinsWrong : ChangeSpec := { name := "logJoins", fn := fun _ => fun
  | [d1, d2] => { results := [.lit (.bool false)], args := [d1, d2] }
  | _ => none }
def LogJoinsWrongFalsely : Prop := logJoinsRow.holds Try.pinned (OpenSpec.ofChange logJoinsWrong)

/-- 'clepsydralaw14.LogBatches': WHATEVER THE INPUT: true; the input reads as it did. -/
def logBatchesSpec : ChangeSpec := { name := "logBatches", fn := fun _ => fun
  | [d1, d2, d3, d4, d5, d6] => { results := [.lit (.bool true)], args := [d1, d2, d3, d4, d5, d6] }
  | _ => none }
def logBatchesRow : OpenClaim := { program := "ytnjmekjaingniaa", sum := "0badff6afc9c073d8bf15925e74dc65614f5bfef825e2b410d1449aa22c70ade", func := "clepsydra/clepsydralaw14.LogBatches", spec := "logBatches", inPlace := ["sync/atomic.AddInt64", "sync/atomic.LoadInt64"], unfollowed := true, recurses := true, apart := false }
def LogBatchesSaid : Prop := logBatchesRow.holds Try.pinned (OpenSpec.ofChange logBatchesSpec)

/-- ITS FALSE NEIGHBOUR: 'it returns false'. Refute it at one input. -/
def logBatchesWrong : ChangeSpec := { name := "logBatches", fn := fun _ => fun
  | [d1, d2, d3, d4, d5, d6] => { results := [.lit (.bool false)], args := [d1, d2, d3, d4, d5, d6] }
  | _ => none }
def LogBatchesWrongFalsely : Prop := logBatchesRow.holds Try.pinned (OpenSpec.ofChange logBatchesWrong)

/-- 'clepsydralaw14.LogCuts': WHATEVER THE INPUT: true; the input reads as it did. -/
def logCutsSpec : ChangeSpec := { name := "logCuts", fn := fun _ => fun
  | [d1, d2] => { results := [.lit (.bool true)], args := [d1, d2] }
  | _ => none }
def logCutsRow : OpenClaim := { program := "ytnjmekjaingniaa", sum := "0badff6afc9c073d8bf15925e74dc65614f5bfef825e2b410d1449aa22c70ade", func := "clepsydra/clepsydralaw14.LogCuts", spec := "logCuts", inPlace := ["sync/atomic.AddInt64", "sync/atomic.LoadInt64"], unfollowed := true, recurses := true, apart := false }
def LogCutsSaid : Prop := logCutsRow.holds Try.pinned (OpenSpec.ofChange logCutsSpec)

/-- ITS FALSE NEIGHBOUR: 'it returns false'. Refute it at one input. -/
def logCutsWrong : ChangeSpec := { name := "logCuts", fn := fun _ => fun
  | [d1, d2] => { results := [.lit (.bool false)], args := [d1, d2] }
  | _ => none }
def LogCutsWrongFalsely : Prop := logCutsRow.holds Try.pinned (OpenSpec.ofChange logCutsWrong)

/-- 'clepsydralaw14.LogTurned': WHATEVER THE INPUT: true; the input reads as it did. -/
def logTurnedSpec : ChangeSpec := { name := "logTurned", fn := fun _ => fun
  | [d1, d2, d3, d4, d5] => { results := [.lit (.bool true)], args := [d1, d2, d3, d4, d5] }
  | _ => none }
def logTurnedRow : OpenClaim := { program := "ytnjmekjaingniaa", sum := "0badff6afc9c073d8bf15925e74dc65614f5bfef825e2b410d1449aa22c70ade", func := "clepsydra/clepsydralaw14.LogTurned", spec := "logTurned", inPlace := ["sync/atomic.AddInt64", "sync/atomic.LoadInt64"], unfollowed := true, recurses := true, apart := false }
def LogTurnedSaid : Prop := logTurnedRow.holds Try.pinned (OpenSpec.ofChange logTurnedSpec)

/-- ITS FALSE NEIGHBOUR: 'it returns false'. Refute it at one input. -/
def logTurnedWrong : ChangeSpec := { name := "logTurned", fn := fun _ => fun
  | [d1, d2, d3, d4, d5] => { results := [.lit (.bool false)], args := [d1, d2, d3, d4, d5] }
  | _ => none }
def LogTurnedWrongFalsely : Prop := logTurnedRow.holds Try.pinned (OpenSpec.ofChange logTurnedWrong)

/-- 'clepsydralaw14.LogOpens': WHATEVER THE INPUT: true; the input reads as it did. -/
def logOpensSpec : ChangeSpec := { name := "logOpens", fn := fun _ => fun
  | [d1, d2] => { results := [.lit (.bool true)], args := [d1, d2] }
  | _ => none }
def logOpensRow : OpenClaim := { program := "ytnjmekjaingniaa", sum := "0badff6afc9c073d8bf15925e74dc65614f5bfef825e2b410d1449aa22c70ade", func := "clepsydra/clepsydralaw14.LogOpens", spec := "logOpens", inPlace := ["sync/atomic.AddInt64", "sync/atomic.LoadInt64", "sync/atomic.StoreInt64"], unfollowed := true, recurses := true, apart := false }
def LogOpensSaid : Prop := logOpensRow.holds Try.pinned (OpenSpec.ofChange logOpensSpec)

/-- ITS FALSE NEIGHBOUR: 'it returns false'. Refute it at one input. -/
def logOpensWrong : ChangeSpec := { name := "logOpens", fn := fun _ => fun
  | [d1, d2] => { results := [.lit (.bool false)], args := [d1, d2] }
  | _ => none }
def LogOpensWrongFalsely : Prop := logOpensRow.holds Try.pinned (OpenSpec.ofChange logOpensWrong)

/-- 'clepsydralaw14.LogPlays': WHATEVER THE INPUT: true; the input reads as it did. -/
def logPlaysSpec : ChangeSpec := { name := "logPlays", fn := fun _ => fun
  | [d1, d2, d3, d4] => { results := [.lit (.bool true)], args := [d1, d2, d3, d4] }
  | _ => none }
def logPlaysRow : OpenClaim := { program := "ytnjmekjaingniaa", sum := "0badff6afc9c073d8bf15925e74dc65614f5bfef825e2b410d1449aa22c70ade", func := "clepsydra/clepsydralaw14.LogPlays", spec := "logPlays", inPlace := ["sync/atomic.AddInt64", "sync/atomic.LoadInt64", "maps.clone", "sync/atomic.StoreInt64"], unfollowed := true, recurses := true, apart := false }
def LogPlaysSaid : Prop := logPlaysRow.holds Try.pinned (OpenSpec.ofChange logPlaysSpec)

/-- ITS FALSE NEIGHBOUR: 'it returns false'. Refute it at one input. -/
def logPlaysWrong : ChangeSpec := { name := "logPlays", fn := fun _ => fun
  | [d1, d2, d3, d4] => { results := [.lit (.bool false)], args := [d1, d2, d3, d4] }
  | _ => none }
def LogPlaysWrongFalsely : Prop := logPlaysRow.holds Try.pinned (OpenSpec.ofChange logPlaysWrong)

/- THE SECOND FORM. 'bulk': how many values and letters a reading holds, each counted each time it is reached (what is shared counts as often as it is met; a slice's spare places count too). A statement '..UptoSaid' is the law's where the arguments, and the package variables that the reading takes, are together of bulk at most 1048576: NARROWER than '..Said'. Prove '..Said' where nothing that the law and all that it calls make is longer than what came in: it says more and counts as full. Else prove '..UptoSaid'. A law counts once. -/
mutual
def uptoBulk {H : Type} : DataW H → Nat
  | .lit (.string bytes) => bytes.length + 1
  | .lit _ => 1
  | .nil => 1
  | .ptr d => uptoBulk d + 1
  | .slice elems spare => uptoBulkAll elems + uptoBulkAll spare + 1
  | .agg parts => uptoBulkAll parts + 1
  | .iface _ d => uptoBulk d + 1
  | .map entries => uptoBulkEntries entries + 1
  | .held _ => 1
def uptoBulkAll {H : Type} : List (DataW H) → Nat
  | [] => 0
  | d :: r => uptoBulk d + uptoBulkAll r
def uptoBulkEntries {H : Type} : List (Lit × DataW H) → Nat
  | [] => 0
  | x :: r => uptoBulkEntry x + uptoBulkEntries r
def uptoBulkEntry {H : Type} : Lit × DataW H → Nat
  | (.string bytes, d) => bytes.length + uptoBulk d + 1
  | (_, d) => uptoBulk d + 1
 end
def uptoSmall : (H : Type) → List (DataW H) → Bool := fun _ ds => decide (uptoBulkAll ds ≤ 1048576)
def OpenSpec.upto (s : _root_.Go.ChangeSpec) : _root_.Go.OpenSpec := { _root_.Go.OpenSpec.ofChange s with cond := some uptoSmall }

/-- 'clepsydralaw14.LogBounds', WHERE WHAT IT READS IS OF BULK AT MOST 1048576: true; the input reads as it did. -/
def logBoundsUptoRow : OpenClaim := { program := "ytnjmekjaingniaa", sum := "0badff6afc9c073d8bf15925e74dc65614f5bfef825e2b410d1449aa22c70ade", func := "clepsydra/clepsydralaw14.LogBounds", spec := "logBounds", inPlace := ["sync/atomic.AddInt64", "sync/atomic.LoadInt64"], unfollowed := true, recurses := true, apart := false, narrowed := true }
def LogBoundsUptoSaid : Prop := logBoundsUptoRow.holds Try.pinned (OpenSpec.upto logBoundsSpec)

/-- 'clepsydralaw14.LogJoins', WHERE WHAT IT READS IS OF BULK AT MOST 1048576: true; the input reads as it did. -/
def logJoinsUptoRow : OpenClaim := { program := "ytnjmekjaingniaa", sum := "0badff6afc9c073d8bf15925e74dc65614f5bfef825e2b410d1449aa22c70ade", func := "clepsydra/clepsydralaw14.LogJoins", spec := "logJoins", inPlace := ["sync/atomic.AddInt64", "sync/atomic.LoadInt64"], unfollowed := true, recurses := true, apart := false, narrowed := true }
def LogJoinsUptoSaid : Prop := logJoinsUptoRow.holds Try.pinned (OpenSpec.upto logJoinsSpec)

/-- 'clepsydralaw14.LogBatches', WHERE WHAT IT READS IS OF BULK AT MOST 1048576: true; the input reads as it did. -/
def logBatchesUptoRow : OpenClaim := { program := "ytnjmekjaingniaa", sum := "0badff6afc9c073d8bf15925e74dc65614f5bfef825e2b410d1449aa22c70ade", func := "clepsydra/clepsydralaw14.LogBatches", spec := "logBatches", inPlace := ["sync/atomic.AddInt64", "sync/atomic.LoadInt64"], unfollowed := true, recurses := true, apart := false, narrowed := true }
def LogBatchesUptoSaid : Prop := logBatchesUptoRow.holds Try.pinned (OpenSpec.upto logBatchesSpec)

/-- 'clepsydralaw14.LogCuts', WHERE WHAT IT READS IS OF BULK AT MOST 1048576: true; the input reads as it did. -/
def logCutsUptoRow : OpenClaim := { program := "ytnjmekjaingniaa", sum := "0badff6afc9c073d8bf15925e74dc65614f5bfef825e2b410d1449aa22c70ade", func := "clepsydra/clepsydralaw14.LogCuts", spec := "logCuts", inPlace := ["sync/atomic.AddInt64", "sync/atomic.LoadInt64"], unfollowed := true, recurses := true, apart := false, narrowed := true }
def LogCutsUptoSaid : Prop := logCutsUptoRow.holds Try.pinned (OpenSpec.upto logCutsSpec)

/-- 'clepsydralaw14.LogTurned', WHERE WHAT IT READS IS OF BULK AT MOST 1048576: true; the input reads as it did. -/
def logTurnedUptoRow : OpenClaim := { program := "ytnjmekjaingniaa", sum := "0badff6afc9c073d8bf15925e74dc65614f5bfef825e2b410d1449aa22c70ade", func := "clepsydra/clepsydralaw14.LogTurned", spec := "logTurned", inPlace := ["sync/atomic.AddInt64", "sync/atomic.LoadInt64"], unfollowed := true, recurses := true, apart := false, narrowed := true }
def LogTurnedUptoSaid : Prop := logTurnedUptoRow.holds Try.pinned (OpenSpec.upto logTurnedSpec)

/-- 'clepsydralaw14.LogOpens', WHERE WHAT IT READS IS OF BULK AT MOST 1048576: true; the input reads as it did. -/
def logOpensUptoRow : OpenClaim := { program := "ytnjmekjaingniaa", sum := "0badff6afc9c073d8bf15925e74dc65614f5bfef825e2b410d1449aa22c70ade", func := "clepsydra/clepsydralaw14.LogOpens", spec := "logOpens", inPlace := ["sync/atomic.AddInt64", "sync/atomic.LoadInt64", "sync/atomic.StoreInt64"], unfollowed := true, recurses := true, apart := false, narrowed := true }
def LogOpensUptoSaid : Prop := logOpensUptoRow.holds Try.pinned (OpenSpec.upto logOpensSpec)

/-- 'clepsydralaw14.LogPlays', WHERE WHAT IT READS IS OF BULK AT MOST 1048576: true; the input reads as it did. -/
def logPlaysUptoRow : OpenClaim := { program := "ytnjmekjaingniaa", sum := "0badff6afc9c073d8bf15925e74dc65614f5bfef825e2b410d1449aa22c70ade", func := "clepsydra/clepsydralaw14.LogPlays", spec := "logPlays", inPlace := ["sync/atomic.AddInt64", "sync/atomic.LoadInt64", "maps.clone", "sync/atomic.StoreInt64"], unfollowed := true, recurses := true, apart := false, narrowed := true }
def LogPlaysUptoSaid : Prop := logPlaysUptoRow.holds Try.pinned (OpenSpec.upto logPlaysSpec)

end Rows
end Go.Proofs.Ytnjmekjaingniaa
