/-
  No cell of these rows narrows 'for every input' (looked for: loops, veiled, ifaces, maps, wideKeys, modest, calm, conditions, laid).
  DERIVED. THE GIVEN ROWS OF THIS SEAT. 9 by the template 'for every input the law returns true; each argument reads behind the call as it read before'; 0 by the template 'total and deterministic' (their statements: YtebhhfmekmpnkaaTotals.lean).
  GIVEN WITH THE SEED: the statements are not yours to turn. If you find one false, say at which input.
  Laid BY PROGRAM, IN A SANDBOX (cutbox-rows.mjs): the forced cells as the released guide's own fill.sh prints them over the translation b47b4d792768b0cc… (all of the seat's roots in one cut). By AI agents, Wed Nov 11 2026. No macro, syntax, notation, axiom, sorry.
-/
import Derived.Test.YtebhhfmekmpnkaaChecked
import GoSem.Claim
import GoSem.ClaimJoined
import GoSem.ClaimMapViews
import Derived.JoinedTies
import Derived.KernelRfl
namespace Go.Proofs.Ytebhhfmekmpnkaa
/- THE CELL 'sum', in the pinned program and in every row, IS THE sha256 OF THE DUMP (.gsa) THAT YtebhhfmekmpnkaaProg.lean LOADS. Nothing in Lean hashes anything: it is a label: what it is worth is what the hold of that sum in a sandbox is worth. -/
noncomputable def Try.pinned : Pinned := { name := "ytebhhfmekmpnkaa", sum := "b47b4d792768b0ccc47d93ad2cdd01e99aec7bf9f9f34bfa798c78e75cdbb53e", checked := Try.checked }
namespace Rows
def none {H : Type} : Left H := { results := [], args := [] }

/-- 'clepsydralaw4.DiskStops': WHATEVER THE INPUT: true; the input reads as it did. -/
def diskStopsSpec : ChangeSpec := { name := "diskStops", fn := fun _ => fun
  | [d1, d2, d3] => { results := [.lit (.bool true)], args := [d1, d2, d3] }
  | _ => none }
def diskStopsRow : OpenClaim := { program := "ytebhhfmekmpnkaa", sum := "b47b4d792768b0ccc47d93ad2cdd01e99aec7bf9f9f34bfa798c78e75cdbb53e", func := "clepsydra/clepsydralaw4.DiskStops", spec := "diskStops", inPlace := ["sync/atomic.AddInt64", "maps.clone", "sync/atomic.LoadInt64"], unfollowed := true, recurses := true, apart := false }
def DiskStopsSaid : Prop := diskStopsRow.holds Try.pinned (OpenSpec.ofChange diskStopsSpec)

/-- ITS FALSE NEIGHBOUR: 'it returns false'. Refute it at one input. -/
def diskStopsWrong : ChangeSpec := { name := "diskStops", fn := fun _ => fun
  | [d1, d2, d3] => { results := [.lit (.bool false)], args := [d1, d2, d3] }
  | _ => none }
def DiskStopsWrongFalsely : Prop := diskStopsRow.holds Try.pinned (OpenSpec.ofChange diskStopsWrong)

/-- 'clepsydralaw4.DiskLent': WHATEVER THE INPUT: true; the input reads as it did. -/
def diskLentSpec : ChangeSpec := { name := "diskLent", fn := fun _ => fun
  | [d1, d2] => { results := [.lit (.bool true)], args := [d1, d2] }
  | _ => none }
def diskLentRow : OpenClaim := { program := "ytebhhfmekmpnkaa", sum := "b47b4d792768b0ccc47d93ad2cdd01e99aec7bf9f9f34bfa798c78e75cdbb53e", func := "clepsydra/clepsydralaw4.DiskLent", spec := "diskLent", inPlace := ["sync/atomic.AddInt64", "maps.clone", "sync/atomic.LoadInt64"], unfollowed := true, recurses := true, apart := false }
def DiskLentSaid : Prop := diskLentRow.holds Try.pinned (OpenSpec.ofChange diskLentSpec)

/-- ITS FALSE NEIGHBOUR: 'it returns false'. Refute it at one input. -/
def diskLentWrong : ChangeSpec := { name := "diskLent", fn := fun _ => fun
  | [d1, d2] => { results := [.lit (.bool false)], args := [d1, d2] }
  | _ => none }
def DiskLentWrongFalsely : Prop := diskLentRow.holds Try.pinned (OpenSpec.ofChange diskLentWrong)

/-- 'clepsydralaw4.DiskNever': WHATEVER THE INPUT: true; the input reads as it did. -/
def diskNeverSpec : ChangeSpec := { name := "diskNever", fn := fun _ => fun
  | [d] => { results := [.lit (.bool true)], args := [d] }
  | _ => none }
def diskNeverRow : OpenClaim := { program := "ytebhhfmekmpnkaa", sum := "b47b4d792768b0ccc47d93ad2cdd01e99aec7bf9f9f34bfa798c78e75cdbb53e", func := "clepsydra/clepsydralaw4.DiskNever", spec := "diskNever", inPlace := ["sync/atomic.AddInt64", "maps.clone", "sync/atomic.LoadInt64"], unfollowed := true, recurses := true, apart := false }
def DiskNeverSaid : Prop := diskNeverRow.holds Try.pinned (OpenSpec.ofChange diskNeverSpec)

/-- ITS FALSE NEIGHBOUR: 'it returns false'. Refute it at one input. -/
def diskNeverWrong : ChangeSpec := { name := "diskNever", fn := fun _ => fun
  | [d] => { results := [.lit (.bool false)], args := [d] }
  | _ => none }
def DiskNeverWrongFalsely : Prop := diskNeverRow.holds Try.pinned (OpenSpec.ofChange diskNeverWrong)

/-- 'clepsydralaw4.DiskLasts': WHATEVER THE INPUT: true; the input reads as it did. -/
def diskLastsSpec : ChangeSpec := { name := "diskLasts", fn := fun _ => fun
  | [d1, d2, d3] => { results := [.lit (.bool true)], args := [d1, d2, d3] }
  | _ => none }
def diskLastsRow : OpenClaim := { program := "ytebhhfmekmpnkaa", sum := "b47b4d792768b0ccc47d93ad2cdd01e99aec7bf9f9f34bfa798c78e75cdbb53e", func := "clepsydra/clepsydralaw4.DiskLasts", spec := "diskLasts", inPlace := ["sync/atomic.AddInt64", "maps.clone", "sync/atomic.LoadInt64"], unfollowed := true, recurses := true, apart := false }
def DiskLastsSaid : Prop := diskLastsRow.holds Try.pinned (OpenSpec.ofChange diskLastsSpec)

/-- ITS FALSE NEIGHBOUR: 'it returns false'. Refute it at one input. -/
def diskLastsWrong : ChangeSpec := { name := "diskLasts", fn := fun _ => fun
  | [d1, d2, d3] => { results := [.lit (.bool false)], args := [d1, d2, d3] }
  | _ => none }
def DiskLastsWrongFalsely : Prop := diskLastsRow.holds Try.pinned (OpenSpec.ofChange diskLastsWrong)

/-- 'clepsydralaw4.DiskQuota': WHATEVER THE INPUT: true; the input reads as it did. -/
def diskQuotaSpec : ChangeSpec := { name := "diskQuota", fn := fun _ => fun
  | [d1, d2] => { results := [.lit (.bool true)], args := [d1, d2] }
  | _ => none }
def diskQuotaRow : OpenClaim := { program := "ytebhhfmekmpnkaa", sum := "b47b4d792768b0ccc47d93ad2cdd01e99aec7bf9f9f34bfa798c78e75cdbb53e", func := "clepsydra/clepsydralaw4.DiskQuota", spec := "diskQuota", inPlace := ["sync/atomic.AddInt64", "maps.clone", "sync/atomic.LoadInt64"], unfollowed := true, recurses := true, apart := false }
def DiskQuotaSaid : Prop := diskQuotaRow.holds Try.pinned (OpenSpec.ofChange diskQuotaSpec)

/-- ITS FALSE NEIGHBOUR: 'it returns false'. Refute it at one input. -/
def diskQuotaWrong : ChangeSpec := { name := "diskQuota", fn := fun _ => fun
  | [d1, d2] => { results := [.lit (.bool false)], args := [d1, d2] }
  | _ => none }
def DiskQuotaWrongFalsely : Prop := diskQuotaRow.holds Try.pinned (OpenSpec.ofChange diskQuotaWrong)

/-- 'clepsydralaw4.DiskSwaps': WHATEVER THE INPUT: true; the input reads as it did. -/
def diskSwapsSpec : ChangeSpec := { name := "diskSwaps", fn := fun _ => fun
  | [d1, d2, d3, d4] => { results := [.lit (.bool true)], args := [d1, d2, d3, d4] }
  | _ => none }
def diskSwapsRow : OpenClaim := { program := "ytebhhfmekmpnkaa", sum := "b47b4d792768b0ccc47d93ad2cdd01e99aec7bf9f9f34bfa798c78e75cdbb53e", func := "clepsydra/clepsydralaw4.DiskSwaps", spec := "diskSwaps", inPlace := ["sync/atomic.AddInt64", "maps.clone", "sync/atomic.LoadInt64"], unfollowed := true, recurses := true, apart := false }
def DiskSwapsSaid : Prop := diskSwapsRow.holds Try.pinned (OpenSpec.ofChange diskSwapsSpec)

/-- ITS FALSE NEIGHBOUR: 'it returns false'. Refute it at one input. -/
def diskSwapsWrong : ChangeSpec := { name := "diskSwaps", fn := fun _ => fun
  | [d1, d2, d3, d4] => { results := [.lit (.bool false)], args := [d1, d2, d3, d4] }
  | _ => none }
def DiskSwapsWrongFalsely : Prop := diskSwapsRow.holds Try.pinned (OpenSpec.ofChange diskSwapsWrong)

/-- 'clepsydralaw4.DiskNames': WHATEVER THE INPUT: true; the input reads as it did. -/
def diskNamesSpec : ChangeSpec := { name := "diskNames", fn := fun _ => fun
  | [d1, d2, d3] => { results := [.lit (.bool true)], args := [d1, d2, d3] }
  | _ => none }
def diskNamesRow : OpenClaim := { program := "ytebhhfmekmpnkaa", sum := "b47b4d792768b0ccc47d93ad2cdd01e99aec7bf9f9f34bfa798c78e75cdbb53e", func := "clepsydra/clepsydralaw4.DiskNames", spec := "diskNames", inPlace := ["sync/atomic.AddInt64", "maps.clone", "sync/atomic.LoadInt64"], unfollowed := true, recurses := true, apart := false }
def DiskNamesSaid : Prop := diskNamesRow.holds Try.pinned (OpenSpec.ofChange diskNamesSpec)

/-- ITS FALSE NEIGHBOUR: 'it returns false'. Refute it at one input. -/
def diskNamesWrong : ChangeSpec := { name := "diskNames", fn := fun _ => fun
  | [d1, d2, d3] => { results := [.lit (.bool false)], args := [d1, d2, d3] }
  | _ => none }
def DiskNamesWrongFalsely : Prop := diskNamesRow.holds Try.pinned (OpenSpec.ofChange diskNamesWrong)

/-- 'clepsydralaw4.DiskCopies': WHATEVER THE INPUT: true; the input reads as it did. -/
def diskCopiesSpec : ChangeSpec := { name := "diskCopies", fn := fun _ => fun
  | [d1, d2] => { results := [.lit (.bool true)], args := [d1, d2] }
  | _ => none }
def diskCopiesRow : OpenClaim := { program := "ytebhhfmekmpnkaa", sum := "b47b4d792768b0ccc47d93ad2cdd01e99aec7bf9f9f34bfa798c78e75cdbb53e", func := "clepsydra/clepsydralaw4.DiskCopies", spec := "diskCopies", inPlace := ["sync/atomic.AddInt64", "maps.clone", "sync/atomic.LoadInt64", "sync/atomic.StoreInt64"], unfollowed := true, recurses := true, apart := false }
def DiskCopiesSaid : Prop := diskCopiesRow.holds Try.pinned (OpenSpec.ofChange diskCopiesSpec)

/-- ITS FALSE NEIGHBOUR: 'it returns false'. Refute it at one input. -/
def diskCopiesWrong : ChangeSpec := { name := "diskCopies", fn := fun _ => fun
  | [d1, d2] => { results := [.lit (.bool false)], args := [d1, d2] }
  | _ => none }
def DiskCopiesWrongFalsely : Prop := diskCopiesRow.holds Try.pinned (OpenSpec.ofChange diskCopiesWrong)

/-- 'clepsydralaw4.DiskPlays': WHATEVER THE INPUT: true; the input reads as it did. -/
def diskPlaysSpec : ChangeSpec := { name := "diskPlays", fn := fun _ => fun
  | [d1, d2] => { results := [.lit (.bool true)], args := [d1, d2] }
  | _ => none }
def diskPlaysRow : OpenClaim := { program := "ytebhhfmekmpnkaa", sum := "b47b4d792768b0ccc47d93ad2cdd01e99aec7bf9f9f34bfa798c78e75cdbb53e", func := "clepsydra/clepsydralaw4.DiskPlays", spec := "diskPlays", inPlace := ["sync/atomic.AddInt64", "maps.clone", "sync/atomic.LoadInt64", "sync/atomic.StoreInt64"], unfollowed := true, recurses := true, apart := false }
def DiskPlaysSaid : Prop := diskPlaysRow.holds Try.pinned (OpenSpec.ofChange diskPlaysSpec)

/-- ITS FALSE NEIGHBOUR: 'it returns false'. Refute it at one input. -/
def diskPlaysWrong : ChangeSpec := { name := "diskPlays", fn := fun _ => fun
  | [d1, d2] => { results := [.lit (.bool false)], args := [d1, d2] }
  | _ => none }
def DiskPlaysWrongFalsely : Prop := diskPlaysRow.holds Try.pinned (OpenSpec.ofChange diskPlaysWrong)

/- THE SECOND FORM. 'bulk': how many values and letters a reading holds, each counted each time it is reached (what is shared counts as often as it is met; a slice's spare places count too). A statement '..UptoSaid' is the law's where the arguments, and the package variables that the reading takes, are together of bulk at most 1048576: NARROWER than '..Said'. Prove '..Said' where nothing that the law and all that it calls make is longer than what came in: it says more and counts as full. Else prove '..UptoSaid'. A law counts once. -/
mutual
def uptoBulk {H : Type} : DataW H → Nat
  | .lit (.string bytes) => bytes.length + 1
  | .lit _ => 1
  | .nil => 1
  | .ptr d => uptoBulk d + 1
  | .slice elems spare => uptoBulkAll elems + uptoBulkAll spare + 1
  | .agg parts => uptoBulkAll parts + 1
  | .iface _ d => uptoBulk d + 1
  | .map entries => uptoBulkEntries entries + 1
  | .held _ => 1
def uptoBulkAll {H : Type} : List (DataW H) → Nat
  | [] => 0
  | d :: r => uptoBulk d + uptoBulkAll r
def uptoBulkEntries {H : Type} : List (Lit × DataW H) → Nat
  | [] => 0
  | x :: r => uptoBulkEntry x + uptoBulkEntries r
def uptoBulkEntry {H : Type} : Lit × DataW H → Nat
  | (.string bytes, d) => bytes.length + uptoBulk d + 1
  | (_, d) => uptoBulk d + 1
 end
def uptoSmall : (H : Type) → List (DataW H) → Bool := fun _ ds => decide (uptoBulkAll ds ≤ 1048576)
def OpenSpec.upto (s : _root_.Go.ChangeSpec) : _root_.Go.OpenSpec := { _root_.Go.OpenSpec.ofChange s with cond := some uptoSmall }

/-- 'clepsydralaw4.DiskStops', WHERE WHAT IT READS IS OF BULK AT MOST 1048576: true; the input reads as it did. -/
def diskStopsUptoRow : OpenClaim := { program := "ytebhhfmekmpnkaa", sum := "b47b4d792768b0ccc47d93ad2cdd01e99aec7bf9f9f34bfa798c78e75cdbb53e", func := "clepsydra/clepsydralaw4.DiskStops", spec := "diskStops", inPlace := ["sync/atomic.AddInt64", "maps.clone", "sync/atomic.LoadInt64"], unfollowed := true, recurses := true, apart := false, narrowed := true }
def DiskStopsUptoSaid : Prop := diskStopsUptoRow.holds Try.pinned (OpenSpec.upto diskStopsSpec)

/-- 'clepsydralaw4.DiskLent', WHERE WHAT IT READS IS OF BULK AT MOST 1048576: true; the input reads as it did. -/
def diskLentUptoRow : OpenClaim := { program := "ytebhhfmekmpnkaa", sum := "b47b4d792768b0ccc47d93ad2cdd01e99aec7bf9f9f34bfa798c78e75cdbb53e", func := "clepsydra/clepsydralaw4.DiskLent", spec := "diskLent", inPlace := ["sync/atomic.AddInt64", "maps.clone", "sync/atomic.LoadInt64"], unfollowed := true, recurses := true, apart := false, narrowed := true }
def DiskLentUptoSaid : Prop := diskLentUptoRow.holds Try.pinned (OpenSpec.upto diskLentSpec)

/-- 'clepsydralaw4.DiskNever', WHERE WHAT IT READS IS OF BULK AT MOST 1048576: true; the input reads as it did. -/
def diskNeverUptoRow : OpenClaim := { program := "ytebhhfmekmpnkaa", sum := "b47b4d792768b0ccc47d93ad2cdd01e99aec7bf9f9f34bfa798c78e75cdbb53e", func := "clepsydra/clepsydralaw4.DiskNever", spec := "diskNever", inPlace := ["sync/atomic.AddInt64", "maps.clone", "sync/atomic.LoadInt64"], unfollowed := true, recurses := true, apart := false, narrowed := true }
def DiskNeverUptoSaid : Prop := diskNeverUptoRow.holds Try.pinned (OpenSpec.upto diskNeverSpec)

/-- 'clepsydralaw4.DiskLasts', WHERE WHAT IT READS IS OF BULK AT MOST 1048576: true; the input reads as it did. -/
def diskLastsUptoRow : OpenClaim := { program := "ytebhhfmekmpnkaa", sum := "b47b4d792768b0ccc47d93ad2cdd01e99aec7bf9f9f34bfa798c78e75cdbb53e", func := "clepsydra/clepsydralaw4.DiskLasts", spec := "diskLasts", inPlace := ["sync/atomic.AddInt64", "maps.clone", "sync/atomic.LoadInt64"], unfollowed := true, recurses := true, apart := false, narrowed := true }
def DiskLastsUptoSaid : Prop := diskLastsUptoRow.holds Try.pinned (OpenSpec.upto diskLastsSpec)

/-- 'clepsydralaw4.DiskQuota', WHERE WHAT IT READS IS OF BULK AT MOST 1048576: true; the input reads as it did. -/
def diskQuotaUptoRow : OpenClaim := { program := "ytebhhfmekmpnkaa", sum := "b47b4d792768b0ccc47d93ad2cdd01e99aec7bf9f9f34bfa798c78e75cdbb53e", func := "clepsydra/clepsydralaw4.DiskQuota", spec := "diskQuota", inPlace := ["sync/atomic.AddInt64", "maps.clone", "sync/atomic.LoadInt64"], unfollowed := true, recurses := true, apart := false, narrowed := true }
def DiskQuotaUptoSaid : Prop := diskQuotaUptoRow.holds Try.pinned (OpenSpec.upto diskQuotaSpec)

/-- 'clepsydralaw4.DiskSwaps', WHERE WHAT IT READS IS OF BULK AT MOST 1048576: true; the input reads as it did. -/
def diskSwapsUptoRow : OpenClaim := { program := "ytebhhfmekmpnkaa", sum := "b47b4d792768b0ccc47d93ad2cdd01e99aec7bf9f9f34bfa798c78e75cdbb53e", func := "clepsydra/clepsydralaw4.DiskSwaps", spec := "diskSwaps", inPlace := ["sync/atomic.AddInt64", "maps.clone", "sync/atomic.LoadInt64"], unfollowed := true, recurses := true, apart := false, narrowed := true }
def DiskSwapsUptoSaid : Prop := diskSwapsUptoRow.holds Try.pinned (OpenSpec.upto diskSwapsSpec)

/-- 'clepsydralaw4.DiskNames', WHERE WHAT IT READS IS OF BULK AT MOST 1048576: true; the input reads as it did. -/
def diskNamesUptoRow : OpenClaim := { program := "ytebhhfmekmpnkaa", sum := "b47b4d792768b0ccc47d93ad2cdd01e99aec7bf9f9f34bfa798c78e75cdbb53e", func := "clepsydra/clepsydralaw4.DiskNames", spec := "diskNames", inPlace := ["sync/atomic.AddInt64", "maps.clone", "sync/atomic.LoadInt64"], unfollowed := true, recurses := true, apart := false, narrowed := true }
def DiskNamesUptoSaid : Prop := diskNamesUptoRow.holds Try.pinned (OpenSpec.upto diskNamesSpec)

/-- 'clepsydralaw4.DiskCopies', WHERE WHAT IT READS IS OF BULK AT MOST 1048576: true; the input reads as it did. -/
def diskCopiesUptoRow : OpenClaim := { program := "ytebhhfmekmpnkaa", sum := "b47b4d792768b0ccc47d93ad2cdd01e99aec7bf9f9f34bfa798c78e75cdbb53e", func := "clepsydra/clepsydralaw4.DiskCopies", spec := "diskCopies", inPlace := ["sync/atomic.AddInt64", "maps.clone", "sync/atomic.LoadInt64", "sync/atomic.StoreInt64"], unfollowed := true, recurses := true, apart := false, narrowed := true }
def DiskCopiesUptoSaid : Prop := diskCopiesUptoRow.holds Try.pinned (OpenSpec.upto diskCopiesSpec)

/-- 'clepsydralaw4.DiskPlays', WHERE WHAT IT READS IS OF BULK AT MOST 1048576: true; the input reads as it did. -/
def diskPlaysUptoRow : OpenClaim := { program := "ytebhhfmekmpnkaa", sum := "b47b4d792768b0ccc47d93ad2cdd01e99aec7bf9f9f34bfa798c78e75cdbb53e", func := "clepsydra/clepsydralaw4.DiskPlays", spec := "diskPlays", inPlace := ["sync/atomic.AddInt64", "maps.clone", "sync/atomic.LoadInt64", "sync/atomic.StoreInt64"], unfollowed := true, recurses := true, apart := false, narrowed := true }
def DiskPlaysUptoSaid : Prop := diskPlaysUptoRow.holds Try.pinned (OpenSpec.upto diskPlaysSpec)

end Rows
end Go.Proofs.Ytebhhfmekmpnkaa
