/-
  No cell of these rows narrows 'for every input' (looked for: loops, veiled, ifaces, maps, wideKeys, modest, calm, conditions, laid).
  DERIVED. THE GIVEN ROWS OF THIS SEAT. 6 by the template 'for every input the law returns true; each argument reads behind the call as it read before'; 0 by the template 'total and deterministic' (their statements: YtkapaklikgckgaaTotals.lean).
  GIVEN WITH THE SEED: the statements are not yours to turn. If you find one false, say at which input.
  Laid BY PROGRAM, IN A SANDBOX (cutbox-rows.mjs): the forced cells as the released guide's own fill.sh prints them over the translation d078545d8899aa7e… (all of the seat's roots in one cut). By AI agents, Wed Nov 11 2026. No macro, syntax, notation, axiom, sorry.
-/
import Derived.Test.YtkapaklikgckgaaChecked
import GoSem.Claim
import GoSem.ClaimJoined
import GoSem.ClaimMapViews
import Derived.JoinedTies
import Derived.KernelRfl
namespace Go.Proofs.Ytkapaklikgckgaa
/- THE CELL 'sum', in the pinned program and in every row, IS THE sha256 OF THE DUMP (.gsa) THAT YtkapaklikgckgaaProg.lean LOADS. Nothing in Lean hashes anything: it is a label: what it is worth is what the hold of that sum in a sandbox is worth. -/
noncomputable def Try.pinned : Pinned := { name := "ytkapaklikgckgaa", sum := "d078545d8899aa7ec403d9a4863176779968323351d1a54b9dc73349354438c4", checked := Try.checked }
namespace Rows
def none {H : Type} : Left H := { results := [], args := [] }

/-- 'clepsydralaw3.FramePuts': WHATEVER THE INPUT: true; the input reads as it did. -/
def framePutsSpec : ChangeSpec := { name := "framePuts", fn := fun _ => fun
  | [d1, d2, d3] => { results := [.lit (.bool true)], args := [d1, d2, d3] }
  | _ => none }
def framePutsRow : OpenClaim := { program := "ytkapaklikgckgaa", sum := "d078545d8899aa7ec403d9a4863176779968323351d1a54b9dc73349354438c4", func := "clepsydra/clepsydralaw3.FramePuts", spec := "framePuts", apart := false }
def FramePutsSaid : Prop := framePutsRow.holds Try.pinned (OpenSpec.ofChange framePutsSpec)

/-- ITS FALSE NEIGHBOUR: 'it returns false'. Refute it at one input. -/
def framePutsWrong : ChangeSpec := { name := "framePuts", fn := fun _ => fun
  | [d1, d2, d3] => { results := [.lit (.bool false)], args := [d1, d2, d3] }
  | _ => none }
def FramePutsWrongFalsely : Prop := framePutsRow.holds Try.pinned (OpenSpec.ofChange framePutsWrong)

/-- 'clepsydralaw3.FrameBounds': WHATEVER THE INPUT: true; the input reads as it did. -/
def frameBoundsSpec : ChangeSpec := { name := "frameBounds", fn := fun _ => fun
  | [d1, d2] => { results := [.lit (.bool true)], args := [d1, d2] }
  | _ => none }
def frameBoundsRow : OpenClaim := { program := "ytkapaklikgckgaa", sum := "d078545d8899aa7ec403d9a4863176779968323351d1a54b9dc73349354438c4", func := "clepsydra/clepsydralaw3.FrameBounds", spec := "frameBounds", apart := false }
def FrameBoundsSaid : Prop := frameBoundsRow.holds Try.pinned (OpenSpec.ofChange frameBoundsSpec)

/-- ITS FALSE NEIGHBOUR: 'it returns false'. Refute it at one input. -/
def frameBoundsWrong : ChangeSpec := { name := "frameBounds", fn := fun _ => fun
  | [d1, d2] => { results := [.lit (.bool false)], args := [d1, d2] }
  | _ => none }
def FrameBoundsWrongFalsely : Prop := frameBoundsRow.holds Try.pinned (OpenSpec.ofChange frameBoundsWrong)

/-- 'clepsydralaw3.FrameJoins': WHATEVER THE INPUT: true; the input reads as it did. -/
def frameJoinsSpec : ChangeSpec := { name := "frameJoins", fn := fun _ => fun
  | [d1, d2] => { results := [.lit (.bool true)], args := [d1, d2] }
  | _ => none }
def frameJoinsRow : OpenClaim := { program := "ytkapaklikgckgaa", sum := "d078545d8899aa7ec403d9a4863176779968323351d1a54b9dc73349354438c4", func := "clepsydra/clepsydralaw3.FrameJoins", spec := "frameJoins", apart := false }
def FrameJoinsSaid : Prop := frameJoinsRow.holds Try.pinned (OpenSpec.ofChange frameJoinsSpec)

/-- ITS FALSE NEIGHBOUR: 'it returns false'. Refute it at one input. -/
def frameJoinsWrong : ChangeSpec := { name := "frameJoins", fn := fun _ => fun
  | [d1, d2] => { results := [.lit (.bool false)], args := [d1, d2] }
  | _ => none }
def FrameJoinsWrongFalsely : Prop := frameJoinsRow.holds Try.pinned (OpenSpec.ofChange frameJoinsWrong)

/-- 'clepsydralaw3.FrameTakes': WHATEVER THE INPUT: true; the input reads as it did. -/
def frameTakesSpec : ChangeSpec := { name := "frameTakes", fn := fun _ => fun
  | [d1, d2, d3, d4, d5, d6] => { results := [.lit (.bool true)], args := [d1, d2, d3, d4, d5, d6] }
  | _ => none }
def frameTakesRow : OpenClaim := { program := "ytkapaklikgckgaa", sum := "d078545d8899aa7ec403d9a4863176779968323351d1a54b9dc73349354438c4", func := "clepsydra/clepsydralaw3.FrameTakes", spec := "frameTakes", apart := false }
def FrameTakesSaid : Prop := frameTakesRow.holds Try.pinned (OpenSpec.ofChange frameTakesSpec)

/-- ITS FALSE NEIGHBOUR: 'it returns false'. Refute it at one input. -/
def frameTakesWrong : ChangeSpec := { name := "frameTakes", fn := fun _ => fun
  | [d1, d2, d3, d4, d5, d6] => { results := [.lit (.bool false)], args := [d1, d2, d3, d4, d5, d6] }
  | _ => none }
def FrameTakesWrongFalsely : Prop := frameTakesRow.holds Try.pinned (OpenSpec.ofChange frameTakesWrong)

/-- 'clepsydralaw3.FrameCuts': WHATEVER THE INPUT: true; the input reads as it did. -/
def frameCutsSpec : ChangeSpec := { name := "frameCuts", fn := fun _ => fun
  | [d1, d2] => { results := [.lit (.bool true)], args := [d1, d2] }
  | _ => none }
def frameCutsRow : OpenClaim := { program := "ytkapaklikgckgaa", sum := "d078545d8899aa7ec403d9a4863176779968323351d1a54b9dc73349354438c4", func := "clepsydra/clepsydralaw3.FrameCuts", spec := "frameCuts", apart := false }
def FrameCutsSaid : Prop := frameCutsRow.holds Try.pinned (OpenSpec.ofChange frameCutsSpec)

/-- ITS FALSE NEIGHBOUR: 'it returns false'. Refute it at one input. -/
def frameCutsWrong : ChangeSpec := { name := "frameCuts", fn := fun _ => fun
  | [d1, d2] => { results := [.lit (.bool false)], args := [d1, d2] }
  | _ => none }
def FrameCutsWrongFalsely : Prop := frameCutsRow.holds Try.pinned (OpenSpec.ofChange frameCutsWrong)

/-- 'clepsydralaw3.FrameBits': WHATEVER THE INPUT: true; the input reads as it did. -/
def frameBitsSpec : ChangeSpec := { name := "frameBits", fn := fun _ => fun
  | [d1, d2, d3, d4, d5] => { results := [.lit (.bool true)], args := [d1, d2, d3, d4, d5] }
  | _ => none }
def frameBitsRow : OpenClaim := { program := "ytkapaklikgckgaa", sum := "d078545d8899aa7ec403d9a4863176779968323351d1a54b9dc73349354438c4", func := "clepsydra/clepsydralaw3.FrameBits", spec := "frameBits", apart := false }
def FrameBitsSaid : Prop := frameBitsRow.holds Try.pinned (OpenSpec.ofChange frameBitsSpec)

/-- ITS FALSE NEIGHBOUR: 'it returns false'. Refute it at one input. -/
def frameBitsWrong : ChangeSpec := { name := "frameBits", fn := fun _ => fun
  | [d1, d2, d3, d4, d5] => { results := [.lit (.bool false)], args := [d1, d2, d3, d4, d5] }
  | _ => none }
def FrameBitsWrongFalsely : Prop := frameBitsRow.holds Try.pinned (OpenSpec.ofChange frameBitsWrong)

/- THE SECOND FORM. 'bulk': how many values and letters a reading holds, each counted each time it is reached (what is shared counts as often as it is met; a slice's spare places count too). A statement '..UptoSaid' is the law's where the arguments, and the package variables that the reading takes, are together of bulk at most 1048576: NARROWER than '..Said'. Prove '..Said' where nothing that the law and all that it calls make is longer than what came in: it says more and counts as full. Else prove '..UptoSaid'. A law counts once. -/
mutual
def uptoBulk {H : Type} : DataW H → Nat
  | .lit (.string bytes) => bytes.length + 1
  | .lit _ => 1
  | .nil => 1
  | .ptr d => uptoBulk d + 1
  | .slice elems spare => uptoBulkAll elems + uptoBulkAll spare + 1
  | .agg parts => uptoBulkAll parts + 1
  | .iface _ d => uptoBulk d + 1
  | .map entries => uptoBulkEntries entries + 1
  | .held _ => 1
def uptoBulkAll {H : Type} : List (DataW H) → Nat
  | [] => 0
  | d :: r => uptoBulk d + uptoBulkAll r
def uptoBulkEntries {H : Type} : List (Lit × DataW H) → Nat
  | [] => 0
  | x :: r => uptoBulkEntry x + uptoBulkEntries r
def uptoBulkEntry {H : Type} : Lit × DataW H → Nat
  | (.string bytes, d) => bytes.length + uptoBulk d + 1
  | (_, d) => uptoBulk d + 1
 end
def uptoSmall : (H : Type) → List (DataW H) → Bool := fun _ ds => decide (uptoBulkAll ds ≤ 1048576)
def OpenSpec.upto (s : _root_.Go.ChangeSpec) : _root_.Go.OpenSpec := { _root_.Go.OpenSpec.ofChange s with cond := some uptoSmall }

/-- 'clepsydralaw3.FramePuts', WHERE WHAT IT READS IS OF BULK AT MOST 1048576: true; the input reads as it did. -/
def framePutsUptoRow : OpenClaim := { program := "ytkapaklikgckgaa", sum := "d078545d8899aa7ec403d9a4863176779968323351d1a54b9dc73349354438c4", func := "clepsydra/clepsydralaw3.FramePuts", spec := "framePuts", apart := false, narrowed := true }
def FramePutsUptoSaid : Prop := framePutsUptoRow.holds Try.pinned (OpenSpec.upto framePutsSpec)

/-- 'clepsydralaw3.FrameBounds', WHERE WHAT IT READS IS OF BULK AT MOST 1048576: true; the input reads as it did. -/
def frameBoundsUptoRow : OpenClaim := { program := "ytkapaklikgckgaa", sum := "d078545d8899aa7ec403d9a4863176779968323351d1a54b9dc73349354438c4", func := "clepsydra/clepsydralaw3.FrameBounds", spec := "frameBounds", apart := false, narrowed := true }
def FrameBoundsUptoSaid : Prop := frameBoundsUptoRow.holds Try.pinned (OpenSpec.upto frameBoundsSpec)

/-- 'clepsydralaw3.FrameJoins', WHERE WHAT IT READS IS OF BULK AT MOST 1048576: true; the input reads as it did. -/
def frameJoinsUptoRow : OpenClaim := { program := "ytkapaklikgckgaa", sum := "d078545d8899aa7ec403d9a4863176779968323351d1a54b9dc73349354438c4", func := "clepsydra/clepsydralaw3.FrameJoins", spec := "frameJoins", apart := false, narrowed := true }
def FrameJoinsUptoSaid : Prop := frameJoinsUptoRow.holds Try.pinned (OpenSpec.upto frameJoinsSpec)

/-- 'clepsydralaw3.FrameTakes', WHERE WHAT IT READS IS OF BULK AT MOST 1048576: true; the input reads as it did. -/
def frameTakesUptoRow : OpenClaim := { program := "ytkapaklikgckgaa", sum := "d078545d8899aa7ec403d9a4863176779968323351d1a54b9dc73349354438c4", func := "clepsydra/clepsydralaw3.FrameTakes", spec := "frameTakes", apart := false, narrowed := true }
def FrameTakesUptoSaid : Prop := frameTakesUptoRow.holds Try.pinned (OpenSpec.upto frameTakesSpec)

/-- 'clepsydralaw3.FrameCuts', WHERE WHAT IT READS IS OF BULK AT MOST 1048576: true; the input reads as it did. -/
def frameCutsUptoRow : OpenClaim := { program := "ytkapaklikgckgaa", sum := "d078545d8899aa7ec403d9a4863176779968323351d1a54b9dc73349354438c4", func := "clepsydra/clepsydralaw3.FrameCuts", spec := "frameCuts", apart := false, narrowed := true }
def FrameCutsUptoSaid : Prop := frameCutsUptoRow.holds Try.pinned (OpenSpec.upto frameCutsSpec)

/-- 'clepsydralaw3.FrameBits', WHERE WHAT IT READS IS OF BULK AT MOST 1048576: true; the input reads as it did. -/
def frameBitsUptoRow : OpenClaim := { program := "ytkapaklikgckgaa", sum := "d078545d8899aa7ec403d9a4863176779968323351d1a54b9dc73349354438c4", func := "clepsydra/clepsydralaw3.FrameBits", spec := "frameBits", apart := false, narrowed := true }
def FrameBitsUptoSaid : Prop := frameBitsUptoRow.holds Try.pinned (OpenSpec.upto frameBitsSpec)

end Rows
end Go.Proofs.Ytkapaklikgckgaa
