/-
  No cell of these rows narrows 'for every input' (looked for: loops, veiled, ifaces, maps, wideKeys, modest, calm, conditions, laid).
  DERIVED. THE GIVEN ROWS OF THIS SEAT. 7 by the template 'for every input the law returns true; each argument reads behind the call as it read before'; 0 by the template 'total and deterministic' (their statements: YtdkgjllpmfanlaaTotals.lean).
  GIVEN WITH THE SEED: the statements are not yours to turn. If you find one false, say at which input.
  Laid BY PROGRAM, IN A SANDBOX (cutbox-rows.mjs): the forced cells as the released guide's own fill.sh prints them over the translation 5ff464f36b1ff25b… (all of the seat's roots in one cut). By AI agents, Wed Nov 11 2026. No macro, syntax, notation, axiom, sorry.
-/
import Derived.Test.YtdkgjllpmfanlaaChecked
import GoSem.Claim
import GoSem.ClaimJoined
import GoSem.ClaimMapViews
import Derived.JoinedTies
import Derived.KernelRfl
namespace Go.Proofs.Ytdkgjllpmfanlaa
/- THE CELL 'sum', in the pinned program and in every row, IS THE sha256 OF THE DUMP (.gsa) THAT YtdkgjllpmfanlaaProg.lean LOADS. Nothing in Lean hashes anything: it is a label: what it is worth is what the hold of that sum in a sandbox is worth. -/
noncomputable def Try.pinned : Pinned := { name := "ytdkgjllpmfanlaa", sum := "5ff464f36b1ff25bf332952f0a858684af88d3b5cc5902a218c0f3f27a46a3a3", checked := Try.checked }
namespace Rows
def none {H : Type} : Left H := { results := [], args := [] }

/-- 'lamplighterlaw03.GuardAgain': WHATEVER THE INPUT: true; the input reads as it did. -/
def guardAgainSpec : ChangeSpec := { name := "guardAgain", fn := fun _ => fun
  | [d] => { results := [.lit (.bool true)], args := [d] }
  | _ => none }
def guardAgainRow : OpenClaim := { program := "ytdkgjllpmfanlaa", sum := "5ff464f36b1ff25bf332952f0a858684af88d3b5cc5902a218c0f3f27a46a3a3", func := "lamplighter/lamplighterlaw03.GuardAgain", spec := "guardAgain", unfollowed := true, recurses := true, apart := false }
def GuardAgainSaid : Prop := guardAgainRow.holds Try.pinned (OpenSpec.ofChange guardAgainSpec)

/-- ITS FALSE NEIGHBOUR: 'it returns false'. Refute it at one input. -/
def guardAgainWrong : ChangeSpec := { name := "guardAgain", fn := fun _ => fun
  | [d] => { results := [.lit (.bool false)], args := [d] }
  | _ => none }
def GuardAgainWrongFalsely : Prop := guardAgainRow.holds Try.pinned (OpenSpec.ofChange guardAgainWrong)

/-- 'lamplighterlaw03.GuardRows': WHATEVER THE INPUT: true; the input reads as it did. -/
def guardRowsSpec : ChangeSpec := { name := "guardRows", fn := fun _ => fun
  | [d] => { results := [.lit (.bool true)], args := [d] }
  | _ => none }
def guardRowsRow : OpenClaim := { program := "ytdkgjllpmfanlaa", sum := "5ff464f36b1ff25bf332952f0a858684af88d3b5cc5902a218c0f3f27a46a3a3", func := "lamplighter/lamplighterlaw03.GuardRows", spec := "guardRows", unfollowed := true, recurses := true, apart := false }
def GuardRowsSaid : Prop := guardRowsRow.holds Try.pinned (OpenSpec.ofChange guardRowsSpec)

/-- ITS FALSE NEIGHBOUR: 'it returns false'. Refute it at one input. -/
def guardRowsWrong : ChangeSpec := { name := "guardRows", fn := fun _ => fun
  | [d] => { results := [.lit (.bool false)], args := [d] }
  | _ => none }
def GuardRowsWrongFalsely : Prop := guardRowsRow.holds Try.pinned (OpenSpec.ofChange guardRowsWrong)

/-- 'lamplighterlaw03.GuardNested': WHATEVER THE INPUT: true; the input reads as it did. -/
def guardNestedSpec : ChangeSpec := { name := "guardNested", fn := fun _ => fun
  | [d1, d2] => { results := [.lit (.bool true)], args := [d1, d2] }
  | _ => none }
def guardNestedRow : OpenClaim := { program := "ytdkgjllpmfanlaa", sum := "5ff464f36b1ff25bf332952f0a858684af88d3b5cc5902a218c0f3f27a46a3a3", func := "lamplighter/lamplighterlaw03.GuardNested", spec := "guardNested", unfollowed := true, recurses := true, apart := false }
def GuardNestedSaid : Prop := guardNestedRow.holds Try.pinned (OpenSpec.ofChange guardNestedSpec)

/-- ITS FALSE NEIGHBOUR: 'it returns false'. Refute it at one input. -/
def guardNestedWrong : ChangeSpec := { name := "guardNested", fn := fun _ => fun
  | [d1, d2] => { results := [.lit (.bool false)], args := [d1, d2] }
  | _ => none }
def GuardNestedWrongFalsely : Prop := guardNestedRow.holds Try.pinned (OpenSpec.ofChange guardNestedWrong)

/-- 'lamplighterlaw03.GuardDeferred': WHATEVER THE INPUT: true; the input reads as it did. -/
def guardDeferredSpec : ChangeSpec := { name := "guardDeferred", fn := fun _ => fun
  | [d1, d2] => { results := [.lit (.bool true)], args := [d1, d2] }
  | _ => none }
def guardDeferredRow : OpenClaim := { program := "ytdkgjllpmfanlaa", sum := "5ff464f36b1ff25bf332952f0a858684af88d3b5cc5902a218c0f3f27a46a3a3", func := "lamplighter/lamplighterlaw03.GuardDeferred", spec := "guardDeferred", unfollowed := true, recurses := true, apart := false }
def GuardDeferredSaid : Prop := guardDeferredRow.holds Try.pinned (OpenSpec.ofChange guardDeferredSpec)

/-- ITS FALSE NEIGHBOUR: 'it returns false'. Refute it at one input. -/
def guardDeferredWrong : ChangeSpec := { name := "guardDeferred", fn := fun _ => fun
  | [d1, d2] => { results := [.lit (.bool false)], args := [d1, d2] }
  | _ => none }
def GuardDeferredWrongFalsely : Prop := guardDeferredRow.holds Try.pinned (OpenSpec.ofChange guardDeferredWrong)

/-- 'lamplighterlaw03.GuardRuns': WHATEVER THE INPUT: true; the input reads as it did. -/
def guardRunsSpec : ChangeSpec := { name := "guardRuns", fn := fun _ => fun
  | [d1, d2, d3] => { results := [.lit (.bool true)], args := [d1, d2, d3] }
  | _ => none }
def guardRunsRow : OpenClaim := { program := "ytdkgjllpmfanlaa", sum := "5ff464f36b1ff25bf332952f0a858684af88d3b5cc5902a218c0f3f27a46a3a3", func := "lamplighter/lamplighterlaw03.GuardRuns", spec := "guardRuns", unfollowed := true, recurses := true, apart := false }
def GuardRunsSaid : Prop := guardRunsRow.holds Try.pinned (OpenSpec.ofChange guardRunsSpec)

/-- ITS FALSE NEIGHBOUR: 'it returns false'. Refute it at one input. -/
def guardRunsWrong : ChangeSpec := { name := "guardRuns", fn := fun _ => fun
  | [d1, d2, d3] => { results := [.lit (.bool false)], args := [d1, d2, d3] }
  | _ => none }
def GuardRunsWrongFalsely : Prop := guardRunsRow.holds Try.pinned (OpenSpec.ofChange guardRunsWrong)

/-- 'lamplighterlaw03.GuardOthers': WHATEVER THE INPUT: true; the input reads as it did. -/
def guardOthersSpec : ChangeSpec := { name := "guardOthers", fn := fun _ => fun
  | [d1, d2] => { results := [.lit (.bool true)], args := [d1, d2] }
  | _ => none }
def guardOthersRow : OpenClaim := { program := "ytdkgjllpmfanlaa", sum := "5ff464f36b1ff25bf332952f0a858684af88d3b5cc5902a218c0f3f27a46a3a3", func := "lamplighter/lamplighterlaw03.GuardOthers", spec := "guardOthers", unfollowed := true, recurses := true, apart := false }
def GuardOthersSaid : Prop := guardOthersRow.holds Try.pinned (OpenSpec.ofChange guardOthersSpec)

/-- ITS FALSE NEIGHBOUR: 'it returns false'. Refute it at one input. -/
def guardOthersWrong : ChangeSpec := { name := "guardOthers", fn := fun _ => fun
  | [d1, d2] => { results := [.lit (.bool false)], args := [d1, d2] }
  | _ => none }
def GuardOthersWrongFalsely : Prop := guardOthersRow.holds Try.pinned (OpenSpec.ofChange guardOthersWrong)

/-- 'lamplighterlaw03.GuardLost': WHATEVER THE INPUT: true; the input reads as it did. -/
def guardLostSpec : ChangeSpec := { name := "guardLost", fn := fun _ => fun
  | [d] => { results := [.lit (.bool true)], args := [d] }
  | _ => none }
def guardLostRow : OpenClaim := { program := "ytdkgjllpmfanlaa", sum := "5ff464f36b1ff25bf332952f0a858684af88d3b5cc5902a218c0f3f27a46a3a3", func := "lamplighter/lamplighterlaw03.GuardLost", spec := "guardLost", unfollowed := true, recurses := true, apart := false }
def GuardLostSaid : Prop := guardLostRow.holds Try.pinned (OpenSpec.ofChange guardLostSpec)

/-- ITS FALSE NEIGHBOUR: 'it returns false'. Refute it at one input. -/
def guardLostWrong : ChangeSpec := { name := "guardLost", fn := fun _ => fun
  | [d] => { results := [.lit (.bool false)], args := [d] }
  | _ => none }
def GuardLostWrongFalsely : Prop := guardLostRow.holds Try.pinned (OpenSpec.ofChange guardLostWrong)

/- THE SECOND FORM. 'bulk': how many values and letters a reading holds, each counted each time it is reached (what is shared counts as often as it is met; a slice's spare places count too). A statement '..UptoSaid' is the law's where the arguments, and the package variables that the reading takes, are together of bulk at most 1048576: NARROWER than '..Said'. Prove '..Said' where nothing that the law and all that it calls make is longer than what came in: it says more and counts as full. Else prove '..UptoSaid'. A law counts once. -/
mutual
def uptoBulk {H : Type} : DataW H → Nat
  | .lit (.string bytes) => bytes.length + 1
  | .lit _ => 1
  | .nil => 1
  | .ptr d => uptoBulk d + 1
  | .slice elems spare => uptoBulkAll elems + uptoBulkAll spare + 1
  | .agg parts => uptoBulkAll parts + 1
  | .iface _ d => uptoBulk d + 1
  | .map entries => uptoBulkEntries entries + 1
  | .held _ => 1
def uptoBulkAll {H : Type} : List (DataW H) → Nat
  | [] => 0
  | d :: r => uptoBulk d + uptoBulkAll r
def uptoBulkEntries {H : Type} : List (Lit × DataW H) → Nat
  | [] => 0
  | x :: r => uptoBulkEntry x + uptoBulkEntries r
def uptoBulkEntry {H : Type} : Lit × DataW H → Nat
  | (.string bytes, d) => bytes.length + uptoBulk d + 1
  | (_, d) => uptoBulk d + 1
 end
def uptoSmall : (H : Type) → List (DataW H) → Bool := fun _ ds => decide (uptoBulkAll ds ≤ 1048576)
def OpenSpec.upto (s : _root_.Go.ChangeSpec) : _root_.Go.OpenSpec := { _root_.Go.OpenSpec.ofChange s with cond := some uptoSmall }

/-- 'lamplighterlaw03.GuardAgain', WHERE WHAT IT READS IS OF BULK AT MOST 1048576: true; the input reads as it did. -/
def guardAgainUptoRow : OpenClaim := { program := "ytdkgjllpmfanlaa", sum := "5ff464f36b1ff25bf332952f0a858684af88d3b5cc5902a218c0f3f27a46a3a3", func := "lamplighter/lamplighterlaw03.GuardAgain", spec := "guardAgain", unfollowed := true, recurses := true, apart := false, narrowed := true }
def GuardAgainUptoSaid : Prop := guardAgainUptoRow.holds Try.pinned (OpenSpec.upto guardAgainSpec)

/-- 'lamplighterlaw03.GuardRows', WHERE WHAT IT READS IS OF BULK AT MOST 1048576: true; the input reads as it did. -/
def guardRowsUptoRow : OpenClaim := { program := "ytdkgjllpmfanlaa", sum := "5ff464f36b1ff25bf332952f0a858684af88d3b5cc5902a218c0f3f27a46a3a3", func := "lamplighter/lamplighterlaw03.GuardRows", spec := "guardRows", unfollowed := true, recurses := true, apart := false, narrowed := true }
def GuardRowsUptoSaid : Prop := guardRowsUptoRow.holds Try.pinned (OpenSpec.upto guardRowsSpec)

/-- 'lamplighterlaw03.GuardNested', WHERE WHAT IT READS IS OF BULK AT MOST 1048576: true; the input reads as it did. -/
def guardNestedUptoRow : OpenClaim := { program := "ytdkgjllpmfanlaa", sum := "5ff464f36b1ff25bf332952f0a858684af88d3b5cc5902a218c0f3f27a46a3a3", func := "lamplighter/lamplighterlaw03.GuardNested", spec := "guardNested", unfollowed := true, recurses := true, apart := false, narrowed := true }
def GuardNestedUptoSaid : Prop := guardNestedUptoRow.holds Try.pinned (OpenSpec.upto guardNestedSpec)

/-- 'lamplighterlaw03.GuardDeferred', WHERE WHAT IT READS IS OF BULK AT MOST 1048576: true; the input reads as it did. -/
def guardDeferredUptoRow : OpenClaim := { program := "ytdkgjllpmfanlaa", sum := "5ff464f36b1ff25bf332952f0a858684af88d3b5cc5902a218c0f3f27a46a3a3", func := "lamplighter/lamplighterlaw03.GuardDeferred", spec := "guardDeferred", unfollowed := true, recurses := true, apart := false, narrowed := true }
def GuardDeferredUptoSaid : Prop := guardDeferredUptoRow.holds Try.pinned (OpenSpec.upto guardDeferredSpec)

/-- 'lamplighterlaw03.GuardRuns', WHERE WHAT IT READS IS OF BULK AT MOST 1048576: true; the input reads as it did. -/
def guardRunsUptoRow : OpenClaim := { program := "ytdkgjllpmfanlaa", sum := "5ff464f36b1ff25bf332952f0a858684af88d3b5cc5902a218c0f3f27a46a3a3", func := "lamplighter/lamplighterlaw03.GuardRuns", spec := "guardRuns", unfollowed := true, recurses := true, apart := false, narrowed := true }
def GuardRunsUptoSaid : Prop := guardRunsUptoRow.holds Try.pinned (OpenSpec.upto guardRunsSpec)

/-- 'lamplighterlaw03.GuardOthers', WHERE WHAT IT READS IS OF BULK AT MOST 1048576: true; the input reads as it did. -/
def guardOthersUptoRow : OpenClaim := { program := "ytdkgjllpmfanlaa", sum := "5ff464f36b1ff25bf332952f0a858684af88d3b5cc5902a218c0f3f27a46a3a3", func := "lamplighter/lamplighterlaw03.GuardOthers", spec := "guardOthers", unfollowed := true, recurses := true, apart := false, narrowed := true }
def GuardOthersUptoSaid : Prop := guardOthersUptoRow.holds Try.pinned (OpenSpec.upto guardOthersSpec)

/-- 'lamplighterlaw03.GuardLost', WHERE WHAT IT READS IS OF BULK AT MOST 1048576: true; the input reads as it did. -/
def guardLostUptoRow : OpenClaim := { program := "ytdkgjllpmfanlaa", sum := "5ff464f36b1ff25bf332952f0a858684af88d3b5cc5902a218c0f3f27a46a3a3", func := "lamplighter/lamplighterlaw03.GuardLost", spec := "guardLost", unfollowed := true, recurses := true, apart := false, narrowed := true }
def GuardLostUptoSaid : Prop := guardLostUptoRow.holds Try.pinned (OpenSpec.upto guardLostSpec)

end Rows
end Go.Proofs.Ytdkgjllpmfanlaa
