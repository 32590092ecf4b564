/-
  No cell of these rows narrows 'for every input' (looked for: loops, veiled, ifaces, maps, wideKeys, modest, calm, conditions, laid).
  DERIVED. THE GIVEN ROWS OF THIS SEAT. 13 by the template 'for every input the law returns true; each argument reads behind the call as it read before'; 0 by the template 'total and deterministic' (their statements: YtlhpmnnbjkbahaaTotals.lean).
  GIVEN WITH THE SEED: the statements are not yours to turn. If you find one false, say at which input.
  Laid BY PROGRAM, IN A SANDBOX (cutbox-rows.mjs): the forced cells as the released guide's own fill.sh prints them over the translation 1a658f695140f2a6… (all of the seat's roots in one cut). By AI agents, Wed Nov 11 2026. No macro, syntax, notation, axiom, sorry.
-/
import Derived.Test.YtlhpmnnbjkbahaaChecked
import GoSem.Claim
import GoSem.ClaimJoined
import GoSem.ClaimMapViews
import Derived.JoinedTies
import Derived.KernelRfl
namespace Go.Proofs.Ytlhpmnnbjkbahaa
/- THE CELL 'sum', in the pinned program and in every row, IS THE sha256 OF THE DUMP (.gsa) THAT YtlhpmnnbjkbahaaProg.lean LOADS. Nothing in Lean hashes anything: it is a label: what it is worth is what the hold of that sum in a sandbox is worth. -/
noncomputable def Try.pinned : Pinned := { name := "ytlhpmnnbjkbahaa", sum := "1a658f695140f2a6d12b80f6b1f981812346875984a87c0ea03e82f994e529e6", checked := Try.checked }
namespace Rows
def none {H : Type} : Left H := { results := [], args := [] }

/-- 'lamplighterlaw12.DelayTwice': WHATEVER THE INPUT: true; the input reads as it did. -/
def delayTwiceSpec : ChangeSpec := { name := "delayTwice", fn := fun _ => fun
  | [d1, d2, d3] => { results := [.lit (.bool true)], args := [d1, d2, d3] }
  | _ => none }
def delayTwiceRow : OpenClaim := { program := "ytlhpmnnbjkbahaa", sum := "1a658f695140f2a6d12b80f6b1f981812346875984a87c0ea03e82f994e529e6", func := "lamplighter/lamplighterlaw12.DelayTwice", spec := "delayTwice", inPlace := ["math.Float64frombits"], apart := false }
def DelayTwiceSaid : Prop := delayTwiceRow.holds Try.pinned (OpenSpec.ofChange delayTwiceSpec)

/-- ITS FALSE NEIGHBOUR: 'it returns false'. Refute it at one input. -/
def delayTwiceWrong : ChangeSpec := { name := "delayTwice", fn := fun _ => fun
  | [d1, d2, d3] => { results := [.lit (.bool false)], args := [d1, d2, d3] }
  | _ => none }
def DelayTwiceWrongFalsely : Prop := delayTwiceRow.holds Try.pinned (OpenSpec.ofChange delayTwiceWrong)

/-- 'lamplighterlaw12.DelayBounds': WHATEVER THE INPUT: true; the input reads as it did. -/
def delayBoundsSpec : ChangeSpec := { name := "delayBounds", fn := fun _ => fun
  | [d1, d2, d3] => { results := [.lit (.bool true)], args := [d1, d2, d3] }
  | _ => none }
def delayBoundsRow : OpenClaim := { program := "ytlhpmnnbjkbahaa", sum := "1a658f695140f2a6d12b80f6b1f981812346875984a87c0ea03e82f994e529e6", func := "lamplighter/lamplighterlaw12.DelayBounds", spec := "delayBounds", inPlace := ["math.Float64frombits"], apart := false }
def DelayBoundsSaid : Prop := delayBoundsRow.holds Try.pinned (OpenSpec.ofChange delayBoundsSpec)

/-- ITS FALSE NEIGHBOUR: 'it returns false'. Refute it at one input. -/
def delayBoundsWrong : ChangeSpec := { name := "delayBounds", fn := fun _ => fun
  | [d1, d2, d3] => { results := [.lit (.bool false)], args := [d1, d2, d3] }
  | _ => none }
def DelayBoundsWrongFalsely : Prop := delayBoundsRow.holds Try.pinned (OpenSpec.ofChange delayBoundsWrong)

/-- 'lamplighterlaw12.DelaySteps': WHATEVER THE INPUT: true; the input reads as it did. -/
def delayStepsSpec : ChangeSpec := { name := "delaySteps", fn := fun _ => fun
  | [d1, d2, d3] => { results := [.lit (.bool true)], args := [d1, d2, d3] }
  | _ => none }
def delayStepsRow : OpenClaim := { program := "ytlhpmnnbjkbahaa", sum := "1a658f695140f2a6d12b80f6b1f981812346875984a87c0ea03e82f994e529e6", func := "lamplighter/lamplighterlaw12.DelaySteps", spec := "delaySteps", inPlace := ["math.Float64frombits"], apart := false }
def DelayStepsSaid : Prop := delayStepsRow.holds Try.pinned (OpenSpec.ofChange delayStepsSpec)

/-- ITS FALSE NEIGHBOUR: 'it returns false'. Refute it at one input. -/
def delayStepsWrong : ChangeSpec := { name := "delaySteps", fn := fun _ => fun
  | [d1, d2, d3] => { results := [.lit (.bool false)], args := [d1, d2, d3] }
  | _ => none }
def DelayStepsWrongFalsely : Prop := delayStepsRow.holds Try.pinned (OpenSpec.ofChange delayStepsWrong)

/-- 'lamplighterlaw12.DelayTotals': WHATEVER THE INPUT: true; the input reads as it did. -/
def delayTotalsSpec : ChangeSpec := { name := "delayTotals", fn := fun _ => fun
  | [d1, d2, d3] => { results := [.lit (.bool true)], args := [d1, d2, d3] }
  | _ => none }
def delayTotalsRow : OpenClaim := { program := "ytlhpmnnbjkbahaa", sum := "1a658f695140f2a6d12b80f6b1f981812346875984a87c0ea03e82f994e529e6", func := "lamplighter/lamplighterlaw12.DelayTotals", spec := "delayTotals", inPlace := ["math.Float64frombits"], apart := false }
def DelayTotalsSaid : Prop := delayTotalsRow.holds Try.pinned (OpenSpec.ofChange delayTotalsSpec)

/-- ITS FALSE NEIGHBOUR: 'it returns false'. Refute it at one input. -/
def delayTotalsWrong : ChangeSpec := { name := "delayTotals", fn := fun _ => fun
  | [d1, d2, d3] => { results := [.lit (.bool false)], args := [d1, d2, d3] }
  | _ => none }
def DelayTotalsWrongFalsely : Prop := delayTotalsRow.holds Try.pinned (OpenSpec.ofChange delayTotalsWrong)

/-- 'lamplighterlaw12.DelayNexts': WHATEVER THE INPUT: true; the input reads as it did. -/
def delayNextsSpec : ChangeSpec := { name := "delayNexts", fn := fun _ => fun
  | [d1, d2, d3] => { results := [.lit (.bool true)], args := [d1, d2, d3] }
  | _ => none }
def delayNextsRow : OpenClaim := { program := "ytlhpmnnbjkbahaa", sum := "1a658f695140f2a6d12b80f6b1f981812346875984a87c0ea03e82f994e529e6", func := "lamplighter/lamplighterlaw12.DelayNexts", spec := "delayNexts", inPlace := ["math.Float64frombits", "math.Float64bits"], apart := false }
def DelayNextsSaid : Prop := delayNextsRow.holds Try.pinned (OpenSpec.ofChange delayNextsSpec)

/-- ITS FALSE NEIGHBOUR: 'it returns false'. Refute it at one input. -/
def delayNextsWrong : ChangeSpec := { name := "delayNexts", fn := fun _ => fun
  | [d1, d2, d3] => { results := [.lit (.bool false)], args := [d1, d2, d3] }
  | _ => none }
def DelayNextsWrongFalsely : Prop := delayNextsRow.holds Try.pinned (OpenSpec.ofChange delayNextsWrong)

/-- 'lamplighterlaw12.DelayEdges': WHATEVER THE INPUT: true; the input reads as it did. -/
def delayEdgesSpec : ChangeSpec := { name := "delayEdges", fn := fun _ => fun
  | [d1, d2, d3] => { results := [.lit (.bool true)], args := [d1, d2, d3] }
  | _ => none }
def delayEdgesRow : OpenClaim := { program := "ytlhpmnnbjkbahaa", sum := "1a658f695140f2a6d12b80f6b1f981812346875984a87c0ea03e82f994e529e6", func := "lamplighter/lamplighterlaw12.DelayEdges", spec := "delayEdges", inPlace := ["math.Float64frombits", "math.Float64bits"], apart := false }
def DelayEdgesSaid : Prop := delayEdgesRow.holds Try.pinned (OpenSpec.ofChange delayEdgesSpec)

/-- ITS FALSE NEIGHBOUR: 'it returns false'. Refute it at one input. -/
def delayEdgesWrong : ChangeSpec := { name := "delayEdges", fn := fun _ => fun
  | [d1, d2, d3] => { results := [.lit (.bool false)], args := [d1, d2, d3] }
  | _ => none }
def DelayEdgesWrongFalsely : Prop := delayEdgesRow.holds Try.pinned (OpenSpec.ofChange delayEdgesWrong)

/-- 'lamplighterlaw16.SenderKnows': WHATEVER THE INPUT: true; the input reads as it did. -/
def senderKnowsSpec : ChangeSpec := { name := "senderKnows", fn := fun _ => fun
  | [d1, d2] => { results := [.lit (.bool true)], args := [d1, d2] }
  | _ => none }
def senderKnowsRow : OpenClaim := { program := "ytlhpmnnbjkbahaa", sum := "1a658f695140f2a6d12b80f6b1f981812346875984a87c0ea03e82f994e529e6", func := "lamplighter/lamplighterlaw16.SenderKnows", spec := "senderKnows", apart := false }
def SenderKnowsSaid : Prop := senderKnowsRow.holds Try.pinned (OpenSpec.ofChange senderKnowsSpec)

/-- ITS FALSE NEIGHBOUR: 'it returns false'. Refute it at one input. -/
def senderKnowsWrong : ChangeSpec := { name := "senderKnows", fn := fun _ => fun
  | [d1, d2] => { results := [.lit (.bool false)], args := [d1, d2] }
  | _ => none }
def SenderKnowsWrongFalsely : Prop := senderKnowsRow.holds Try.pinned (OpenSpec.ofChange senderKnowsWrong)

/-- 'lamplighterlaw16.SenderTicks': WHATEVER THE INPUT: true; the input reads as it did. -/
def senderTicksSpec : ChangeSpec := { name := "senderTicks", fn := fun _ => fun
  | [d1, d2, d3] => { results := [.lit (.bool true)], args := [d1, d2, d3] }
  | _ => none }
def senderTicksRow : OpenClaim := { program := "ytlhpmnnbjkbahaa", sum := "1a658f695140f2a6d12b80f6b1f981812346875984a87c0ea03e82f994e529e6", func := "lamplighter/lamplighterlaw16.SenderTicks", spec := "senderTicks", inPlace := ["math.Float64frombits"], unfollowed := true, recurses := true, apart := false }
def SenderTicksSaid : Prop := senderTicksRow.holds Try.pinned (OpenSpec.ofChange senderTicksSpec)

/-- ITS FALSE NEIGHBOUR: 'it returns false'. Refute it at one input. -/
def senderTicksWrong : ChangeSpec := { name := "senderTicks", fn := fun _ => fun
  | [d1, d2, d3] => { results := [.lit (.bool false)], args := [d1, d2, d3] }
  | _ => none }
def SenderTicksWrongFalsely : Prop := senderTicksRow.holds Try.pinned (OpenSpec.ofChange senderTicksWrong)

/-- 'lamplighterlaw16.SenderNone': WHATEVER THE INPUT: true; the input reads as it did. -/
def senderNoneSpec : ChangeSpec := { name := "senderNone", fn := fun _ => fun
  | [d1, d2] => { results := [.lit (.bool true)], args := [d1, d2] }
  | _ => none }
def senderNoneRow : OpenClaim := { program := "ytlhpmnnbjkbahaa", sum := "1a658f695140f2a6d12b80f6b1f981812346875984a87c0ea03e82f994e529e6", func := "lamplighter/lamplighterlaw16.SenderNone", spec := "senderNone", apart := false }
def SenderNoneSaid : Prop := senderNoneRow.holds Try.pinned (OpenSpec.ofChange senderNoneSpec)

/-- ITS FALSE NEIGHBOUR: 'it returns false'. Refute it at one input. -/
def senderNoneWrong : ChangeSpec := { name := "senderNone", fn := fun _ => fun
  | [d1, d2] => { results := [.lit (.bool false)], args := [d1, d2] }
  | _ => none }
def SenderNoneWrongFalsely : Prop := senderNoneRow.holds Try.pinned (OpenSpec.ofChange senderNoneWrong)

/-- 'lamplighterlaw16.SenderActs': WHATEVER THE INPUT: true; the input reads as it did. -/
def senderActsSpec : ChangeSpec := { name := "senderActs", fn := fun _ => fun
  | [d1, d2, d3] => { results := [.lit (.bool true)], args := [d1, d2, d3] }
  | _ => none }
def senderActsRow : OpenClaim := { program := "ytlhpmnnbjkbahaa", sum := "1a658f695140f2a6d12b80f6b1f981812346875984a87c0ea03e82f994e529e6", func := "lamplighter/lamplighterlaw16.SenderActs", spec := "senderActs", inPlace := ["math.Float64frombits"], unfollowed := true, recurses := true, apart := false }
def SenderActsSaid : Prop := senderActsRow.holds Try.pinned (OpenSpec.ofChange senderActsSpec)

/-- ITS FALSE NEIGHBOUR: 'it returns false'. Refute it at one input. -/
def senderActsWrong : ChangeSpec := { name := "senderActs", fn := fun _ => fun
  | [d1, d2, d3] => { results := [.lit (.bool false)], args := [d1, d2, d3] }
  | _ => none }
def SenderActsWrongFalsely : Prop := senderActsRow.holds Try.pinned (OpenSpec.ofChange senderActsWrong)

/-- 'lamplighterlaw16.SenderOrder': WHATEVER THE INPUT: true; the input reads as it did. -/
def senderOrderSpec : ChangeSpec := { name := "senderOrder", fn := fun _ => fun
  | [d1, d2, d3] => { results := [.lit (.bool true)], args := [d1, d2, d3] }
  | _ => none }
def senderOrderRow : OpenClaim := { program := "ytlhpmnnbjkbahaa", sum := "1a658f695140f2a6d12b80f6b1f981812346875984a87c0ea03e82f994e529e6", func := "lamplighter/lamplighterlaw16.SenderOrder", spec := "senderOrder", inPlace := ["math.Float64frombits"], unfollowed := true, recurses := true, apart := false }
def SenderOrderSaid : Prop := senderOrderRow.holds Try.pinned (OpenSpec.ofChange senderOrderSpec)

/-- ITS FALSE NEIGHBOUR: 'it returns false'. Refute it at one input. -/
def senderOrderWrong : ChangeSpec := { name := "senderOrder", fn := fun _ => fun
  | [d1, d2, d3] => { results := [.lit (.bool false)], args := [d1, d2, d3] }
  | _ => none }
def SenderOrderWrongFalsely : Prop := senderOrderRow.holds Try.pinned (OpenSpec.ofChange senderOrderWrong)

/-- 'lamplighterlaw16.SenderLives': WHATEVER THE INPUT: true; the input reads as it did. -/
def senderLivesSpec : ChangeSpec := { name := "senderLives", fn := fun _ => fun
  | [d1, d2, d3] => { results := [.lit (.bool true)], args := [d1, d2, d3] }
  | _ => none }
def senderLivesRow : OpenClaim := { program := "ytlhpmnnbjkbahaa", sum := "1a658f695140f2a6d12b80f6b1f981812346875984a87c0ea03e82f994e529e6", func := "lamplighter/lamplighterlaw16.SenderLives", spec := "senderLives", inPlace := ["math.Float64frombits"], unfollowed := true, recurses := true, apart := false }
def SenderLivesSaid : Prop := senderLivesRow.holds Try.pinned (OpenSpec.ofChange senderLivesSpec)

/-- ITS FALSE NEIGHBOUR: 'it returns false'. Refute it at one input. -/
def senderLivesWrong : ChangeSpec := { name := "senderLives", fn := fun _ => fun
  | [d1, d2, d3] => { results := [.lit (.bool false)], args := [d1, d2, d3] }
  | _ => none }
def SenderLivesWrongFalsely : Prop := senderLivesRow.holds Try.pinned (OpenSpec.ofChange senderLivesWrong)

/-- 'lamplighterlaw16.SenderFails': WHATEVER THE INPUT: true; the input reads as it did. -/
def senderFailsSpec : ChangeSpec := { name := "senderFails", fn := fun _ => fun
  | [d1, d2, d3] => { results := [.lit (.bool true)], args := [d1, d2, d3] }
  | _ => none }
def senderFailsRow : OpenClaim := { program := "ytlhpmnnbjkbahaa", sum := "1a658f695140f2a6d12b80f6b1f981812346875984a87c0ea03e82f994e529e6", func := "lamplighter/lamplighterlaw16.SenderFails", spec := "senderFails", inPlace := ["math.Float64frombits"], unfollowed := true, recurses := true, apart := false }
def SenderFailsSaid : Prop := senderFailsRow.holds Try.pinned (OpenSpec.ofChange senderFailsSpec)

/-- ITS FALSE NEIGHBOUR: 'it returns false'. Refute it at one input. -/
def senderFailsWrong : ChangeSpec := { name := "senderFails", fn := fun _ => fun
  | [d1, d2, d3] => { results := [.lit (.bool false)], args := [d1, d2, d3] }
  | _ => none }
def SenderFailsWrongFalsely : Prop := senderFailsRow.holds Try.pinned (OpenSpec.ofChange senderFailsWrong)

/- THE SECOND FORM. 'bulk': how many values and letters a reading holds, each counted each time it is reached (what is shared counts as often as it is met; a slice's spare places count too). A statement '..UptoSaid' is the law's where the arguments, and the package variables that the reading takes, are together of bulk at most 1048576: NARROWER than '..Said'. Prove '..Said' where nothing that the law and all that it calls make is longer than what came in: it says more and counts as full. Else prove '..UptoSaid'. A law counts once. -/
mutual
def uptoBulk {H : Type} : DataW H → Nat
  | .lit (.string bytes) => bytes.length + 1
  | .lit _ => 1
  | .nil => 1
  | .ptr d => uptoBulk d + 1
  | .slice elems spare => uptoBulkAll elems + uptoBulkAll spare + 1
  | .agg parts => uptoBulkAll parts + 1
  | .iface _ d => uptoBulk d + 1
  | .map entries => uptoBulkEntries entries + 1
  | .held _ => 1
def uptoBulkAll {H : Type} : List (DataW H) → Nat
  | [] => 0
  | d :: r => uptoBulk d + uptoBulkAll r
def uptoBulkEntries {H : Type} : List (Lit × DataW H) → Nat
  | [] => 0
  | x :: r => uptoBulkEntry x + uptoBulkEntries r
def uptoBulkEntry {H : Type} : Lit × DataW H → Nat
  | (.string bytes, d) => bytes.length + uptoBulk d + 1
  | (_, d) => uptoBulk d + 1
 end
def uptoSmall : (H : Type) → List (DataW H) → Bool := fun _ ds => decide (uptoBulkAll ds ≤ 1048576)
def OpenSpec.upto (s : _root_.Go.ChangeSpec) : _root_.Go.OpenSpec := { _root_.Go.OpenSpec.ofChange s with cond := some uptoSmall }

/-- 'lamplighterlaw12.DelayTwice', WHERE WHAT IT READS IS OF BULK AT MOST 1048576: true; the input reads as it did. -/
def delayTwiceUptoRow : OpenClaim := { program := "ytlhpmnnbjkbahaa", sum := "1a658f695140f2a6d12b80f6b1f981812346875984a87c0ea03e82f994e529e6", func := "lamplighter/lamplighterlaw12.DelayTwice", spec := "delayTwice", inPlace := ["math.Float64frombits"], apart := false, narrowed := true }
def DelayTwiceUptoSaid : Prop := delayTwiceUptoRow.holds Try.pinned (OpenSpec.upto delayTwiceSpec)

/-- 'lamplighterlaw12.DelayBounds', WHERE WHAT IT READS IS OF BULK AT MOST 1048576: true; the input reads as it did. -/
def delayBoundsUptoRow : OpenClaim := { program := "ytlhpmnnbjkbahaa", sum := "1a658f695140f2a6d12b80f6b1f981812346875984a87c0ea03e82f994e529e6", func := "lamplighter/lamplighterlaw12.DelayBounds", spec := "delayBounds", inPlace := ["math.Float64frombits"], apart := false, narrowed := true }
def DelayBoundsUptoSaid : Prop := delayBoundsUptoRow.holds Try.pinned (OpenSpec.upto delayBoundsSpec)

/-- 'lamplighterlaw12.DelaySteps', WHERE WHAT IT READS IS OF BULK AT MOST 1048576: true; the input reads as it did. -/
def delayStepsUptoRow : OpenClaim := { program := "ytlhpmnnbjkbahaa", sum := "1a658f695140f2a6d12b80f6b1f981812346875984a87c0ea03e82f994e529e6", func := "lamplighter/lamplighterlaw12.DelaySteps", spec := "delaySteps", inPlace := ["math.Float64frombits"], apart := false, narrowed := true }
def DelayStepsUptoSaid : Prop := delayStepsUptoRow.holds Try.pinned (OpenSpec.upto delayStepsSpec)

/-- 'lamplighterlaw12.DelayTotals', WHERE WHAT IT READS IS OF BULK AT MOST 1048576: true; the input reads as it did. -/
def delayTotalsUptoRow : OpenClaim := { program := "ytlhpmnnbjkbahaa", sum := "1a658f695140f2a6d12b80f6b1f981812346875984a87c0ea03e82f994e529e6", func := "lamplighter/lamplighterlaw12.DelayTotals", spec := "delayTotals", inPlace := ["math.Float64frombits"], apart := false, narrowed := true }
def DelayTotalsUptoSaid : Prop := delayTotalsUptoRow.holds Try.pinned (OpenSpec.upto delayTotalsSpec)

/-- 'lamplighterlaw12.DelayNexts', WHERE WHAT IT READS IS OF BULK AT MOST 1048576: true; the input reads as it did. -/
def delayNextsUptoRow : OpenClaim := { program := "ytlhpmnnbjkbahaa", sum := "1a658f695140f2a6d12b80f6b1f981812346875984a87c0ea03e82f994e529e6", func := "lamplighter/lamplighterlaw12.DelayNexts", spec := "delayNexts", inPlace := ["math.Float64frombits", "math.Float64bits"], apart := false, narrowed := true }
def DelayNextsUptoSaid : Prop := delayNextsUptoRow.holds Try.pinned (OpenSpec.upto delayNextsSpec)

/-- 'lamplighterlaw12.DelayEdges', WHERE WHAT IT READS IS OF BULK AT MOST 1048576: true; the input reads as it did. -/
def delayEdgesUptoRow : OpenClaim := { program := "ytlhpmnnbjkbahaa", sum := "1a658f695140f2a6d12b80f6b1f981812346875984a87c0ea03e82f994e529e6", func := "lamplighter/lamplighterlaw12.DelayEdges", spec := "delayEdges", inPlace := ["math.Float64frombits", "math.Float64bits"], apart := false, narrowed := true }
def DelayEdgesUptoSaid : Prop := delayEdgesUptoRow.holds Try.pinned (OpenSpec.upto delayEdgesSpec)

/-- 'lamplighterlaw16.SenderKnows', WHERE WHAT IT READS IS OF BULK AT MOST 1048576: true; the input reads as it did. -/
def senderKnowsUptoRow : OpenClaim := { program := "ytlhpmnnbjkbahaa", sum := "1a658f695140f2a6d12b80f6b1f981812346875984a87c0ea03e82f994e529e6", func := "lamplighter/lamplighterlaw16.SenderKnows", spec := "senderKnows", apart := false, narrowed := true }
def SenderKnowsUptoSaid : Prop := senderKnowsUptoRow.holds Try.pinned (OpenSpec.upto senderKnowsSpec)

/-- 'lamplighterlaw16.SenderTicks', WHERE WHAT IT READS IS OF BULK AT MOST 1048576: true; the input reads as it did. -/
def senderTicksUptoRow : OpenClaim := { program := "ytlhpmnnbjkbahaa", sum := "1a658f695140f2a6d12b80f6b1f981812346875984a87c0ea03e82f994e529e6", func := "lamplighter/lamplighterlaw16.SenderTicks", spec := "senderTicks", inPlace := ["math.Float64frombits"], unfollowed := true, recurses := true, apart := false, narrowed := true }
def SenderTicksUptoSaid : Prop := senderTicksUptoRow.holds Try.pinned (OpenSpec.upto senderTicksSpec)

/-- 'lamplighterlaw16.SenderNone', WHERE WHAT IT READS IS OF BULK AT MOST 1048576: true; the input reads as it did. -/
def senderNoneUptoRow : OpenClaim := { program := "ytlhpmnnbjkbahaa", sum := "1a658f695140f2a6d12b80f6b1f981812346875984a87c0ea03e82f994e529e6", func := "lamplighter/lamplighterlaw16.SenderNone", spec := "senderNone", apart := false, narrowed := true }
def SenderNoneUptoSaid : Prop := senderNoneUptoRow.holds Try.pinned (OpenSpec.upto senderNoneSpec)

/-- 'lamplighterlaw16.SenderActs', WHERE WHAT IT READS IS OF BULK AT MOST 1048576: true; the input reads as it did. -/
def senderActsUptoRow : OpenClaim := { program := "ytlhpmnnbjkbahaa", sum := "1a658f695140f2a6d12b80f6b1f981812346875984a87c0ea03e82f994e529e6", func := "lamplighter/lamplighterlaw16.SenderActs", spec := "senderActs", inPlace := ["math.Float64frombits"], unfollowed := true, recurses := true, apart := false, narrowed := true }
def SenderActsUptoSaid : Prop := senderActsUptoRow.holds Try.pinned (OpenSpec.upto senderActsSpec)

/-- 'lamplighterlaw16.SenderOrder', WHERE WHAT IT READS IS OF BULK AT MOST 1048576: true; the input reads as it did. -/
def senderOrderUptoRow : OpenClaim := { program := "ytlhpmnnbjkbahaa", sum := "1a658f695140f2a6d12b80f6b1f981812346875984a87c0ea03e82f994e529e6", func := "lamplighter/lamplighterlaw16.SenderOrder", spec := "senderOrder", inPlace := ["math.Float64frombits"], unfollowed := true, recurses := true, apart := false, narrowed := true }
def SenderOrderUptoSaid : Prop := senderOrderUptoRow.holds Try.pinned (OpenSpec.upto senderOrderSpec)

/-- 'lamplighterlaw16.SenderLives', WHERE WHAT IT READS IS OF BULK AT MOST 1048576: true; the input reads as it did. -/
def senderLivesUptoRow : OpenClaim := { program := "ytlhpmnnbjkbahaa", sum := "1a658f695140f2a6d12b80f6b1f981812346875984a87c0ea03e82f994e529e6", func := "lamplighter/lamplighterlaw16.SenderLives", spec := "senderLives", inPlace := ["math.Float64frombits"], unfollowed := true, recurses := true, apart := false, narrowed := true }
def SenderLivesUptoSaid : Prop := senderLivesUptoRow.holds Try.pinned (OpenSpec.upto senderLivesSpec)

/-- 'lamplighterlaw16.SenderFails', WHERE WHAT IT READS IS OF BULK AT MOST 1048576: true; the input reads as it did. -/
def senderFailsUptoRow : OpenClaim := { program := "ytlhpmnnbjkbahaa", sum := "1a658f695140f2a6d12b80f6b1f981812346875984a87c0ea03e82f994e529e6", func := "lamplighter/lamplighterlaw16.SenderFails", spec := "senderFails", inPlace := ["math.Float64frombits"], unfollowed := true, recurses := true, apart := false, narrowed := true }
def SenderFailsUptoSaid : Prop := senderFailsUptoRow.holds Try.pinned (OpenSpec.upto senderFailsSpec)

end Rows
end Go.Proofs.Ytlhpmnnbjkbahaa
