/-
  NARROWER THAN 'FOR EVERY INPUT', by the rows' own cells (each row's printed sentence says how): DeframeBack: laid · DeframeBreaks: laid · FrameWraps: laid · FrameParts: laid · FrameTurns: laid · FrameUnwraps: laid · FrameBack: laid · FrameCuts: laid.
  DERIVED. THE GIVEN ROWS OF THIS SEAT. 8 by the template 'for every input the law returns true; each argument reads behind the call as it read before'; 0 by the template 'total and deterministic' (their statements: YthhbohpmbkdkeaaDoorTotals.lean).
  GIVEN WITH THE SEED: the statements are not yours to turn. If you find one false, say at which input.
  Laid BY PROGRAM, IN A SANDBOX (cutbox-rows.mjs): the forced cells as the released guide's own fill.sh prints them over the translation 14af1bfb0f70720d… (all of the seat's roots in one cut). By AI agents, Wed Nov 11 2026. No macro, syntax, notation, axiom, sorry.
-/
import Derived.Test.YthhbohpmbkdkeaaDoorChecked
import GoSem.Claim
import GoSem.ClaimJoined
import GoSem.ClaimMapViews
import Derived.JoinedTies
import Derived.KernelRfl
namespace Go.Proofs.YthhbohpmbkdkeaaDoor
/- THE CELL 'sum', in the pinned program and in every row, IS THE sha256 OF THE DUMP (.gsa) THAT YthhbohpmbkdkeaaDoorProg.lean LOADS. Nothing in Lean hashes anything: it is a label: what it is worth is what the hold of that sum in a sandbox is worth. -/
noncomputable def Tryd.pinned : Pinned := { name := "ythhbohpmbkdkeaadoor", sum := "14af1bfb0f70720d9445ebd2c288ad2fbe218fea3ce04b5814e6339a824fc448", checked := Tryd.checked }
namespace Rows
def none {H : Type} : Left H := { results := [], args := [] }

/- WHAT THE LISTED PACKAGE-LEVEL VARIABLES READ AS WHEN THE CALL BEGINS. Each datum BY PROGRAM (the guide's laid-datum.mjs) off the statement by which the dump's own 'gosem.cut.vars' lays the variable. In a bare row this is a premise. The card (YthhbohpmbkdkeaaDoorCards.lean) ties it to the program's text. -/
def laid_lamplighter_frame_ends {H : Type} : DataW H := .agg [.lit (.int .u8 28), .lit (.int .u8 13)]

/-- 'lamplighterlaw05.DeframeBack': WHATEVER THE INPUT: true; the input reads as it did. -/
def deframeBackSpec : ChangeSpec := { name := "deframeBack", fn := fun _ => fun
  | [d1, d2, d3] => { results := [.lit (.bool true)], args := [d1, d2, d3] }
  | _ => none }
def deframeBackRow : OpenClaim := { program := "ythhbohpmbkdkeaadoor", sum := "14af1bfb0f70720d9445ebd2c288ad2fbe218fea3ce04b5814e6339a824fc448", func := "lamplighter/lamplighterlaw05.DeframeBack", spec := "deframeBack", inPlace := ["internal/bytealg.IndexByte", "internal/bytealg.Index"], unfollowed := true, recurses := true, named := ["lamplighter/frame.ends", "internal/bytealg.MaxLen"], apart := false, laid := [("lamplighter/frame.ends", laid_lamplighter_frame_ends)] }
def DeframeBackSaid : Prop := deframeBackRow.holds Tryd.pinned (OpenSpec.ofChange deframeBackSpec)

/-- ITS FALSE NEIGHBOUR: 'it returns false'. Refute it at one input. -/
def deframeBackWrong : ChangeSpec := { name := "deframeBack", fn := fun _ => fun
  | [d1, d2, d3] => { results := [.lit (.bool false)], args := [d1, d2, d3] }
  | _ => none }
def DeframeBackWrongFalsely : Prop := deframeBackRow.holds Tryd.pinned (OpenSpec.ofChange deframeBackWrong)

/-- 'lamplighterlaw05.DeframeBreaks': WHATEVER THE INPUT: true; the input reads as it did. -/
def deframeBreaksSpec : ChangeSpec := { name := "deframeBreaks", fn := fun _ => fun
  | [d1, d2, d3] => { results := [.lit (.bool true)], args := [d1, d2, d3] }
  | _ => none }
def deframeBreaksRow : OpenClaim := { program := "ythhbohpmbkdkeaadoor", sum := "14af1bfb0f70720d9445ebd2c288ad2fbe218fea3ce04b5814e6339a824fc448", func := "lamplighter/lamplighterlaw05.DeframeBreaks", spec := "deframeBreaks", inPlace := ["internal/bytealg.IndexByte", "internal/bytealg.Index"], unfollowed := true, recurses := true, named := ["lamplighter/frame.ends", "internal/bytealg.MaxLen"], apart := false, laid := [("lamplighter/frame.ends", laid_lamplighter_frame_ends)] }
def DeframeBreaksSaid : Prop := deframeBreaksRow.holds Tryd.pinned (OpenSpec.ofChange deframeBreaksSpec)

/-- ITS FALSE NEIGHBOUR: 'it returns false'. Refute it at one input. -/
def deframeBreaksWrong : ChangeSpec := { name := "deframeBreaks", fn := fun _ => fun
  | [d1, d2, d3] => { results := [.lit (.bool false)], args := [d1, d2, d3] }
  | _ => none }
def DeframeBreaksWrongFalsely : Prop := deframeBreaksRow.holds Tryd.pinned (OpenSpec.ofChange deframeBreaksWrong)

/-- 'lamplighterlaw04.FrameWraps': WHATEVER THE INPUT: true; the input reads as it did. -/
def frameWrapsSpec : ChangeSpec := { name := "frameWraps", fn := fun _ => fun
  | [d1, d2] => { results := [.lit (.bool true)], args := [d1, d2] }
  | _ => none }
def frameWrapsRow : OpenClaim := { program := "ythhbohpmbkdkeaadoor", sum := "14af1bfb0f70720d9445ebd2c288ad2fbe218fea3ce04b5814e6339a824fc448", func := "lamplighter/lamplighterlaw04.FrameWraps", spec := "frameWraps", inPlace := ["internal/bytealg.IndexByte", "internal/bytealg.Index"], named := ["lamplighter/frame.ends", "internal/bytealg.MaxLen"], apart := false, laid := [("lamplighter/frame.ends", laid_lamplighter_frame_ends)] }
def FrameWrapsSaid : Prop := frameWrapsRow.holds Tryd.pinned (OpenSpec.ofChange frameWrapsSpec)

/-- ITS FALSE NEIGHBOUR: 'it returns false'. Refute it at one input. -/
def frameWrapsWrong : ChangeSpec := { name := "frameWraps", fn := fun _ => fun
  | [d1, d2] => { results := [.lit (.bool false)], args := [d1, d2] }
  | _ => none }
def FrameWrapsWrongFalsely : Prop := frameWrapsRow.holds Tryd.pinned (OpenSpec.ofChange frameWrapsWrong)

/-- 'lamplighterlaw04.FrameParts': WHATEVER THE INPUT: true; the input reads as it did. -/
def framePartsSpec : ChangeSpec := { name := "frameParts", fn := fun _ => fun
  | [d1, d2] => { results := [.lit (.bool true)], args := [d1, d2] }
  | _ => none }
def framePartsRow : OpenClaim := { program := "ythhbohpmbkdkeaadoor", sum := "14af1bfb0f70720d9445ebd2c288ad2fbe218fea3ce04b5814e6339a824fc448", func := "lamplighter/lamplighterlaw04.FrameParts", spec := "frameParts", inPlace := ["internal/bytealg.IndexByte", "internal/bytealg.Index"], named := ["lamplighter/frame.ends", "internal/bytealg.MaxLen"], apart := false, laid := [("lamplighter/frame.ends", laid_lamplighter_frame_ends)] }
def FramePartsSaid : Prop := framePartsRow.holds Tryd.pinned (OpenSpec.ofChange framePartsSpec)

/-- ITS FALSE NEIGHBOUR: 'it returns false'. Refute it at one input. -/
def framePartsWrong : ChangeSpec := { name := "frameParts", fn := fun _ => fun
  | [d1, d2] => { results := [.lit (.bool false)], args := [d1, d2] }
  | _ => none }
def FramePartsWrongFalsely : Prop := framePartsRow.holds Tryd.pinned (OpenSpec.ofChange framePartsWrong)

/-- 'lamplighterlaw04.FrameTurns': WHATEVER THE INPUT: true; the input reads as it did. -/
def frameTurnsSpec : ChangeSpec := { name := "frameTurns", fn := fun _ => fun
  | [d1, d2, d3] => { results := [.lit (.bool true)], args := [d1, d2, d3] }
  | _ => none }
def frameTurnsRow : OpenClaim := { program := "ythhbohpmbkdkeaadoor", sum := "14af1bfb0f70720d9445ebd2c288ad2fbe218fea3ce04b5814e6339a824fc448", func := "lamplighter/lamplighterlaw04.FrameTurns", spec := "frameTurns", inPlace := ["internal/bytealg.IndexByte", "internal/bytealg.Index"], named := ["lamplighter/frame.ends", "internal/bytealg.MaxLen"], apart := false, laid := [("lamplighter/frame.ends", laid_lamplighter_frame_ends)] }
def FrameTurnsSaid : Prop := frameTurnsRow.holds Tryd.pinned (OpenSpec.ofChange frameTurnsSpec)

/-- ITS FALSE NEIGHBOUR: 'it returns false'. Refute it at one input. -/
def frameTurnsWrong : ChangeSpec := { name := "frameTurns", fn := fun _ => fun
  | [d1, d2, d3] => { results := [.lit (.bool false)], args := [d1, d2, d3] }
  | _ => none }
def FrameTurnsWrongFalsely : Prop := frameTurnsRow.holds Tryd.pinned (OpenSpec.ofChange frameTurnsWrong)

/-- 'lamplighterlaw04.FrameUnwraps': WHATEVER THE INPUT: true; the input reads as it did. -/
def frameUnwrapsSpec : ChangeSpec := { name := "frameUnwraps", fn := fun _ => fun
  | [d] => { results := [.lit (.bool true)], args := [d] }
  | _ => none }
def frameUnwrapsRow : OpenClaim := { program := "ythhbohpmbkdkeaadoor", sum := "14af1bfb0f70720d9445ebd2c288ad2fbe218fea3ce04b5814e6339a824fc448", func := "lamplighter/lamplighterlaw04.FrameUnwraps", spec := "frameUnwraps", inPlace := ["internal/bytealg.IndexByte", "internal/bytealg.Index"], named := ["lamplighter/frame.ends", "internal/bytealg.MaxLen"], apart := false, laid := [("lamplighter/frame.ends", laid_lamplighter_frame_ends)] }
def FrameUnwrapsSaid : Prop := frameUnwrapsRow.holds Tryd.pinned (OpenSpec.ofChange frameUnwrapsSpec)

/-- ITS FALSE NEIGHBOUR: 'it returns false'. Refute it at one input. -/
def frameUnwrapsWrong : ChangeSpec := { name := "frameUnwraps", fn := fun _ => fun
  | [d] => { results := [.lit (.bool false)], args := [d] }
  | _ => none }
def FrameUnwrapsWrongFalsely : Prop := frameUnwrapsRow.holds Tryd.pinned (OpenSpec.ofChange frameUnwrapsWrong)

/-- 'lamplighterlaw04.FrameBack': WHATEVER THE INPUT: true; the input reads as it did. -/
def frameBackSpec : ChangeSpec := { name := "frameBack", fn := fun _ => fun
  | [d] => { results := [.lit (.bool true)], args := [d] }
  | _ => none }
def frameBackRow : OpenClaim := { program := "ythhbohpmbkdkeaadoor", sum := "14af1bfb0f70720d9445ebd2c288ad2fbe218fea3ce04b5814e6339a824fc448", func := "lamplighter/lamplighterlaw04.FrameBack", spec := "frameBack", inPlace := ["internal/bytealg.IndexByte", "internal/bytealg.Index"], named := ["lamplighter/frame.ends", "internal/bytealg.MaxLen"], apart := false, laid := [("lamplighter/frame.ends", laid_lamplighter_frame_ends)] }
def FrameBackSaid : Prop := frameBackRow.holds Tryd.pinned (OpenSpec.ofChange frameBackSpec)

/-- ITS FALSE NEIGHBOUR: 'it returns false'. Refute it at one input. -/
def frameBackWrong : ChangeSpec := { name := "frameBack", fn := fun _ => fun
  | [d] => { results := [.lit (.bool false)], args := [d] }
  | _ => none }
def FrameBackWrongFalsely : Prop := frameBackRow.holds Tryd.pinned (OpenSpec.ofChange frameBackWrong)

/-- 'lamplighterlaw04.FrameCuts': WHATEVER THE INPUT: true; the input reads as it did. -/
def frameCutsSpec : ChangeSpec := { name := "frameCuts", fn := fun _ => fun
  | [d1, d2] => { results := [.lit (.bool true)], args := [d1, d2] }
  | _ => none }
def frameCutsRow : OpenClaim := { program := "ythhbohpmbkdkeaadoor", sum := "14af1bfb0f70720d9445ebd2c288ad2fbe218fea3ce04b5814e6339a824fc448", func := "lamplighter/lamplighterlaw04.FrameCuts", spec := "frameCuts", inPlace := ["internal/bytealg.IndexByte", "internal/bytealg.Index"], named := ["lamplighter/frame.ends", "internal/bytealg.MaxLen"], apart := false, laid := [("lamplighter/frame.ends", laid_lamplighter_frame_ends)] }
def FrameCutsSaid : Prop := frameCutsRow.holds Tryd.pinned (OpenSpec.ofChange frameCutsSpec)

/-- ITS FALSE NEIGHBOUR: 'it returns false'. Refute it at one input. -/
def frameCutsWrong : ChangeSpec := { name := "frameCuts", fn := fun _ => fun
  | [d1, d2] => { results := [.lit (.bool false)], args := [d1, d2] }
  | _ => none }
def FrameCutsWrongFalsely : Prop := frameCutsRow.holds Tryd.pinned (OpenSpec.ofChange frameCutsWrong)

/- THE SECOND FORM. 'bulk': how many values and letters a reading holds, each counted each time it is reached (what is shared counts as often as it is met; a slice's spare places count too). A statement '..UptoSaid' is the law's where the arguments, and the package variables that the reading takes, are together of bulk at most 1048576: NARROWER than '..Said'. Prove '..Said' where nothing that the law and all that it calls make is longer than what came in: it says more and counts as full. Else prove '..UptoSaid'. A law counts once. -/
mutual
def uptoBulk {H : Type} : DataW H → Nat
  | .lit (.string bytes) => bytes.length + 1
  | .lit _ => 1
  | .nil => 1
  | .ptr d => uptoBulk d + 1
  | .slice elems spare => uptoBulkAll elems + uptoBulkAll spare + 1
  | .agg parts => uptoBulkAll parts + 1
  | .iface _ d => uptoBulk d + 1
  | .map entries => uptoBulkEntries entries + 1
  | .held _ => 1
def uptoBulkAll {H : Type} : List (DataW H) → Nat
  | [] => 0
  | d :: r => uptoBulk d + uptoBulkAll r
def uptoBulkEntries {H : Type} : List (Lit × DataW H) → Nat
  | [] => 0
  | x :: r => uptoBulkEntry x + uptoBulkEntries r
def uptoBulkEntry {H : Type} : Lit × DataW H → Nat
  | (.string bytes, d) => bytes.length + uptoBulk d + 1
  | (_, d) => uptoBulk d + 1
 end
def uptoSmall : (H : Type) → List (DataW H) → Bool := fun _ ds => decide (uptoBulkAll ds ≤ 1048576)
def OpenSpec.upto (s : _root_.Go.ChangeSpec) : _root_.Go.OpenSpec := { _root_.Go.OpenSpec.ofChange s with cond := some uptoSmall }

/-- 'lamplighterlaw05.DeframeBack', WHERE WHAT IT READS IS OF BULK AT MOST 1048576: true; the input reads as it did. -/
def deframeBackUptoRow : OpenClaim := { program := "ythhbohpmbkdkeaadoor", sum := "14af1bfb0f70720d9445ebd2c288ad2fbe218fea3ce04b5814e6339a824fc448", func := "lamplighter/lamplighterlaw05.DeframeBack", spec := "deframeBack", inPlace := ["internal/bytealg.IndexByte", "internal/bytealg.Index"], unfollowed := true, recurses := true, named := ["lamplighter/frame.ends", "internal/bytealg.MaxLen"], apart := false, laid := [("lamplighter/frame.ends", laid_lamplighter_frame_ends)], narrowed := true }
def DeframeBackUptoSaid : Prop := deframeBackUptoRow.holds Tryd.pinned (OpenSpec.upto deframeBackSpec)

/-- 'lamplighterlaw05.DeframeBreaks', WHERE WHAT IT READS IS OF BULK AT MOST 1048576: true; the input reads as it did. -/
def deframeBreaksUptoRow : OpenClaim := { program := "ythhbohpmbkdkeaadoor", sum := "14af1bfb0f70720d9445ebd2c288ad2fbe218fea3ce04b5814e6339a824fc448", func := "lamplighter/lamplighterlaw05.DeframeBreaks", spec := "deframeBreaks", inPlace := ["internal/bytealg.IndexByte", "internal/bytealg.Index"], unfollowed := true, recurses := true, named := ["lamplighter/frame.ends", "internal/bytealg.MaxLen"], apart := false, laid := [("lamplighter/frame.ends", laid_lamplighter_frame_ends)], narrowed := true }
def DeframeBreaksUptoSaid : Prop := deframeBreaksUptoRow.holds Tryd.pinned (OpenSpec.upto deframeBreaksSpec)

/-- 'lamplighterlaw04.FrameWraps', WHERE WHAT IT READS IS OF BULK AT MOST 1048576: true; the input reads as it did. -/
def frameWrapsUptoRow : OpenClaim := { program := "ythhbohpmbkdkeaadoor", sum := "14af1bfb0f70720d9445ebd2c288ad2fbe218fea3ce04b5814e6339a824fc448", func := "lamplighter/lamplighterlaw04.FrameWraps", spec := "frameWraps", inPlace := ["internal/bytealg.IndexByte", "internal/bytealg.Index"], named := ["lamplighter/frame.ends", "internal/bytealg.MaxLen"], apart := false, laid := [("lamplighter/frame.ends", laid_lamplighter_frame_ends)], narrowed := true }
def FrameWrapsUptoSaid : Prop := frameWrapsUptoRow.holds Tryd.pinned (OpenSpec.upto frameWrapsSpec)

/-- 'lamplighterlaw04.FrameParts', WHERE WHAT IT READS IS OF BULK AT MOST 1048576: true; the input reads as it did. -/
def framePartsUptoRow : OpenClaim := { program := "ythhbohpmbkdkeaadoor", sum := "14af1bfb0f70720d9445ebd2c288ad2fbe218fea3ce04b5814e6339a824fc448", func := "lamplighter/lamplighterlaw04.FrameParts", spec := "frameParts", inPlace := ["internal/bytealg.IndexByte", "internal/bytealg.Index"], named := ["lamplighter/frame.ends", "internal/bytealg.MaxLen"], apart := false, laid := [("lamplighter/frame.ends", laid_lamplighter_frame_ends)], narrowed := true }
def FramePartsUptoSaid : Prop := framePartsUptoRow.holds Tryd.pinned (OpenSpec.upto framePartsSpec)

/-- 'lamplighterlaw04.FrameTurns', WHERE WHAT IT READS IS OF BULK AT MOST 1048576: true; the input reads as it did. -/
def frameTurnsUptoRow : OpenClaim := { program := "ythhbohpmbkdkeaadoor", sum := "14af1bfb0f70720d9445ebd2c288ad2fbe218fea3ce04b5814e6339a824fc448", func := "lamplighter/lamplighterlaw04.FrameTurns", spec := "frameTurns", inPlace := ["internal/bytealg.IndexByte", "internal/bytealg.Index"], named := ["lamplighter/frame.ends", "internal/bytealg.MaxLen"], apart := false, laid := [("lamplighter/frame.ends", laid_lamplighter_frame_ends)], narrowed := true }
def FrameTurnsUptoSaid : Prop := frameTurnsUptoRow.holds Tryd.pinned (OpenSpec.upto frameTurnsSpec)

/-- 'lamplighterlaw04.FrameUnwraps', WHERE WHAT IT READS IS OF BULK AT MOST 1048576: true; the input reads as it did. -/
def frameUnwrapsUptoRow : OpenClaim := { program := "ythhbohpmbkdkeaadoor", sum := "14af1bfb0f70720d9445ebd2c288ad2fbe218fea3ce04b5814e6339a824fc448", func := "lamplighter/lamplighterlaw04.FrameUnwraps", spec := "frameUnwraps", inPlace := ["internal/bytealg.IndexByte", "internal/bytealg.Index"], named := ["lamplighter/frame.ends", "internal/bytealg.MaxLen"], apart := false, laid := [("lamplighter/frame.ends", laid_lamplighter_frame_ends)], narrowed := true }
def FrameUnwrapsUptoSaid : Prop := frameUnwrapsUptoRow.holds Tryd.pinned (OpenSpec.upto frameUnwrapsSpec)

/-- 'lamplighterlaw04.FrameBack', WHERE WHAT IT READS IS OF BULK AT MOST 1048576: true; the input reads as it did. -/
def frameBackUptoRow : OpenClaim := { program := "ythhbohpmbkdkeaadoor", sum := "14af1bfb0f70720d9445ebd2c288ad2fbe218fea3ce04b5814e6339a824fc448", func := "lamplighter/lamplighterlaw04.FrameBack", spec := "frameBack", inPlace := ["internal/bytealg.IndexByte", "internal/bytealg.Index"], named := ["lamplighter/frame.ends", "internal/bytealg.MaxLen"], apart := false, laid := [("lamplighter/frame.ends", laid_lamplighter_frame_ends)], narrowed := true }
def FrameBackUptoSaid : Prop := frameBackUptoRow.holds Tryd.pinned (OpenSpec.upto frameBackSpec)

/-- 'lamplighterlaw04.FrameCuts', WHERE WHAT IT READS IS OF BULK AT MOST 1048576: true; the input reads as it did. -/
def frameCutsUptoRow : OpenClaim := { program := "ythhbohpmbkdkeaadoor", sum := "14af1bfb0f70720d9445ebd2c288ad2fbe218fea3ce04b5814e6339a824fc448", func := "lamplighter/lamplighterlaw04.FrameCuts", spec := "frameCuts", inPlace := ["internal/bytealg.IndexByte", "internal/bytealg.Index"], named := ["lamplighter/frame.ends", "internal/bytealg.MaxLen"], apart := false, laid := [("lamplighter/frame.ends", laid_lamplighter_frame_ends)], narrowed := true }
def FrameCutsUptoSaid : Prop := frameCutsUptoRow.holds Tryd.pinned (OpenSpec.upto frameCutsSpec)

end Rows
end Go.Proofs.YthhbohpmbkdkeaaDoor
