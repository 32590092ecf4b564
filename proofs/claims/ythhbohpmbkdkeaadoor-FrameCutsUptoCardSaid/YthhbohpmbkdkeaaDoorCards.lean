/-
  DERIVED. GIVEN WITH THE SEED: THE CARDS: each row of YthhbohpmbkdkeaaDoorRows.lean that lists a variable, with what it lists TIED to the program's text (the seventh form; the later family's looks); each row that meets fmt, with fmt's text TOLD by the authors' own Lean function (tested against real Go, not proved from fmt's source: count such statements apart). THE CARD IS WHAT COUNTS. Prove the row's statement (the work); the ties are given (YthhbohpmbkdkeaaDoorTie.lean); close each card by the builder's one call (the guide's Derived/Test/ToyasCard.lean, 'card_holds'). Laid BY PROGRAM, IN A SANDBOX (cutbox-door.mjs). By AI agents, Wed Nov 11 2026. No macro, syntax, notation, axiom, sorry.
-/
import Derived.Test.YthhbohpmbkdkeaaDoorRows
import GoSem.ClaimSeven
namespace Go.Proofs.YthhbohpmbkdkeaaDoor
namespace Rows

/-- THE TIED CARD OF 'lamplighterlaw05.DeframeBack'. -/
def deframeBackCard : Claim7 := { stood := { row := deframeBackRow, standIns := [], harness := (true, "77706898648cc39447c2bf6d60ecdf271a5a194066ccba612cd1abe05290f2f0"), looks := false }, kinds := [], alts := [], laidByText := true, laidKinds := [.widerDeep], laidTests := true, laidLooks := .later }
def DeframeBackCardSaid : Prop := Claim7.holds Tryd.pinned (.plain (OpenSpec.ofChange deframeBackSpec)) deframeBackCard

/-- THE TIED CARD OF 'lamplighterlaw05.DeframeBreaks'. -/
def deframeBreaksCard : Claim7 := { stood := { row := deframeBreaksRow, standIns := [], harness := (true, "77706898648cc39447c2bf6d60ecdf271a5a194066ccba612cd1abe05290f2f0"), looks := false }, kinds := [], alts := [], laidByText := true, laidKinds := [.widerDeep], laidTests := true, laidLooks := .later }
def DeframeBreaksCardSaid : Prop := Claim7.holds Tryd.pinned (.plain (OpenSpec.ofChange deframeBreaksSpec)) deframeBreaksCard

/-- THE TIED CARD OF 'lamplighterlaw04.FrameWraps'. -/
def frameWrapsCard : Claim7 := { stood := { row := frameWrapsRow, standIns := [], harness := (true, "77706898648cc39447c2bf6d60ecdf271a5a194066ccba612cd1abe05290f2f0"), looks := false }, kinds := [], alts := [], laidByText := true, laidKinds := [.widerDeep], laidTests := true, laidLooks := .later }
def FrameWrapsCardSaid : Prop := Claim7.holds Tryd.pinned (.plain (OpenSpec.ofChange frameWrapsSpec)) frameWrapsCard

/-- THE TIED CARD OF 'lamplighterlaw04.FrameParts'. -/
def framePartsCard : Claim7 := { stood := { row := framePartsRow, standIns := [], harness := (true, "77706898648cc39447c2bf6d60ecdf271a5a194066ccba612cd1abe05290f2f0"), looks := false }, kinds := [], alts := [], laidByText := true, laidKinds := [.widerDeep], laidTests := true, laidLooks := .later }
def FramePartsCardSaid : Prop := Claim7.holds Tryd.pinned (.plain (OpenSpec.ofChange framePartsSpec)) framePartsCard

/-- THE TIED CARD OF 'lamplighterlaw04.FrameTurns'. -/
def frameTurnsCard : Claim7 := { stood := { row := frameTurnsRow, standIns := [], harness := (true, "77706898648cc39447c2bf6d60ecdf271a5a194066ccba612cd1abe05290f2f0"), looks := false }, kinds := [], alts := [], laidByText := true, laidKinds := [.widerDeep], laidTests := true, laidLooks := .later }
def FrameTurnsCardSaid : Prop := Claim7.holds Tryd.pinned (.plain (OpenSpec.ofChange frameTurnsSpec)) frameTurnsCard

/-- THE TIED CARD OF 'lamplighterlaw04.FrameUnwraps'. -/
def frameUnwrapsCard : Claim7 := { stood := { row := frameUnwrapsRow, standIns := [], harness := (true, "77706898648cc39447c2bf6d60ecdf271a5a194066ccba612cd1abe05290f2f0"), looks := false }, kinds := [], alts := [], laidByText := true, laidKinds := [.widerDeep], laidTests := true, laidLooks := .later }
def FrameUnwrapsCardSaid : Prop := Claim7.holds Tryd.pinned (.plain (OpenSpec.ofChange frameUnwrapsSpec)) frameUnwrapsCard

/-- THE TIED CARD OF 'lamplighterlaw04.FrameBack'. -/
def frameBackCard : Claim7 := { stood := { row := frameBackRow, standIns := [], harness := (true, "77706898648cc39447c2bf6d60ecdf271a5a194066ccba612cd1abe05290f2f0"), looks := false }, kinds := [], alts := [], laidByText := true, laidKinds := [.widerDeep], laidTests := true, laidLooks := .later }
def FrameBackCardSaid : Prop := Claim7.holds Tryd.pinned (.plain (OpenSpec.ofChange frameBackSpec)) frameBackCard

/-- THE TIED CARD OF 'lamplighterlaw04.FrameCuts'. -/
def frameCutsCard : Claim7 := { stood := { row := frameCutsRow, standIns := [], harness := (true, "77706898648cc39447c2bf6d60ecdf271a5a194066ccba612cd1abe05290f2f0"), looks := false }, kinds := [], alts := [], laidByText := true, laidKinds := [.widerDeep], laidTests := true, laidLooks := .later }
def FrameCutsCardSaid : Prop := Claim7.holds Tryd.pinned (.plain (OpenSpec.ofChange frameCutsSpec)) frameCutsCard

/-- THE SECOND FORM's CARD OF 'lamplighterlaw05.DeframeBack'. -/
def deframeBackUptoCard : Claim7 := { stood := { row := deframeBackUptoRow, standIns := [], harness := (true, "77706898648cc39447c2bf6d60ecdf271a5a194066ccba612cd1abe05290f2f0"), looks := false }, kinds := [], alts := [], laidByText := true, laidKinds := [.widerDeep], laidTests := true, laidLooks := .later }
def DeframeBackUptoCardSaid : Prop := Claim7.holds Tryd.pinned (.plain (OpenSpec.upto deframeBackSpec)) deframeBackUptoCard

/-- THE SECOND FORM's CARD OF 'lamplighterlaw05.DeframeBreaks'. -/
def deframeBreaksUptoCard : Claim7 := { stood := { row := deframeBreaksUptoRow, standIns := [], harness := (true, "77706898648cc39447c2bf6d60ecdf271a5a194066ccba612cd1abe05290f2f0"), looks := false }, kinds := [], alts := [], laidByText := true, laidKinds := [.widerDeep], laidTests := true, laidLooks := .later }
def DeframeBreaksUptoCardSaid : Prop := Claim7.holds Tryd.pinned (.plain (OpenSpec.upto deframeBreaksSpec)) deframeBreaksUptoCard

/-- THE SECOND FORM's CARD OF 'lamplighterlaw04.FrameWraps'. -/
def frameWrapsUptoCard : Claim7 := { stood := { row := frameWrapsUptoRow, standIns := [], harness := (true, "77706898648cc39447c2bf6d60ecdf271a5a194066ccba612cd1abe05290f2f0"), looks := false }, kinds := [], alts := [], laidByText := true, laidKinds := [.widerDeep], laidTests := true, laidLooks := .later }
def FrameWrapsUptoCardSaid : Prop := Claim7.holds Tryd.pinned (.plain (OpenSpec.upto frameWrapsSpec)) frameWrapsUptoCard

/-- THE SECOND FORM's CARD OF 'lamplighterlaw04.FrameParts'. -/
def framePartsUptoCard : Claim7 := { stood := { row := framePartsUptoRow, standIns := [], harness := (true, "77706898648cc39447c2bf6d60ecdf271a5a194066ccba612cd1abe05290f2f0"), looks := false }, kinds := [], alts := [], laidByText := true, laidKinds := [.widerDeep], laidTests := true, laidLooks := .later }
def FramePartsUptoCardSaid : Prop := Claim7.holds Tryd.pinned (.plain (OpenSpec.upto framePartsSpec)) framePartsUptoCard

/-- THE SECOND FORM's CARD OF 'lamplighterlaw04.FrameTurns'. -/
def frameTurnsUptoCard : Claim7 := { stood := { row := frameTurnsUptoRow, standIns := [], harness := (true, "77706898648cc39447c2bf6d60ecdf271a5a194066ccba612cd1abe05290f2f0"), looks := false }, kinds := [], alts := [], laidByText := true, laidKinds := [.widerDeep], laidTests := true, laidLooks := .later }
def FrameTurnsUptoCardSaid : Prop := Claim7.holds Tryd.pinned (.plain (OpenSpec.upto frameTurnsSpec)) frameTurnsUptoCard

/-- THE SECOND FORM's CARD OF 'lamplighterlaw04.FrameUnwraps'. -/
def frameUnwrapsUptoCard : Claim7 := { stood := { row := frameUnwrapsUptoRow, standIns := [], harness := (true, "77706898648cc39447c2bf6d60ecdf271a5a194066ccba612cd1abe05290f2f0"), looks := false }, kinds := [], alts := [], laidByText := true, laidKinds := [.widerDeep], laidTests := true, laidLooks := .later }
def FrameUnwrapsUptoCardSaid : Prop := Claim7.holds Tryd.pinned (.plain (OpenSpec.upto frameUnwrapsSpec)) frameUnwrapsUptoCard

/-- THE SECOND FORM's CARD OF 'lamplighterlaw04.FrameBack'. -/
def frameBackUptoCard : Claim7 := { stood := { row := frameBackUptoRow, standIns := [], harness := (true, "77706898648cc39447c2bf6d60ecdf271a5a194066ccba612cd1abe05290f2f0"), looks := false }, kinds := [], alts := [], laidByText := true, laidKinds := [.widerDeep], laidTests := true, laidLooks := .later }
def FrameBackUptoCardSaid : Prop := Claim7.holds Tryd.pinned (.plain (OpenSpec.upto frameBackSpec)) frameBackUptoCard

/-- THE SECOND FORM's CARD OF 'lamplighterlaw04.FrameCuts'. -/
def frameCutsUptoCard : Claim7 := { stood := { row := frameCutsUptoRow, standIns := [], harness := (true, "77706898648cc39447c2bf6d60ecdf271a5a194066ccba612cd1abe05290f2f0"), looks := false }, kinds := [], alts := [], laidByText := true, laidKinds := [.widerDeep], laidTests := true, laidLooks := .later }
def FrameCutsUptoCardSaid : Prop := Claim7.holds Tryd.pinned (.plain (OpenSpec.upto frameCutsSpec)) frameCutsUptoCard
end Rows
end Go.Proofs.YthhbohpmbkdkeaaDoor
