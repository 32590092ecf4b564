/-
  No cell of these rows narrows 'for every input' (looked for: loops, veiled, ifaces, maps, wideKeys, modest, calm, conditions, laid).
  DERIVED. THE GIVEN ROWS OF THIS SEAT. 5 by the template 'for every input the law returns true; each argument reads behind the call as it read before'; 0 by the template 'total and deterministic' (their statements: YthhbohpmbkdkeaaTotals.lean).
  GIVEN WITH THE SEED: the statements are not yours to turn. If you find one false, say at which input.
  Laid BY PROGRAM, IN A SANDBOX (cutbox-rows.mjs): the forced cells as the released guide's own fill.sh prints them over the translation 778a51837a26c42c… (all of the seat's roots in one cut). By AI agents, Wed Nov 11 2026. No macro, syntax, notation, axiom, sorry.
-/
import Derived.Test.YthhbohpmbkdkeaaChecked
import GoSem.Claim
import GoSem.ClaimJoined
import GoSem.ClaimMapViews
import Derived.JoinedTies
import Derived.KernelRfl
namespace Go.Proofs.Ythhbohpmbkdkeaa
/- THE CELL 'sum', in the pinned program and in every row, IS THE sha256 OF THE DUMP (.gsa) THAT YthhbohpmbkdkeaaProg.lean LOADS. Nothing in Lean hashes anything: it is a label: what it is worth is what the hold of that sum in a sandbox is worth. -/
noncomputable def Try.pinned : Pinned := { name := "ythhbohpmbkdkeaa", sum := "778a51837a26c42c630d75c48a80caaf98e13370b31ee9e759b3242e750be7c1", checked := Try.checked }
namespace Rows
def none {H : Type} : Left H := { results := [], args := [] }

/-- 'lamplighterlaw05.DeframeFeeds': WHATEVER THE INPUT: true; the input reads as it did. -/
def deframeFeedsSpec : ChangeSpec := { name := "deframeFeeds", fn := fun _ => fun
  | [d1, d2] => { results := [.lit (.bool true)], args := [d1, d2] }
  | _ => none }
def deframeFeedsRow : OpenClaim := { program := "ythhbohpmbkdkeaa", sum := "778a51837a26c42c630d75c48a80caaf98e13370b31ee9e759b3242e750be7c1", func := "lamplighter/lamplighterlaw05.DeframeFeeds", spec := "deframeFeeds", unfollowed := true, recurses := true, apart := false }
def DeframeFeedsSaid : Prop := deframeFeedsRow.holds Try.pinned (OpenSpec.ofChange deframeFeedsSpec)

/-- ITS FALSE NEIGHBOUR: 'it returns false'. Refute it at one input. -/
def deframeFeedsWrong : ChangeSpec := { name := "deframeFeeds", fn := fun _ => fun
  | [d1, d2] => { results := [.lit (.bool false)], args := [d1, d2] }
  | _ => none }
def DeframeFeedsWrongFalsely : Prop := deframeFeedsRow.holds Try.pinned (OpenSpec.ofChange deframeFeedsWrong)

/-- 'lamplighterlaw05.DeframePieces': WHATEVER THE INPUT: true; the input reads as it did. -/
def deframePiecesSpec : ChangeSpec := { name := "deframePieces", fn := fun _ => fun
  | [d1, d2, d3] => { results := [.lit (.bool true)], args := [d1, d2, d3] }
  | _ => none }
def deframePiecesRow : OpenClaim := { program := "ythhbohpmbkdkeaa", sum := "778a51837a26c42c630d75c48a80caaf98e13370b31ee9e759b3242e750be7c1", func := "lamplighter/lamplighterlaw05.DeframePieces", spec := "deframePieces", unfollowed := true, recurses := true, apart := false }
def DeframePiecesSaid : Prop := deframePiecesRow.holds Try.pinned (OpenSpec.ofChange deframePiecesSpec)

/-- ITS FALSE NEIGHBOUR: 'it returns false'. Refute it at one input. -/
def deframePiecesWrong : ChangeSpec := { name := "deframePieces", fn := fun _ => fun
  | [d1, d2, d3] => { results := [.lit (.bool false)], args := [d1, d2, d3] }
  | _ => none }
def DeframePiecesWrongFalsely : Prop := deframePiecesRow.holds Try.pinned (OpenSpec.ofChange deframePiecesWrong)

/-- 'lamplighterlaw05.DeframeJunk': WHATEVER THE INPUT: true; the input reads as it did. -/
def deframeJunkSpec : ChangeSpec := { name := "deframeJunk", fn := fun _ => fun
  | [d1, d2] => { results := [.lit (.bool true)], args := [d1, d2] }
  | _ => none }
def deframeJunkRow : OpenClaim := { program := "ythhbohpmbkdkeaa", sum := "778a51837a26c42c630d75c48a80caaf98e13370b31ee9e759b3242e750be7c1", func := "lamplighter/lamplighterlaw05.DeframeJunk", spec := "deframeJunk", unfollowed := true, recurses := true, apart := false }
def DeframeJunkSaid : Prop := deframeJunkRow.holds Try.pinned (OpenSpec.ofChange deframeJunkSpec)

/-- ITS FALSE NEIGHBOUR: 'it returns false'. Refute it at one input. -/
def deframeJunkWrong : ChangeSpec := { name := "deframeJunk", fn := fun _ => fun
  | [d1, d2] => { results := [.lit (.bool false)], args := [d1, d2] }
  | _ => none }
def DeframeJunkWrongFalsely : Prop := deframeJunkRow.holds Try.pinned (OpenSpec.ofChange deframeJunkWrong)

/-- 'lamplighterlaw05.DeframeResets': WHATEVER THE INPUT: true; the input reads as it did. -/
def deframeResetsSpec : ChangeSpec := { name := "deframeResets", fn := fun _ => fun
  | [d1, d2, d3] => { results := [.lit (.bool true)], args := [d1, d2, d3] }
  | _ => none }
def deframeResetsRow : OpenClaim := { program := "ythhbohpmbkdkeaa", sum := "778a51837a26c42c630d75c48a80caaf98e13370b31ee9e759b3242e750be7c1", func := "lamplighter/lamplighterlaw05.DeframeResets", spec := "deframeResets", unfollowed := true, recurses := true, apart := false }
def DeframeResetsSaid : Prop := deframeResetsRow.holds Try.pinned (OpenSpec.ofChange deframeResetsSpec)

/-- ITS FALSE NEIGHBOUR: 'it returns false'. Refute it at one input. -/
def deframeResetsWrong : ChangeSpec := { name := "deframeResets", fn := fun _ => fun
  | [d1, d2, d3] => { results := [.lit (.bool false)], args := [d1, d2, d3] }
  | _ => none }
def DeframeResetsWrongFalsely : Prop := deframeResetsRow.holds Try.pinned (OpenSpec.ofChange deframeResetsWrong)

/-- 'lamplighterlaw05.DeframeNone': WHATEVER THE INPUT: true; the input reads as it did. -/
def deframeNoneSpec : ChangeSpec := { name := "deframeNone", fn := fun _ => fun
  | [d1, d2] => { results := [.lit (.bool true)], args := [d1, d2] }
  | _ => none }
def deframeNoneRow : OpenClaim := { program := "ythhbohpmbkdkeaa", sum := "778a51837a26c42c630d75c48a80caaf98e13370b31ee9e759b3242e750be7c1", func := "lamplighter/lamplighterlaw05.DeframeNone", spec := "deframeNone", unfollowed := true, recurses := true, apart := false }
def DeframeNoneSaid : Prop := deframeNoneRow.holds Try.pinned (OpenSpec.ofChange deframeNoneSpec)

/-- ITS FALSE NEIGHBOUR: 'it returns false'. Refute it at one input. -/
def deframeNoneWrong : ChangeSpec := { name := "deframeNone", fn := fun _ => fun
  | [d1, d2] => { results := [.lit (.bool false)], args := [d1, d2] }
  | _ => none }
def DeframeNoneWrongFalsely : Prop := deframeNoneRow.holds Try.pinned (OpenSpec.ofChange deframeNoneWrong)

/- THE SECOND FORM. 'bulk': how many values and letters a reading holds, each counted each time it is reached (what is shared counts as often as it is met; a slice's spare places count too). A statement '..UptoSaid' is the law's where the arguments, and the package variables that the reading takes, are together of bulk at most 1048576: NARROWER than '..Said'. Prove '..Said' where nothing that the law and all that it calls make is longer than what came in: it says more and counts as full. Else prove '..UptoSaid'. A law counts once. -/
mutual
def uptoBulk {H : Type} : DataW H → Nat
  | .lit (.string bytes) => bytes.length + 1
  | .lit _ => 1
  | .nil => 1
  | .ptr d => uptoBulk d + 1
  | .slice elems spare => uptoBulkAll elems + uptoBulkAll spare + 1
  | .agg parts => uptoBulkAll parts + 1
  | .iface _ d => uptoBulk d + 1
  | .map entries => uptoBulkEntries entries + 1
  | .held _ => 1
def uptoBulkAll {H : Type} : List (DataW H) → Nat
  | [] => 0
  | d :: r => uptoBulk d + uptoBulkAll r
def uptoBulkEntries {H : Type} : List (Lit × DataW H) → Nat
  | [] => 0
  | x :: r => uptoBulkEntry x + uptoBulkEntries r
def uptoBulkEntry {H : Type} : Lit × DataW H → Nat
  | (.string bytes, d) => bytes.length + uptoBulk d + 1
  | (_, d) => uptoBulk d + 1
 end
def uptoSmall : (H : Type) → List (DataW H) → Bool := fun _ ds => decide (uptoBulkAll ds ≤ 1048576)
def OpenSpec.upto (s : _root_.Go.ChangeSpec) : _root_.Go.OpenSpec := { _root_.Go.OpenSpec.ofChange s with cond := some uptoSmall }

/-- 'lamplighterlaw05.DeframeFeeds', WHERE WHAT IT READS IS OF BULK AT MOST 1048576: true; the input reads as it did. -/
def deframeFeedsUptoRow : OpenClaim := { program := "ythhbohpmbkdkeaa", sum := "778a51837a26c42c630d75c48a80caaf98e13370b31ee9e759b3242e750be7c1", func := "lamplighter/lamplighterlaw05.DeframeFeeds", spec := "deframeFeeds", unfollowed := true, recurses := true, apart := false, narrowed := true }
def DeframeFeedsUptoSaid : Prop := deframeFeedsUptoRow.holds Try.pinned (OpenSpec.upto deframeFeedsSpec)

/-- 'lamplighterlaw05.DeframePieces', WHERE WHAT IT READS IS OF BULK AT MOST 1048576: true; the input reads as it did. -/
def deframePiecesUptoRow : OpenClaim := { program := "ythhbohpmbkdkeaa", sum := "778a51837a26c42c630d75c48a80caaf98e13370b31ee9e759b3242e750be7c1", func := "lamplighter/lamplighterlaw05.DeframePieces", spec := "deframePieces", unfollowed := true, recurses := true, apart := false, narrowed := true }
def DeframePiecesUptoSaid : Prop := deframePiecesUptoRow.holds Try.pinned (OpenSpec.upto deframePiecesSpec)

/-- 'lamplighterlaw05.DeframeJunk', WHERE WHAT IT READS IS OF BULK AT MOST 1048576: true; the input reads as it did. -/
def deframeJunkUptoRow : OpenClaim := { program := "ythhbohpmbkdkeaa", sum := "778a51837a26c42c630d75c48a80caaf98e13370b31ee9e759b3242e750be7c1", func := "lamplighter/lamplighterlaw05.DeframeJunk", spec := "deframeJunk", unfollowed := true, recurses := true, apart := false, narrowed := true }
def DeframeJunkUptoSaid : Prop := deframeJunkUptoRow.holds Try.pinned (OpenSpec.upto deframeJunkSpec)

/-- 'lamplighterlaw05.DeframeResets', WHERE WHAT IT READS IS OF BULK AT MOST 1048576: true; the input reads as it did. -/
def deframeResetsUptoRow : OpenClaim := { program := "ythhbohpmbkdkeaa", sum := "778a51837a26c42c630d75c48a80caaf98e13370b31ee9e759b3242e750be7c1", func := "lamplighter/lamplighterlaw05.DeframeResets", spec := "deframeResets", unfollowed := true, recurses := true, apart := false, narrowed := true }
def DeframeResetsUptoSaid : Prop := deframeResetsUptoRow.holds Try.pinned (OpenSpec.upto deframeResetsSpec)

/-- 'lamplighterlaw05.DeframeNone', WHERE WHAT IT READS IS OF BULK AT MOST 1048576: true; the input reads as it did. -/
def deframeNoneUptoRow : OpenClaim := { program := "ythhbohpmbkdkeaa", sum := "778a51837a26c42c630d75c48a80caaf98e13370b31ee9e759b3242e750be7c1", func := "lamplighter/lamplighterlaw05.DeframeNone", spec := "deframeNone", unfollowed := true, recurses := true, apart := false, narrowed := true }
def DeframeNoneUptoSaid : Prop := deframeNoneUptoRow.holds Try.pinned (OpenSpec.upto deframeNoneSpec)

end Rows
end Go.Proofs.Ythhbohpmbkdkeaa
