/- The walk of law05.DeframeJunk. -/
import Derived.Test.YthhbohpmbkdkeaaDoorAl
import Derived.Test.YthhbohpmbkdkeaaDoorAr
namespace Go.Proofs.YthhbohpmbkdkeaaDoor
open Go.RowKit

/-- what Moved leaves below -/
theorem Moved.below {w0 w w' : World} {S : Nat → Prop} (h : Below w0.heap.size w0 w) (hm : Moved w w' S) (hS : ∀ k, S k → w0.heap.size ≤ k) : Below w0.heap.size w0 w' :=
  ⟨hm.os.trans h.os, hm.tape.trans h.tape, hm.output.trans h.output, Nat.le_trans h.size hm.size, fun k hk => by
    rw [hm.block k (Nat.lt_of_lt_of_le hk h.size) (fun e => by have := hS k e; omega)]; exact h.block k hk⟩

end Go.Proofs.YthhbohpmbkdkeaaDoor
