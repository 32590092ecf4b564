/- An argument that is a row of bytes; a memory that only grew. -/
import Derived.Test.YthhbohpmbkdkeaaDoorRows
import Derived.WalkKit
namespace Go.Proofs.YthhbohpmbkdkeaaDoor
open Go.RowKit

/-- an argument that is a row of bytes -/
structure ArgB (w : World) (p : Option Addr) (n : Nat) (bs : List Int) : Prop where
  len : bs.length = n
  at_ : ∀ j x, bs[j]? = some x → ∃ b off, p = some ⟨b, off, none⟩ ∧ w.cell? ⟨b, off + j, none⟩ = some (.int .u8 x)
  byte : ∀ x ∈ bs, 0 ≤ x ∧ x ≤ 255

theorem below_keeps {W w' : World} (hq : Below W.heap.size W w') {p : Addr} {v : Value} (h : W.cell? p = some v) : w'.cell? p = some v := (hq.cell (World.block_lt_of_cell? W p h)).trans h
theorem alloc_keeps {W : World} {p : Addr} {v : Value} (h : W.cell? p = some v) (o : Obj) : (W.alloc o).cell? p = some v := (World.cell?_alloc_lt _ _ _ (World.block_lt_of_cell? W p h)).trans h

theorem ArgB.below {w w' : World} {p : Option Addr} {n : Nat} {bs : List Int} (h : ArgB w p n bs) (hb : Below w.heap.size w w') : ArgB w' p n bs :=
  ⟨h.len, fun j x hj => by obtain ⟨b, off, h1, h2⟩ := h.at_ j x hj; exact ⟨b, off, h1, below_keeps hb h2⟩, h.byte⟩

end Go.Proofs.YthhbohpmbkdkeaaDoor
