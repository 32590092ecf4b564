/- An argument that is a row of bytes, opened. -/
import Derived.Test.YthhbohpmbkdkeaaDoorKit
import Derived.Test.YthhbohpmbkdkeaaDoorJu
namespace Go.Proofs.YthhbohpmbkdkeaaDoor
open Go.ChangeShapes Go.WideShapes Go.ChangeAt Go.RowKit

theorem open_bytes {H : Type} {enc : TypeId × Value → H} {w : World} {spare : Nat → Bool} {held : Bool} {r : Reach} {b0 : Nat} {v : Value} {d : DataW H} {p : List MemPlace}
    (hv : Value.okWide Tryd.prog w r b0 23 v) (h : DataW.Trod enc Tryd.prog w 0 spare held 23 v d p) : ∃ (pa : Option Addr) (n cp : Nat) (bs : List Int), v = .slice pa n cp ∧ ArgB w pa n bs := by
  obtain ⟨a0, len, cap, rfl⟩ := okWide_slice Tryd.underlying23 hv
  obtain ⟨fuel, hf⟩ := h
  rcases open_ints Tryd.underlying23 Tryd.underlying5 (by kernel_rfl) hf with ⟨hcs, hx⟩ | ⟨a, len', cap', zs, hcs, _, hl, hm, hz, hx, hcell, hwz⟩
  · have hc : Value.cells (.slice a0 len cap) = #[.slice a0 len cap] := rfl
    simp [hc] at hcs
    obtain ⟨rfl, rfl, rfl⟩ := hcs
    exact ⟨none, 0, 0, [], rfl, rfl, fun j x hj => by simp at hj, fun x hx => by simp at hx⟩
  · have hc : Value.cells (.slice a0 len cap) = #[.slice a0 len cap] := rfl
    simp [hc] at hcs
    obtain ⟨rfl, rfl, rfl⟩ := hcs
    have hlz : len ≤ zs.length := by rw [hz]; split <;> omega
    refine ⟨some a, len, cap, zs.take len, rfl, by rw [List.length_take]; omega, fun j x hj => ?_, fun x hx => ?_⟩
    · have hjl : j < len := by have := (List.getElem?_eq_some_iff.1 hj).1; rw [List.length_take] at this; omega
      rw [List.getElem?_take_of_lt hjl] at hj
      have hc0 := hcell j (by omega)
      obtain ⟨b, off, spot⟩ := a
      have hspot : spot = none := by
        have h00 := hcell 0 (by omega)
        simpa [Addr.add] using World.cell?_spot h00
      subst hspot
      rw [Addr.add_lit] at hc0
      refine ⟨b, off, rfl, ?_⟩
      rw [hc0, List.getD_eq_getElem?_getD, hj]
      rfl
    · exact Kit.u8_of (hwz x (List.mem_of_mem_take hx))
end Go.Proofs.YthhbohpmbkdkeaaDoor
