/- An argument that is a slice of steps, opened. -/
import Derived.Test.YtdkgjllpmfanlaaKit
import Derived.Test.YtdkgjllpmfanlaaRf
import Derived.Deep.SlicePairs
namespace Go.Proofs.Ytdkgjllpmfanlaa
open Go.ChangeShapes Go.WideShapes Go.ChangeAt Go.RowKit Go.Deep

theorem open_steps {H : Type} {enc : TypeId × Value → H} {w : World} {spare : Nat → Bool} {held : Bool} {r : Reach} {b0 : Nat} {v : Value} {d : DataW H} {p : List MemPlace}
    (hv : Value.okWide Try.prog w r b0 22 v) (h : DataW.Trod enc Try.prog w 0 spare held 22 v d p) : ∃ (pa : Option Addr) (n cp : Nat) (K X : Nat → Int), v = .slice pa n cp ∧ StepsAt w pa n K X := by
  obtain ⟨a0, len, cap, rfl⟩ := okWide_slice Try.underlying22 hv
  obtain ⟨fuel, hf⟩ := h
  have hc : Value.cells (.slice a0 len cap) = #[.slice a0 len cap] := rfl
  rcases open_slice_pairs Try.underlying22 Try.underlying26 (by kernel_rfl) rfl rfl (by kernel_rfl) (by kernel_rfl) hf with ⟨hcs, hx⟩ | ⟨a, len', cap', m, n, V0, V1, D0, D1, P0, P1, hcs, _, hl, hm, hmm, hx, hi⟩
  · simp [hc] at hcs
    obtain ⟨rfl, rfl, rfl⟩ := hcs
    exact ⟨none, 0, 0, fun _ => 0, fun _ => 0, rfl, fun j hj => by omega⟩
  · simp [hc] at hcs
    obtain ⟨rfl, rfl, rfl⟩ := hcs
    refine ⟨some a, len, cap, fun i => intOf (V0 i), fun i => intOf (V1 i), rfl, fun j hj => ?_⟩
    have h00 := (hi 0 (by rw [hmm]; split <;> omega)).1
    obtain ⟨b, off, spot⟩ := a
    have hspot : spot = none := by simpa [Addr.add] using World.cell?_spot h00
    subst hspot
    obtain ⟨h0, h1, t0, t1⟩ := hi j (by rw [hmm]; split <;> omega)
    obtain ⟨x, e0, _, _⟩ := DataW.trod_int Try.underlying3 t0
    obtain ⟨y, e1, _, _⟩ := DataW.trod_int Try.underlying3 t1
    simp at e0 e1
    rw [e0] at h0
    rw [e1] at h1
    rw [Addr.add_lit] at h0 h1
    refine ⟨b, off, rfl, ?_, ?_⟩
    · rw [h0]; simp [e0, intOf]
    · rw [Nat.add_assoc, h1]; simp [e1, intOf]
end Go.Proofs.Ytdkgjllpmfanlaa
