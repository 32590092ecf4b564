/- What the second form's bound gives: an argument that is a row of bytes has at most so many. -/
import Derived.Test.YthhbohpmbkdkeaaDoorRk
namespace Go.Proofs.YthhbohpmbkdkeaaDoor.Bu
open Go.ChangeShapes Go.WideShapes Go.ChangeAt Go.RowKit

theorem one_le {H : Type} (d : DataW H) : 1 ≤ Rows.uptoBulk d := by
  cases d with
  | lit l => cases l <;> simp [Rows.uptoBulk]
  | nil => simp [Rows.uptoBulk]
  | ptr d => simp [Rows.uptoBulk]
  | slice elems spare => simp [Rows.uptoBulk]
  | agg parts => simp [Rows.uptoBulk]
  | iface t d => simp [Rows.uptoBulk]
  | map entries => simp [Rows.uptoBulk]
  | held h => simp [Rows.uptoBulk]

theorem part_le {H : Type} {d : DataW H} {l : List (DataW H)} (h : d ∈ l) : Rows.uptoBulk d ≤ Rows.uptoBulkAll l := by
  induction l with
  | nil => cases h
  | cons x r ih =>
    simp only [Rows.uptoBulkAll]
    cases List.mem_cons.1 h with
    | inl e => subst e; omega
    | inr e => have := ih e; omega

theorem length_le {H : Type} (l : List (DataW H)) : l.length ≤ Rows.uptoBulkAll l := by
  induction l with
  | nil => simp [Rows.uptoBulkAll]
  | cons x r ih => have := one_le x; simp only [Rows.uptoBulkAll, List.length_cons]; omega

theorem bound {H : Type} {l : List (DataW H)} (hk : Rows.uptoSmall H l = true) : Rows.uptoBulkAll l ≤ 1048576 := of_decide_eq_true hk

/-- a row of bytes has at most as many as its reading's bulk -/
theorem open_bytes_le {H : Type} {enc : TypeId × Value → H} {w : World} {spare : Nat → Bool} {held : Bool} {pa : Option Addr} {n cp : Nat} {d : DataW H} {p : List MemPlace}
    (h : DataW.Trod enc Tryd.prog w 0 spare held 23 (.slice pa n cp) d p) : n ≤ Rows.uptoBulk d := by
  obtain ⟨fuel, hf⟩ := h
  rcases open_ints Tryd.underlying23 Tryd.underlying5 (by kernel_rfl) hf with ⟨hcs, hx⟩ | ⟨a, len', cap', zs, hcs, _, hl, hm, hz, hx, hcell, hwz⟩
  · have hc : Value.cells (.slice pa n cp) = #[.slice pa n cp] := rfl
    simp [hc] at hcs
    omega
  · have hc : Value.cells (.slice pa n cp) = #[.slice pa n cp] := rfl
    simp [hc] at hcs
    obtain ⟨_, rfl, rfl⟩ := hcs
    have hlz : n ≤ zs.length := by rw [hz]; split <;> omega
    obtain ⟨rfl, _⟩ := Prod.mk.inj hx
    have h1 := length_le (H := H) (lits .u8 (zs.take n))
    have h2 : (lits (H := H) .u8 (zs.take n)).length = n := by simp [lits, List.length_take]; omega
    simp only [Rows.uptoBulk]
    omega
end Go.Proofs.YthhbohpmbkdkeaaDoor.Bu
