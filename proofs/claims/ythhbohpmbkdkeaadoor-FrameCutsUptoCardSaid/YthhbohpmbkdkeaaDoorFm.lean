/- The contracts at a world that grew. -/
import Derived.Test.YthhbohpmbkdkeaaDoorFa
namespace Go.Proofs.YthhbohpmbkdkeaaDoor
open Go.RowKit

/-- a world that grew from w0, in which the variables stand -/
structure From (w0 w : World) : Prop where
  ends : Ends w0
  grew : Below w0.heap.size w0 w

theorem From.now {w0 w : World} (h : From w0 w) : Ends w := h.ends.below h.grew
theorem From.next {w0 w w' : World} (h : From w0 w) (hb : Below w.heap.size w w') : From w0 w' := ⟨h.ends, h.grew.trans (hb.mono h.grew.size)⟩
theorem From.arg {w0 w : World} (h : From w0 w) {p : Option Addr} {n c : Nat} {bs : List Int} (ha : ArgC w0 p n c bs) : ArgC w p n c bs := ha.below h.grew
theorem From.drew {w0 w : World} (h : From w0 w) : From w0 w.drew := ⟨h.ends, h.grew.drew⟩
theorem From.refl {w : World} (h : Ends w) : From w w := ⟨h, Below.refl _ _⟩

theorem alive_at {w0 w : World} (h : From w0 w) : Calls Tryd.prog 22 #[] w fun e w' => e = .returned (.bool true) ∧ From w0 w' ∧ Below w.heap.size w w' := by
  refine (alive_run w h.now).mono ?_
  rintro e w' ⟨rfl, hb⟩
  exact ⟨rfl, h.next hb, hb⟩
theorem good_at {w0 w : World} (h : From w0 w) {p : Option Addr} {n c : Nat} {bs : List Int} (ha : ArgC w p n c bs) (hs : n < 4294967281) : Calls Tryd.prog 25 #[.slice p n c] w fun e w' => e = .returned (.bool (goodL bs)) ∧ From w0 w' ∧ Below w.heap.size w w' := by
  refine (good_run p n c bs w ha hs h.now).mono ?_
  rintro e w' ⟨rfl, q, rfl⟩
  exact ⟨rfl, h.next (below_drewN _ _), below_drewN _ _⟩
theorem good_yes {w0 w : World} (h : From w0 w) {p : Option Addr} {n c : Nat} {bs : List Int} {g : Bool} (hg : goodL bs = g) (ha : ArgC w p n c bs) (hs : n < 4294967281) : Calls Tryd.prog 25 #[.slice p n c] w fun e w' => e = .returned (.bool g) ∧ From w0 w' ∧ Below w.heap.size w w' := by
  subst hg
  exact good_at h ha hs
theorem wrap_yes_at {w0 w : World} (h : From w0 w) {p : Option Addr} {n c : Nat} {bs : List Int} (ha : ArgC w p n c bs) (hs : n < 4294967281) (hg : goodL bs = true) : Calls Tryd.prog 15 #[.slice p n c] w fun e w' => ∃ p' c', e = .returned (.tuple #[.slice p' (n + 3) c', .int .i64 0]) ∧ ArgC w' p' (n + 3) c' (wrapL bs) ∧ From w0 w' ∧ Below w.heap.size w w' := by
  refine (wrap_arg p n c bs w ha hs h.now hg).mono ?_
  rintro e w' ⟨p', c', rfl, h2, hb⟩
  exact ⟨p', c', rfl, h2, h.next hb, hb⟩
theorem wrap_no_at {w0 w : World} (h : From w0 w) {p : Option Addr} {n c : Nat} {bs : List Int} (ha : ArgC w p n c bs) (hs : n < 4294967281) (hg : goodL bs = false) : Calls Tryd.prog 15 #[.slice p n c] w fun e w' => e = .returned (.tuple #[.slice none 0 0, .int .i64 10]) ∧ From w0 w' ∧ Below w.heap.size w w' := by
  refine (wrap_no p n c bs w ha hs h.now hg).mono ?_
  rintro e w' ⟨rfl, q, rfl⟩
  exact ⟨rfl, h.next (below_drewN _ _), below_drewN _ _⟩
theorem unwrap_at {w0 w : World} (h : From w0 w) {p : Option Addr} {n c : Nat} {bs : List Int} (ha : ArgC w p n c bs) (hs : n < 4294967281) : Calls Tryd.prog 27 #[.slice p n c] w fun e w' => ∃ p' n' c', e = .returned (.tuple #[.slice p' n' c', .int .i64 (unwrapL bs).2]) ∧ ArgC w' p' n' c' (unwrapL bs).1 ∧ From w0 w' ∧ Below w.heap.size w w' := by
  refine (unwrap_run p n c bs w ha hs h.now).mono ?_
  rintro e w' ⟨p', n', c', rfl, h2, hb⟩
  exact ⟨p', n', c', rfl, h2, h.next hb, hb⟩
theorem rwrap_at {w0 w : World} (h : From w0 w) {p : Option Addr} {n c : Nat} {bs : List Int} (ha : ArgC w p n c bs) (hs : n < 4294967281) : Calls Tryd.prog 26 #[.slice p n c] w fun e w' => ∃ p' c', e = .returned (.slice p' (n + 3) c') ∧ ArgC w' p' (n + 3) c' (wrapL bs) ∧ From w0 w' ∧ Below w.heap.size w w' := by
  refine (rwrap_run p n c bs w ha hs).mono ?_
  rintro e w' ⟨v, rfl, hown, hb⟩
  obtain ⟨p', c', rfl, ha'⟩ := owned_arg hown (wrap_bytes ha.byte)
  exact ⟨p', c', rfl, ha', h.next hb, hb⟩

end Go.Proofs.YthhbohpmbkdkeaaDoor
