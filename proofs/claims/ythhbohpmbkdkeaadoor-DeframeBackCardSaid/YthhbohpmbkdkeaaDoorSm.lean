/- The walk of law05.same: rows of the same bytes are told as the same. -/
import Derived.Test.YthhbohpmbkdkeaaDoorJu
namespace Go.Proofs.YthhbohpmbkdkeaaDoor
open Go.RowKit

theorem str_same (s : ByteArray) : (s == s) = true := by
  show (s.data == s.data) = true
  simp

/-- a slice value's elements -/
def SliceOf (w : World) (v : Value) (n : Nat) (f : Nat → Value) : Prop :=
  ∃ p cp, v = .slice p n cp ∧ ∀ j, j < n → ∃ b off, p = some ⟨b, off, none⟩ ∧ w.cell? ⟨b, off + j, none⟩ = some (f j)

/-- a slice of bytes, as a text -/
def TextAt (w : World) (v : Value) (bs : List Int) : Prop :=
  ∃ ao l c, v = .slice ao l c ∧ ((ao = none ∧ bs = []) ∨ ∃ g off, ao = some ⟨g, off, none⟩ ∧ bs.length = l ∧ ∀ i, i < l → w.cell? ⟨g, off + i, none⟩ = some (.int .u8 (bs.getD i 0)))

theorem text_of {w : World} {B : Nat} {v : Value} {bs : List Int} (h : BytesAt w B v bs) : TextAt w v bs := by
  rcases h.2 with ⟨rfl, h0⟩ | ⟨g, cap, cur, rfl, _⟩
  · exact ⟨none, 0, 0, rfl, .inl ⟨rfl, List.eq_nil_of_length_eq_zero h0⟩⟩
  · refine ⟨_, _, _, rfl, .inr ⟨g, 0, rfl, rfl, fun i hi => ?_⟩⟩
    have := h.cells (g := g) rfl i (.int .u8 (bs.getD i 0)) (by simp [List.getElem?_eq_getElem hi])
    rwa [Addr.add_lit] at this

theorem TextAt.conv {w : World} {v : Value} {bs : List Int} (h : TextAt w v bs) : (∃ ao l c, v = .slice ao l c) ∧ (convert 23 9 v).run Tryd.prog w = .ok (.string (strOfNums bs)) w := by
  obtain ⟨ao, l, c, rfl, ⟨rfl, rfl⟩ | ⟨g, off, rfl, hl, hc⟩⟩ := h
  · exact ⟨⟨_, _, _, rfl⟩, run_convert_bytes_nil w 23 5 Tryd.underlying23 Tryd.underlying5 l c 9 Tryd.underlying9⟩
  · exact ⟨⟨_, _, _, rfl⟩, run_convert_bytes_arg w 23 5 Tryd.underlying23 Tryd.underlying5 g off l c bs hl hc 9 Tryd.underlying9⟩

theorem TextAt.below {w w' : World} {v : Value} {bs : List Int} (h : TextAt w v bs) (hb : Below w.heap.size w w') : TextAt w' v bs := by
  obtain ⟨ao, l, c, rfl, h | ⟨g, off, rfl, hl, hc⟩⟩ := h
  · exact ⟨_, _, _, rfl, .inl h⟩
  · exact ⟨_, _, _, rfl, .inr ⟨g, off, rfl, hl, fun i hi => below_keeps hb (hc i hi)⟩⟩

set_option maxHeartbeats 4000000 in
theorem same_run (n : Nat) (va vb : Value) (fa fb : Nat → Value) (xs : Nat → List Int) (w : World) (hn : (n : Int) ≤ 1000000) (ha : SliceOf w va n fa) (hb : SliceOf w vb n fb) (ta : ∀ j, j < n → TextAt w (fa j) (xs j)) (tb : ∀ j, j < n → TextAt w (fb j) (xs j)) :
    Calls Tryd.prog 17 #[va, vb] w fun e w' => e = .returned (.bool true) ∧ Below w.heap.size w w' := by
  obtain ⟨p, cp, rfl, ha⟩ := ha
  obtain ⟨q, cq, rfl, hb⟩ := hb
  have HA := Lib.hid ha
  have HB := Lib.hid hb
  have TA := Lib.hid ta
  have TB := Lib.hid tb
  clear ha hb ta tb
  go_enter Tryd.func17, Tryd.ntmps17
  go_wp2_with fail
  go_loopw [13] (fun i wr => ∃ j : Nat, i = .int .i64 j ∧ j ≤ n ∧ Below w.heap.size w wr) (fun i _ => n - (intOf i).toNat)
  case atStart => exact ⟨0, rfl, by omega, Below.refl _ _⟩
  case round =>
    obtain ⟨j, rfl, hj, hq⟩ := hrel
    by_cases hlt : j < n
    · have hjb : decide ((j : Int) < (n : Int)) = true := by simp; omega
      obtain ⟨b, off, rfl, h1⟩ := HA.out j hlt
      obtain ⟨b2, off2, rfl, h2⟩ := HB.out j hlt
      replace h1 := below_keeps hq h1
      replace h2 := below_keeps hq h2
      obtain ⟨⟨a1, a2, a3, e1⟩, c1⟩ := ((TA.out j hlt).below hq.drew).conv
      obtain ⟨⟨b1, b2', b3, e2⟩, c2⟩ := ((TB.out j hlt).below hq.drew).conv
      rw [e1] at h1 c1
      rw [e2] at h2 c2
      have hs := str_same (strOfNums (xs j))
      generalize strOfNums (xs j) = S at c1 c2 hs
      clear e1 e2
      go_wp2_with fail
      go_region
      go_wp2_with fail
      go_roundw
      case rel => exact ⟨j + 1, by go_num, by omega, hq.drew⟩
      case measure => simp [intOf]; omega
    · have hjb : decide ((j : Int) < (n : Int)) = false := by simp; omega
      go_wp2_with fail
      go_ret
      exact ⟨rfl, hq⟩
end Go.Proofs.YthhbohpmbkdkeaaDoor
