/- The sender's methods, each by one plain answer and one plain next state; the same for the document's; an argument that is a slice of acts, opened. No condition but the bounds named. -/
import Derived.Test.YtlhpmnnbjkbahaaKit
import Derived.Test.YtlhpmnnbjkbahaaKn
import Derived.Deep.SlicePairs
namespace Go.Proofs.Ytlhpmnnbjkbahaa
open Go.ChangeShapes Go.WideShapes Go.ChangeAt Go.RowKit Go.Deep

def offR (s : Sn) (n : Int) : Int := if s.known ≤ n ∧ n ≤ 1099511627776 then 0 else 3
def offS (s : Sn) (n : Int) : Sn := if s.known ≤ n ∧ n ≤ 1099511627776 then { s with known := n } else s
def polB (s : Sn) : Bool := decide (s.kind = 0 ∧ s.pos < s.known)
def polI (s : Sn) : Int := if s.kind = 0 ∧ s.pos < s.known then s.pos else 0
def polS (C : Cf) (s : Sn) : Sn := if s.kind = 0 ∧ s.pos < s.known then s.sent C else s
def flyB (s : Sn) : Bool := decide (s.kind = 1)
def ansB (s : Sn) (a : Bool) : Bool := decide (s.kind = 1) && a
noncomputable def ansS (C : Cf) (s : Sn) (a : Bool) : Sn := if s.kind = 1 then (if a = true then s.passed else s.fail C) else s
def ticR (n : Int) : Int := if n < 0 then 3 else 0
noncomputable def ticS (C : Cf) (s : Sn) (n : Int) : Sn := if n < 0 then s else s.tick C n
noncomputable def droS (C : Cf) (s : Sn) : Sn := if s.kind = 1 then s.fail C else s

theorem offS_ok {C : Cf} {s : Sn} (n : Int) (hs : s.Ok C) : (offS s n).Ok C := by
  unfold offS
  split
  next h => exact known_ok C s n h.1 h.2 hs
  · exact hs
theorem polS_ok {C : Cf} {s : Sn} (hC : C.Ok) (hs : s.Ok C) : (polS C s).Ok C := by
  unfold polS
  split
  next h => exact sent_ok C s hC h.2 hs
  · exact hs
theorem ansS_ok {C : Cf} {s : Sn} (a : Bool) (hC : C.Ok) (hs : s.Ok C) : (ansS C s a).Ok C := by
  unfold ansS
  split
  next h =>
    split
    · exact passed_ok C s h hs
    · exact fail_ok C s hC hs
  · exact hs
theorem ticS_ok {C : Cf} {s : Sn} (n : Int) (hC : C.Ok) (hs : s.Ok C) : (ticS C s n).Ok C := by
  unfold ticS
  split
  · exact hs
  · exact tick_ok C s n (by omega) hC hs
theorem droS_ok {C : Cf} {s : Sn} (hC : C.Ok) (hs : s.Ok C) : (droS C s).Ok C := by
  unfold droS
  split
  · exact fail_ok C s hC hs
  · exact hs

section
variable (b : Nat) (C : Cf) (s : Sn) (w : World)
theorem offer_any (n : Int) (ho : SAt b C s w) : Calls Try.prog 30 #[.pointer (some ⟨b, 0, none⟩), .int .i64 n] w fun e w' => e = .returned (.int .i64 (offR s n)) ∧ SAt b C (offS s n) w' ∧ Moved w w' (· = b) := by
  by_cases h : s.known ≤ n ∧ n ≤ 1099511627776
  · rw [offR, offS, if_pos h, if_pos h]
    exact offer_ok b C s n w h.1 h.2 ho
  · rw [offR, offS, if_neg h, if_neg h]
    refine (offer_bad b C s n w (by omega) ho).mono ?_
    rintro e w' ⟨rfl, rfl⟩
    exact ⟨rfl, ho, Moved.refl _ _⟩
theorem roffer_any (n : Int) (ho : RAt b C s w) : Calls Try.prog 40 #[.pointer (some ⟨b, 0, none⟩), .int .i64 n] w fun e w' => e = .returned (.int .i64 (offR s n)) ∧ RAt b C (offS s n) w' ∧ Moved w w' (· = b) := by
  by_cases h : s.known ≤ n ∧ n ≤ 1099511627776
  · rw [offR, offS, if_pos h, if_pos h]
    exact roffer_ok b C s n w h.1 h.2 ho
  · rw [offR, offS, if_neg h, if_neg h]
    refine (roffer_bad b C s n w (by omega) ho).mono ?_
    rintro e w' ⟨rfl, rfl⟩
    exact ⟨rfl, ho, Moved.refl _ _⟩
theorem poll_any (hs : s.Ok C) (ho : SAt b C s w) : Calls Try.prog 29 #[.pointer (some ⟨b, 0, none⟩)] w fun e w' => e = .returned (.tuple #[.int .i64 (polI s), .bool (polB s)]) ∧ SAt b C (polS C s) w' ∧ Moved w w' (· = b) := by
  by_cases h : s.kind = 0 ∧ s.pos < s.known
  · rw [polI, polB, polS, if_pos h, if_pos h, decide_eq_true h]
    exact poll_ok b C s w h.1 (by rcases hs.form with k | k | k <;> omega) h.2 ho
  · rw [polI, polB, polS, if_neg h, if_neg h, decide_eq_false h]
    exact poll_no b C s w (by rcases hs.form with k | k | k <;> omega) ho
theorem rpoll_any (hs : s.Ok C) (ho : RAt b C s w) : Calls Try.prog 41 #[.pointer (some ⟨b, 0, none⟩)] w fun e w' => e = .returned (.tuple #[.int .i64 (polI s), .bool (polB s)]) ∧ RAt b C (polS C s) w' ∧ Moved w w' (· = b) := by
  by_cases h : s.kind = 0 ∧ s.pos < s.known
  · rw [polI, polB, polS, if_pos h, if_pos h, decide_eq_true h]
    exact rpoll_ok b C s w h.1 h.2 ho
  · rw [polI, polB, polS, if_neg h, if_neg h, decide_eq_false h]
    exact rpoll_no b C s w (by rcases hs.form with k | k | k <;> omega) ho
theorem fly_any (ho : SAt b C s w) : Calls Try.prog 35 #[.pointer (some ⟨b, 0, none⟩)] w fun e w' => e = .returned (.bool (flyB s)) ∧ w = w' := by
  by_cases h : s.kind = 1
  · rw [flyB, decide_eq_true h]
    exact fly_is b C s w ho h
  · rw [flyB, decide_eq_false h]
    exact fly_not b C s w ho h
theorem answer_any (a : Bool) (hC : C.Ok) (hs : s.Ok C) (ho : SAt b C s w) : Calls Try.prog 31 #[.pointer (some ⟨b, 0, none⟩), .bool a] w fun e w' => e = .returned (.bool (ansB s a)) ∧ SAt b C (ansS C s a) w' ∧ Moved w w' (· = b) := by
  by_cases h : s.kind = 1
  · cases a with
    | true =>
      rw [ansB, ansS, if_pos h, if_pos rfl, decide_eq_true h]
      exact answer_ok b C s w hs h ho
    | false =>
      rw [ansB, ansS, if_pos h, if_neg (by decide), decide_eq_true h]
      exact answer_fail b C s w hC hs h ho
  · rw [ansB, ansS, if_neg h, decide_eq_false h, Bool.false_and]
    refine (answer_idle b C s a w h ho).mono ?_
    rintro e w' ⟨rfl, rfl⟩
    exact ⟨rfl, ho, Moved.refl _ _⟩
theorem ranswer_any (a : Bool) (hC : C.Ok) (hs : s.Ok C) (ho : RAt b C s w) : Calls Try.prog 42 #[.pointer (some ⟨b, 0, none⟩), .bool a] w fun e w' => e = .returned (.bool (ansB s a)) ∧ RAt b C (ansS C s a) w' ∧ Moved w w' (· = b) := by
  by_cases h : s.kind = 1
  · cases a with
    | true =>
      rw [ansB, ansS, if_pos h, if_pos rfl, decide_eq_true h]
      exact ranswer_ok b C s w hs h ho
    | false =>
      rw [ansB, ansS, if_pos h, if_neg (by decide), decide_eq_true h]
      exact ranswer_fail b C s w hC hs h ho
  · rw [ansB, ansS, if_neg h, decide_eq_false h, Bool.false_and]
    refine (ranswer_idle b C s a w h ho).mono ?_
    rintro e w' ⟨rfl, rfl⟩
    exact ⟨rfl, ho, Moved.refl _ _⟩
theorem tick_all (n : Int) (hC : C.Ok) (hs : s.Ok C) (hn : n ≤ 9223372036854775807) (ho : SAt b C s w) : Calls Try.prog 34 #[.pointer (some ⟨b, 0, none⟩), .int .i64 n] w fun e w' => e = .returned (.int .i64 (ticR n)) ∧ SAt b C (ticS C s n) w' ∧ Moved w w' (· = b) := by
  by_cases h : n < 0
  · rw [ticR, ticS, if_pos h, if_pos h]
    refine (tick_bad b n w h).mono ?_
    rintro e w' ⟨rfl, rfl⟩
    exact ⟨rfl, ho, Moved.refl _ _⟩
  · rw [ticR, ticS, if_neg h, if_neg h]
    exact tick_any b C s n w hC hs (by omega) hn ho
theorem rtick_all (n : Int) (hC : C.Ok) (hs : s.Ok C) (hn : n ≤ 9223372036854775807) (ho : RAt b C s w) : Calls Try.prog 43 #[.pointer (some ⟨b, 0, none⟩), .int .i64 n] w fun e w' => e = .returned (.int .i64 (ticR n)) ∧ RAt b C (ticS C s n) w' ∧ Moved w w' (· = b) := by
  by_cases h : n < 0
  · rw [ticR, ticS, if_pos h, if_pos h]
    refine (rtick_bad b n w h).mono ?_
    rintro e w' ⟨rfl, rfl⟩
    exact ⟨rfl, ho, Moved.refl _ _⟩
  · rw [ticR, ticS, if_neg h, if_neg h]
    exact rtick_any b C s n w hC hs (by omega) hn ho
theorem drop_any (hC : C.Ok) (hs : s.Ok C) (ho : SAt b C s w) : Calls Try.prog 38 #[.pointer (some ⟨b, 0, none⟩)] w fun e w' => e = .returned (.tuple #[]) ∧ SAt b C (droS C s) w' ∧ Moved w w' (· = b) := by
  by_cases h : s.kind = 1
  · rw [droS, if_pos h]
    exact drop_fail b C s w hC hs h ho
  · rw [droS, if_neg h]
    refine (drop_idle b C s w h ho).mono ?_
    rintro e w' ⟨rfl, rfl⟩
    exact ⟨rfl, ho, Moved.refl _ _⟩
theorem rdrop_any (hC : C.Ok) (hs : s.Ok C) (ho : RAt b C s w) : Calls Try.prog 44 #[.pointer (some ⟨b, 0, none⟩)] w fun e w' => e = .returned (.tuple #[]) ∧ RAt b C (droS C s) w' ∧ Moved w w' (· = b) := by
  by_cases h : s.kind = 1
  · rw [droS, if_pos h]
    exact rdrop_fail b C s w hC hs h ho
  · rw [droS, if_neg h]
    refine (rdrop_idle b C s w h ho).mono ?_
    rintro e w' ⟨rfl, rfl⟩
    exact ⟨rfl, ho, Moved.refl _ _⟩
end

/-- a slice of acts: their kinds and numbers -/
def ActsAt (w : World) (p : Option Addr) (n : Nat) (K X : Nat → Int) : Prop :=
  ∀ j, j < n → ∃ b off, p = some ⟨b, off, none⟩ ∧ w.cell? ⟨b, off + j * 2, none⟩ = some (.int .i64 (K j)) ∧ w.cell? ⟨b, off + j * 2 + 1, none⟩ = some (.int .i64 (X j)) ∧ X j ≤ 9223372036854775807
theorem ActsAt.moved {w w' : World} {p : Option Addr} {n : Nat} {K X : Nat → Int} (h : ActsAt w p n K X) (hb : Below w.heap.size w w') : ActsAt w' p n K X := by
  intro j hj
  obtain ⟨b, off, hp, h0, h1, h2⟩ := h j hj
  have hlt : b < w.heap.size := World.block_lt_of_cell? w ⟨b, off + j * 2, none⟩ h0
  exact ⟨b, off, hp, (hb.cell (p := ⟨b, off + j * 2, none⟩) hlt).trans h0, (hb.cell (p := ⟨b, off + j * 2 + 1, none⟩) hlt).trans h1, h2⟩

theorem open_acts {H : Type} {enc : TypeId × Value → H} {w : World} {spare : Nat → Bool} {held : Bool} {r : Reach} {b0 : Nat} {v : Value} {d : DataW H} {p : List MemPlace}
    (hv : Value.okWide Try.prog w r b0 62 v) (h : DataW.Trod enc Try.prog w 0 spare held 62 v d p) : ∃ (pa : Option Addr) (n cp : Nat) (K X : Nat → Int), v = .slice pa n cp ∧ ActsAt w pa n K X := by
  obtain ⟨a0, len, cap, rfl⟩ := okWide_slice Try.underlying62 hv
  obtain ⟨fuel, hf⟩ := h
  have hc : Value.cells (.slice a0 len cap) = #[.slice a0 len cap] := rfl
  rcases open_slice_pairs Try.underlying62 Try.underlying64 (by kernel_rfl) rfl rfl (by kernel_rfl) (by kernel_rfl) hf with ⟨hcs, hx⟩ | ⟨a, len', cap', m, n, V0, V1, D0, D1, P0, P1, hcs, _, hl, hm, hmm, hx, hi⟩
  · simp [hc] at hcs
    obtain ⟨rfl, rfl, rfl⟩ := hcs
    exact ⟨none, 0, 0, fun _ => 0, fun _ => 0, rfl, fun j hj => by omega⟩
  · simp [hc] at hcs
    obtain ⟨rfl, rfl, rfl⟩ := hcs
    refine ⟨some a, len, cap, fun i => intOf (V0 i), fun i => intOf (V1 i), rfl, fun j hj => ?_⟩
    have h00 := (hi 0 (by rw [hmm]; split <;> omega)).1
    obtain ⟨b, off, spot⟩ := a
    have hspot : spot = none := by simpa [Addr.add] using World.cell?_spot h00
    subst hspot
    obtain ⟨h0, h1, t0, t1⟩ := hi j (by rw [hmm]; split <;> omega)
    obtain ⟨x, e0, _, _⟩ := DataW.trod_int Try.underlying3 t0
    obtain ⟨y, e1, _, wy⟩ := DataW.trod_int Try.underlying3 t1
    simp at e0 e1
    rw [e0] at h0
    rw [e1] at h1
    rw [Addr.add_lit] at h0 h1
    refine ⟨b, off, rfl, ?_, ?_, ?_⟩
    · rw [h0]; simp [e0, intOf]
    · rw [Nat.add_assoc, h1]; simp [e1, intOf]
    · simp only [e1, intOf]; exact (Kit.i64_of wy).2
end Go.Proofs.Ytlhpmnnbjkbahaa
