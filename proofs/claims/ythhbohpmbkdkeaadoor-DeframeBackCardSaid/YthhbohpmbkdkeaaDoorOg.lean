/- An argument that is a row of rows of bytes, opened; law05.great; append of such a row's bytes. -/
import Derived.Test.YthhbohpmbkdkeaaDoorOb
import Derived.Deep.Matrix
import Derived.SizedLaws
import Derived.Laws.AppendOwnNone
namespace Go.Proofs.YthhbohpmbkdkeaaDoor
open Go.ChangeShapes Go.WideShapes Go.ChangeAt Go.RowKit Go.Deep

/-- rows of bytes that came in: each cell of the outer row holds a slice -/
def RowsIn (w : World) (p : Option Addr) (n : Nat) (A : Nat → Option Addr) (L C : Nat → Nat) (xs : Nat → List Int) : Prop :=
  ∀ j, j < n → ∃ b off, p = some ⟨b, off, none⟩ ∧ w.cell? ⟨b, off + j, none⟩ = some (.slice (A j) (L j) (C j)) ∧ ArgB w (A j) (L j) (xs j) ∧ (L j : Int) ≤ 140737488351232 ∧ (A j = none → L j = 0 ∧ C j = 0) ∧ L j ≤ C j
theorem RowsIn.below {w w' : World} {p : Option Addr} {n : Nat} {A : Nat → Option Addr} {L C : Nat → Nat} {xs : Nat → List Int} (h : RowsIn w p n A L C xs) (hb : Below w.heap.size w w') : RowsIn w' p n A L C xs := fun j hj => by
  obtain ⟨b, off, h1, h2, h3, h4⟩ := h j hj
  exact ⟨b, off, h1, below_keeps hb h2, h3.below hb, h4⟩

theorem weights_in {H : Type} {P : Program} {e : TypeId} : ∀ {l : List (DataW H)} {d : DataW H}, d ∈ l → ∀ n ∈ d.weights P e, n ∈ DataW.weightsAll P e l := by
  intro l
  induction l with
  | nil => intro d hd; simp at hd
  | cons d0 l ih =>
    intro d hd n hn
    simp only [DataW.weightsAll, List.mem_append]
    rcases List.mem_cons.1 hd with rfl | h
    · exact .inl hn
    · exact .inr (ih h n hn)

theorem open_rows {H : Type} {enc : TypeId × Value → H} {w : World} {held : Bool} {r : Reach} {b0 : Nat} {v : Value} {d : DataW H} {p : List MemPlace} {ts : List TypeId} {ds : List (DataW H)} {j0 : Nat}
    (hsz : (DataW.weightsEach Tryd.prog ts ds).all (· ≤ reachBytes) = true) (ht : ts[j0]? = some 22) (hd : ds[j0]? = some d)
    (hv : Value.okWide Tryd.prog w r b0 22 v) (h : DataW.Trod enc Tryd.prog w 0 (fun _ => true) held 22 v d p) :
    ∃ (pa : Option Addr) (n cp : Nat) (A : Nat → Option Addr) (L C : Nat → Nat) (xs : Nat → List Int), v = .slice pa n cp ∧ (n : Int) ≤ 9223372036854775807 ∧ RowsIn w pa n A L C xs := by
  obtain ⟨a0, len, cap, rfl⟩ := okWide_slice Tryd.underlying22 hv
  obtain ⟨fuel, hf⟩ := h
  have hc : Value.cells (.slice a0 len cap) = #[.slice a0 len cap] := rfl
  rcases open_int_rows Tryd.underlying22 Tryd.underlying23 Tryd.underlying5 (by kernel_rfl) (by kernel_rfl) hf with ⟨hcs, hx⟩ | ⟨a, len', cap', A, L, C, Z, hcs, _, hl, hm, hx, hi⟩
  · simp [hc] at hcs
    obtain ⟨rfl, rfl, rfl⟩ := hcs
    exact ⟨none, 0, 0, fun _ => none, fun _ => 0, fun _ => 0, fun _ => [], rfl, by decide, fun j hj => by omega⟩
  · simp [hc] at hcs
    obtain ⟨rfl, rfl, rfl⟩ := hcs
    refine ⟨some a, len, cap, A, L, C, fun j => (Z j).take (L j), rfl, by unfold maxLen at hm; omega, fun j hj => ?_⟩
    obtain ⟨h0, h1, h2, h3, h4, h5, h6⟩ := hi j (by omega)
    have h00 := (hi 0 (by omega)).1
    obtain ⟨b, off, spot⟩ := a
    have hspot : spot = none := by simpa [Addr.add] using World.cell?_spot h00
    subst hspot
    rw [Addr.add_lit] at h0
    have hxe : d = .slice ((List.range len).map fun r => intRow .u8 (A r) (L r) (Z r)) ((List.range (cap - len)).map fun j => intRow .u8 (A (len + j)) (L (len + j)) (Z (len + j))) := by
      simp only [Prod.mk.injEq] at hx; exact hx.1
    have hreach : (L j : Int) ≤ 140737488351232 := by
      cases hA : A j with
      | none => have := h5 hA; omega
      | some a' =>
        have hmem : DataW.slice (lits .u8 ((Z j).take (L j))) (lits .u8 ((Z j).drop (L j))) ∈ (List.range len).map fun r => (intRow .u8 (A r) (L r) (Z r) : DataW H) :=
          List.mem_map.2 ⟨j, List.mem_range.2 hj, by simp [intRow, hA]⟩
        have hw : ((lits (H := H) .u8 ((Z j).take (L j))).length + (lits (H := H) .u8 ((Z j).drop (L j))).length) * Tryd.prog.bytesOf 5 ≤ reachBytes := by
          refine of_decide_eq_true (List.all_eq_true.1 hsz _ (DataW.weights_mem_each ht hd _ ?_))
          rw [hxe]
          simp only [DataW.weights, Tryd.underlying22, List.mem_cons, List.mem_append]
          exact .inr (.inl (weights_in hmem _ (by simp [DataW.weights, Tryd.underlying23])))
        have hb5 : Tryd.prog.bytesOf 5 = 1 := by kernel_rfl
        have hr : reachBytes = 140737488351232 := rfl
        rw [hb5, hr] at hw
        simp [lits] at hw
        omega
    refine ⟨b, off, rfl, h0, ⟨by rw [List.length_take]; omega, fun i x hi2 => ?_, fun x hx2 => ?_⟩, hreach, fun hA => ⟨by have := h5 hA; omega, h5 hA⟩, by omega⟩
    · have hil : i < L j := by have := (List.getElem?_eq_some_iff.1 hi2).1; rw [List.length_take] at this; omega
      rw [List.getElem?_take_of_lt hil] at hi2
      obtain ⟨a', hA⟩ : ∃ a', A j = some a' := by
        cases hA : A j with
        | none => have := h5 hA; omega
        | some a' => exact ⟨a', rfl⟩
      have h7 := h6 a' hA
      have h8 := h7.2 i (by omega)
      obtain ⟨b', off', spot'⟩ := a'
      have hspot' : spot' = none := by
        have h00 := h7.2 0 (by omega)
        simpa [Addr.add] using World.cell?_spot h00
      subst hspot'
      rw [Addr.add_lit] at h8
      refine ⟨b', off', hA, ?_⟩
      rw [h8, List.getD_eq_getElem?_getD, hi2]
      rfl
    · exact Kit.u8_of (h4 x (List.mem_of_mem_take hx2))

/-- how many bytes the first rows have -/
def sumL (L : Nat → Nat) : Nat → Nat
  | 0 => 0
  | k + 1 => sumL L k + L k
theorem sumL_le {L : Nat → Nat} {n : Nat} (hL : ∀ j, j < n → (L j : Int) ≤ 140737488351232) : ∀ k, k ≤ n → (sumL L k : Int) ≤ k * 140737488351232 := by
  intro k
  induction k with
  | zero => intro _; simp [sumL]
  | succ k ih =>
    intro hk
    have h1 := ih (by omega)
    have h2 := hL k (by omega)
    simp only [sumL]
    omega
theorem sumL_mono (L : Nat → Nat) {k n : Nat} (h : k ≤ n) : sumL L k ≤ sumL L n := by
  induction n with
  | zero => have : k = 0 := by omega
            subst this; exact Nat.le_refl _
  | succ n ih =>
    by_cases hk : k = n + 1
    · subst hk; exact Nat.le_refl _
    · have := ih (by omega); simp only [sumL]; omega

def greatB (n s : Nat) : Bool := decide (100 < n ∨ 3000 < s)

set_option maxHeartbeats 1000000 in
theorem great_run (p : Option Addr) (n cp : Nat) (A : Nat → Option Addr) (L C : Nat → Nat) (xs : Nat → List Int) (w : World) (hn : (n : Int) ≤ 9223372036854775807) (h : RowsIn w p n A L C xs) :
    Calls Tryd.prog 12 #[.slice p n cp] w fun e w' => e = .returned (.bool (greatB n (sumL L n))) ∧ w = w' := by
  have hL : ∀ j, j < n → (L j : Int) ≤ 140737488351232 := fun j hj => by obtain ⟨_, _, _, _, _, h4, _⟩ := h j hj; exact h4
  have HL := Lib.hid hL
  have H := Lib.hid h
  clear h hL
  go_enter Tryd.func12, Tryd.ntmps12
  go_wp2_with fail
  go_loop [3, 8] (fun s i => ∃ (k : Nat) (t : Int), i = .int .i64 k ∧ k ≤ n ∧ s = .int .i64 t ∧ (k ≤ 100 → t = sumL L k)) (fun _ i => n - (intOf i).toNat)
  case atStart => exact ⟨0, 0, rfl, by omega, rfl, fun _ => rfl⟩
  case round =>
    obtain ⟨k, t, rfl, hk, rfl, ht⟩ := hrel
    have HT := Lib.hid ht
    clear ht
    by_cases hlt : k < n
    · obtain ⟨b, off, hp, h1, _⟩ := H.out k hlt
      subst hp
      by_cases h100 : k < 100
      · have hb := sumL_le HL.out k (by omega)
        have hl := HL.out k hlt
        have e := HT.out (by omega)
        subst e
        have hs0 : (0 : Int) ≤ (sumL L k : Int) := by omega
        have hs1 : (sumL L k : Int) ≤ 14073748835123200 := by omega
        clear hb
        go_wp2_with fail
        go_round
        case rel => exact ⟨k + 1, _, by go_num, by omega, rfl, fun _ => by simp only [sumL]; omega⟩
        case measure => simp [intOf]; omega
      · go_wp2_with fail
        go_round
        case rel => exact ⟨k + 1, _, by go_num, by omega, rfl, fun h => absurd h (by omega)⟩
        case measure => simp [intOf]; omega
    · have hkn : k = n := by omega
      subst hkn
      by_cases h100 : 100 < k
      · have hd : decide ((100 : Int) < (k : Int)) = true := by simp; omega
        have hr : Hid (greatB k (sumL L k) = true) := Lib.hid (decide_eq_true (.inl h100))
        go_wp2_with fail
        go_ret
        exact ⟨by rw [hr.out]; rfl, rfl⟩
      · have hd : decide ((100 : Int) < (k : Int)) = false := by simp; omega
        have e := HT.out (by omega)
        subst e
        have hr : Hid (greatB k (sumL L k) = decide ((3000 : Int) < (sumL L k : Int))) := Lib.hid <| by
          rw [greatB, decide_eq_decide]
          constructor
          · rintro (h | h)
            · exact absurd h h100
            · omega
          · intro h; exact .inr (by omega)
        go_wp2_with fail
        go_ret
        exact ⟨by rw [hr.out]; rfl, rfl⟩

end Go.Proofs.YthhbohpmbkdkeaaDoor
