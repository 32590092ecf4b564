/- The walk of DelayTwice: the delay of the factor 2 is the lesser one of the doubled base and the cap. -/
import Derived.Test.YtlhpmnnbjkbahaaDa
namespace Go.Proofs.Ytlhpmnnbjkbahaa
open Go.RowKit

/-- the doubled base, where the doubling stops -/
theorem twice_next (b c K i : Nat) (hb : b ≤ 2 ^ 40) (hc : c ≤ 2 ^ 40) (hi : i ≤ K) (h : i = K ∨ b * 2 ^ i = 0 ∨ c ≤ b * 2 ^ i) :
    Fl.next b c 4611686018427387904 K = (min (b * 2 ^ i) c : Nat) := by
  rw [← Fl.ofN_2, Fl.next_whole hb hc (by omega) (by omega)]
  congr 1
  by_cases h0 : b = 0
  · subst h0; simp
  have hp : ∀ j, 0 < 2 ^ j := fun j => Nat.two_pow_pos j
  have big : ∀ j, i ≤ j → c ≤ b * 2 ^ i → min (b * 2 ^ j) c = c := by
    intro j hj hl
    have : b * 2 ^ i ≤ b * 2 ^ j := Nat.mul_le_mul_left _ (Nat.pow_le_pow_right (by omega) hj)
    omega
  have far : ∀ j, 41 ≤ j → c ≤ b * 2 ^ j := by
    intro j hj
    have h1 : 2 ^ 41 ≤ 2 ^ j := Nat.pow_le_pow_right (by omega) hj
    have h2 : 1 * 2 ^ j ≤ b * 2 ^ j := Nat.mul_le_mul_right _ (by omega)
    omega
  have hcase : i = K ∨ c ≤ b * 2 ^ i := by
    rcases h with h | h | h
    · exact .inl h
    · rcases Nat.mul_eq_zero.1 h with h | h
      · exact (h0 h).elim
      · have := hp i; omega
    · exact .inr h
  by_cases hK : K ≤ 1000
  · rw [show min K 1000 = K from by omega]
    rcases hcase with rfl | hl
    · rfl
    · rw [big K hi hl, Nat.min_eq_right hl]
  · rw [show min K 1000 = 1000 from by omega]
    have f := far 1000 (by omega)
    rw [Nat.min_eq_right f]
    rcases hcase with e | hl
    · rw [Nat.min_eq_right (far _ (by omega))]
    · rw [Nat.min_eq_right hl]

set_option maxHeartbeats 400000 in
theorem twice_walk (a0 a1 a2 : Int) (b c K : Nat) (w : World) (hb : tk a0 = b) (hc : tk a1 = c) (hK : (if 0 < a2 then a2 else 0) = (K : Int)) (hK1 : K ≤ 9223372036854775807) :
    Calls Try.prog 3 #[.int .i64 a0, .int .i64 a1, .int .i64 a2] w fun e w' => e = .returned (.bool true) ∧ Below w.heap.size w w' := by
  have hb1 := tk_bounds a0
  have hc1 := tk_bounds a1
  rw [hb] at hb1
  rw [hc] at hc1
  obtain ⟨_, hb1⟩ := hb1
  obtain ⟨_, hc1⟩ := hc1
  have HB := Lib.hid hb
  have HC := Lib.hid hc
  clear hb hc
  go_enter Try.func3, Try.ntmps3
  go_wp2_with fail
  refine (ticks_any _ _).mono ?_
  rintro e w' ⟨rfl, rfl⟩
  rw [HB.out]
  go_wp2_with fail
  refine (ticks_any _ _).mono ?_
  rintro e w' ⟨rfl, rfl⟩
  rw [HC.out]
  go_wp2_with fail
  clear hK
  refine (next_ok _ _ _ _ _ _ _ (by omega) (by omega) (by omega) (by omega) (by omega) (by omega)).mono ?_
  rintro e w1 ⟨rfl, hq1⟩
  rw [Int.toNat_natCast, Int.toNat_natCast, Int.toNat_natCast]
  go_wp2_with fail
  go_loopw [9, 10] (fun want i wr => ∃ j : Nat, i = .int .i64 j ∧ want = .int .i64 ((b * 2 ^ j : Nat) : Int) ∧ j ≤ K ∧ b * 2 ^ j ≤ 2 ^ 41 ∧ wr = w1) (fun _ i _ => K - (intOf i).toNat)
  case atStart => exact ⟨0, rfl, by simp, by omega, by simp; omega, rfl⟩
  case round =>
    obtain ⟨j, rfl, rfl, hj, hw, rfl⟩ := hrel
    by_cases hgo : j < K ∧ 0 < b * 2 ^ j ∧ b * 2 ^ j < c
    · obtain ⟨h1, h2, h3⟩ := hgo
      have HE : Hid (b * 2 ^ (j + 1) = b * 2 ^ j * 2) := by rw [Nat.pow_succ, Nat.mul_assoc]; rfl
      generalize b * 2 ^ j = x at *
      go_wp2_with fail
      go_roundw
      case rel => exact ⟨j + 1, by go_num, by rw [HE.out]; go_num, by omega, by rw [HE.out]; omega, trivial⟩
      case measure => simp [intOf]; omega
    · have HN : Hid (Fl.next b c 4611686018427387904 K = if (c : Int) < ((b * 2 ^ j : Nat) : Int) then (c : Int) else ((b * 2 ^ j : Nat) : Int)) := by
        have := twice_next b c K j (by omega) (by omega) hj (by omega)
        show _ = _
        rw [this]
        split <;> omega
      rw [HN.out]
      clear HN
      generalize b * 2 ^ j = x at *
      have hcase : j = K ∨ (j < K ∧ x = 0) ∨ (j < K ∧ 0 < x ∧ c ≤ x) := by omega
      clear hgo
      rcases hcase with rfl | ⟨h1, rfl⟩ | ⟨h1, h2, h3⟩
      all_goals
        go_wp2_with (go_at_call 18; refine (alive_any _).mono ?_; rintro e w2 ⟨rfl, hq2⟩)
        all_goals
          go_ret
          exact ⟨rfl, hq1.trans (hq2.mono hq1.size)⟩

theorem twice_any (a0 a1 a2 : Int) (w : World) (h2 : a2 ≤ 9223372036854775807) :
    Calls Try.prog 3 #[.int .i64 a0, .int .i64 a1, .int .i64 a2] w fun e w' => e = .returned (.bool true) ∧ Below w.heap.size w w' := by
  have hb := tk_bounds a0
  have hc := tk_bounds a1
  exact twice_walk a0 a1 a2 (tk a0).toNat (tk a1).toNat a2.toNat w (by omega) (by omega) (by split <;> omega) (by omega)
end Go.Proofs.Ytlhpmnnbjkbahaa
