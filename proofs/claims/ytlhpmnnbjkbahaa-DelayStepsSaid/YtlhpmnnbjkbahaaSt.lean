/- The walk of DelaySteps: of a whole factor a delay that isn't the cap is the one ahead times that factor. -/
import Derived.Test.YtlhpmnnbjkbahaaDa
namespace Go.Proofs.Ytlhpmnnbjkbahaa
open Go.RowKit

theorem steps_next (base fac j : Nat) (n : Int) (hb : base ≤ 65535) (hn : n = j) (hj : j ≤ 1000) :
    Fl.next (Int.toNat (base : Int)) (Int.toNat 1099511627776) (floatOfInt .f64 (1 + (fac : Int) % 9)) (Int.toNat n) = ((min (base * (1 + fac % 9) ^ j) 1099511627776 : Nat) : Int) := by
  subst hn
  rw [show (1 + (fac : Int) % 9) = ((1 + fac % 9 : Nat) : Int) from by omega, Fl.floatOfInt_eq, Int.toNat_natCast, Int.toNat_natCast, show Int.toNat 1099511627776 = 1099511627776 from rfl]
  rw [Fl.next_whole (by omega) (by omega) (by omega) (by omega), Nat.min_eq_left hj]

set_option maxRecDepth 100000 in
set_option maxHeartbeats 1000000 in
theorem steps_walk (base fac k : Nat) (w : World) (hb : base ≤ 65535) (hf : fac ≤ 255) (hk : k ≤ 255) :
    Calls Try.prog 5 #[.int .u16 base, .int .u8 fac, .int .u8 k] w fun e w' => e = .returned (.bool true) ∧ Below w.heap.size w w' := by
  have H1 := Lib.hid (steps_next base fac (k % 60) ((k : Int) % 60) hb (by omega) (by omega))
  have H2 := Lib.hid (steps_next base fac (k % 60 + 1) ((k : Int) % 60 + 1) hb (by omega) (by omega))
  have HP : Hid (base * (1 + fac % 9) ^ (k % 60 + 1) = base * (1 + fac % 9) ^ (k % 60) * (1 + fac % 9)) := by rw [Nat.pow_succ, Nat.mul_assoc]; rfl
  rw [HP.out] at H2
  clear HP
  generalize hx : base * (1 + fac % 9) ^ (k % 60) = x at *
  clear hx
  obtain ⟨f, hfe⟩ : ∃ f : Nat, f = 1 + fac % 9 := ⟨_, rfl⟩
  have hf1 : 1 ≤ f := by omega
  have hf9 : f ≤ 9 := by omega
  have hxf : x ≤ x * f := by have := Nat.mul_le_mul_left x hf1; omega
  have hxf9 : x * f ≤ x * 9 := Nat.mul_le_mul_left x hf9
  rw [← hfe] at H2
  have HF : Hid (1 + (fac : Int) % 9 = (f : Int)) := by show _ = _; omega
  clear hfe
  go_enter Try.func5, Try.ntmps5
  go_wp2_with fail
  refine (next_ok _ _ _ _ _ _ _ (by omega) (by omega) (by omega) (by omega) (by omega) (by omega)).mono ?_
  rintro e w1 ⟨rfl, hq1⟩
  rw [H1.out]
  have hq := hq1
  simp only [World.size_alloc] at hq
  obtain ⟨c0, c1, c2, c3, c4⟩ := box5 hq
  clear hq
  go_wp2_with fail
  refine (next_ok _ _ _ _ _ _ _ (by omega) (by omega) (by omega) (by omega) (by omega) (by omega)).mono ?_
  rintro e w2 ⟨rfl, hq2⟩
  rw [H2.out]
  have hq := hq1.trans (hq2.mono hq1.size)
  clear c0 c1 c2 c3 c4 hq1 hq2 H1 H2
  have hq' := hq
  simp only [World.size_alloc] at hq'
  obtain ⟨_, _, c2, _, _⟩ := box5 hq'
  have hfe := HF.out
  have hmul : ((x * f : Nat) : Int) = (x : Int) * (f : Int) := by simp
  by_cases hlt : (x : Int) < 1099511627776
  · rw [show ((min x 1099511627776 : Nat) : Int) = x from by omega]
    by_cases hle : ((x * f : Nat) : Int) ≤ 1099511627776
    · rw [show ((min (x * f) 1099511627776 : Nat) : Int) = (x : Int) * f from by omega]
      have hle' : ¬ (1099511627776 : Int) < (x : Int) * (f : Int) := by rw [← hmul]; omega
      have hw : IntKind.i64.wrap ((x : Int) * (f : Int)) = (x : Int) * (f : Int) := by rw [← hmul]; exact IntWalk.i64_in _ (by omega)
      clear hxf hxf9 hle hmul
      go_wp2_with (go_at_call 18; refine (alive_any _).mono ?_; rintro e w3 ⟨rfl, hq3⟩)
      go_ret
      exact ⟨rfl, (below_box hq').trans (hq3.mono (below_box hq').size)⟩
    · rw [show ((min (x * f) 1099511627776 : Nat) : Int) = 1099511627776 from by omega]
      have hle' : (1099511627776 : Int) < (x : Int) * (f : Int) := by rw [← hmul]; omega
      have hw : IntKind.i64.wrap ((x : Int) * (f : Int)) = (x : Int) * (f : Int) := by rw [← hmul]; exact IntWalk.i64_in _ (by omega)
      clear hxf hxf9 hle hmul
      go_wp2_with (go_at_call 18; refine (alive_any _).mono ?_; rintro e w3 ⟨rfl, hq3⟩)
      go_ret
      exact ⟨rfl, (below_box hq').trans (hq3.mono (below_box hq').size)⟩
  · rw [show ((min x 1099511627776 : Nat) : Int) = 1099511627776 from by omega, show ((min (x * f) 1099511627776 : Nat) : Int) = 1099511627776 from by omega]
    clear hxf hxf9 hmul hlt
    go_wp2_with (go_at_call 18; refine (alive_any _).mono ?_; rintro e w3 ⟨rfl, hq3⟩)
    go_ret
    exact ⟨rfl, (below_box hq').trans (hq3.mono (below_box hq').size)⟩

theorem steps_any (base fac k : Int) (w : World) (h1 : 0 ≤ base ∧ base ≤ 65535) (h2 : 0 ≤ fac ∧ fac ≤ 255) (h3 : 0 ≤ k ∧ k ≤ 255) :
    Calls Try.prog 5 #[.int .u16 base, .int .u8 fac, .int .u8 k] w fun e w' => e = .returned (.bool true) ∧ Below w.heap.size w w' := by
  have h := steps_walk base.toNat fac.toNat k.toNat w (by omega) (by omega) (by omega)
  rw [Int.toNat_of_nonneg h1.1, Int.toNat_of_nonneg h2.1, Int.toNat_of_nonneg h3.1] at h
  exact h
end Go.Proofs.Ytlhpmnnbjkbahaa
