/- The walk of DelayBounds: each delay is from 0 to the cap, the first one the lesser of base and cap; of a factor from 1 on none falls. -/
import Derived.Test.YtlhpmnnbjkbahaaDa
namespace Go.Proofs.Ytlhpmnnbjkbahaa
open Go.RowKit

theorem box5' {w w1 : World} {n : Nat} {a0 a1 a2 a3 a4 : Value} {T : TypeId} (hn : n = w.heap.size) (h : Below (w.heap.size + 1) (w.alloc (.cells #[a0, a1, a2, a3, a4] T)) w1) :
    w1.cell? ⟨n, 0, none⟩ = some a0 ∧ w1.cell? ⟨n, 1, none⟩ = some a1 ∧ w1.cell? ⟨n, 2, none⟩ = some a2 ∧ w1.cell? ⟨n, 3, none⟩ = some a3 ∧ w1.cell? ⟨n, 4, none⟩ = some a4 := by
  subst hn; exact box5 h

theorem box_size {B : Nat} {w w1 : World} {o : Obj} (h : Below B (w.alloc o) w1) : w.heap.size + 1 ≤ w1.heap.size := by
  have := h.size; simpa using this

set_option maxRecDepth 100000 in
set_option maxHeartbeats 1000000 in
theorem bounds_walk (x y bits : Int) (k b c : Nat) (w : World) (hk : k ≤ 255) (hb : tk x = b) (hc : tk y = c) :
    Calls Try.prog 4 #[.agg #[.int .i64 x, .int .i64 y], .int .u64 bits, .int .u8 k] w fun e w' => e = .returned (.bool true) ∧ Below w.heap.size w w' := by
  have hb1 := tk_bounds x
  have hc1 := tk_bounds y
  rw [hb] at hb1
  rw [hc] at hc1
  obtain ⟨_, hb1⟩ := hb1
  obtain ⟨_, hc1⟩ := hc1
  have HB := Lib.hid hb
  have HC := Lib.hid hc
  clear hb hc
  have hf := run_frombits
  go_enter Try.func4, Try.ntmps4
  go_wp2_with fail
  go_quiet (fail)
  go_wp2_with fail
  refine (ticks_any _ _).mono ?_
  rintro e w' ⟨rfl, rfl⟩
  rw [HB.out]
  go_wp2_with fail
  refine (ticks_any _ _).mono ?_
  rintro e w' ⟨rfl, rfl⟩
  rw [HC.out]
  go_wp2_with fail
  generalize hW0 : (w.alloc (Obj.cells #[Value.int IntKind.i64 x, Value.int IntKind.i64 y] 31)).drewN nq = W0
  have hs0 : w.heap.size + 1 = W0.heap.size := by rw [← hW0]; simp [World.drewN]
  have hq0 : Below w.heap.size w W0 := by rw [← hW0]; exact below_drewN ((Below.refl _ _).alloc (Nat.le_refl _) _) nq
  have HS0 := Lib.hid hs0
  clear hs0 hW0
  obtain ⟨F, hF⟩ : ∃ F : Nat, bits.toNat = F := ⟨_, rfl⟩
  rw [hF]
  clear hF
  go_loopw [10, 28] (fun last i wr => ∃ (j : Nat) (L : Int), i = .int .i64 j ∧ j ≤ k + 1 ∧ last = .int .i64 L ∧ L = (if j = 0 then 0 else Fl.next b c F (j - 1)) ∧
    Below (W0.heap.size + 1) (W0.alloc (.cells #[.int .i64 0, .int .i64 b, .int .i64 c, .int .i64 0, .float .f64 F] 28)) wr) (fun _ i _ => k + 1 - (intOf i).toNat)
  case atStart => exact ⟨0, 0, rfl, by omega, rfl, rfl, Below.refl _ _⟩
  case round =>
    obtain ⟨j, L, rfl, hj, rfl, hL, hq⟩ := hrel
    obtain ⟨c0, c1, c2, c3, c4⟩ := box5' HS0.out hq
    have HL := Lib.hid hL
    clear hL
    by_cases hlt : j < k + 1
    · obtain ⟨N, hN⟩ : ∃ N, Fl.next b c F j = N := ⟨_, rfl⟩
      have HN := Lib.hid hN
      have hbd := Fl.next_bounds (b := b) (c := c) (F := F) (by omega) j
      rw [hN] at hbd
      obtain ⟨hN0, hNc⟩ := hbd
      clear hN
      go_wp2_with fail
      refine (next_ok _ _ _ _ _ _ _ (by omega) (by omega) (by omega) (by omega) (by omega) (by omega)).mono ?_
      rintro e w2 ⟨rfl, hq2⟩
      rw [Int.toNat_natCast, Int.toNat_natCast, Int.toNat_natCast, HN.out]
      have hq3 := hq.trans (hq2.mono (box_size hq))
      obtain ⟨c0, c1, c2, c3, c4⟩ := box5' HS0.out hq3
      by_cases hg : Fl.geOne F = true
      · have hge : (FloatKind.f64.format.order F 4607182418800017408 == some Ordering.gt || FloatKind.f64.format.order F 4607182418800017408 == some Ordering.eq) = true := hg
        by_cases hj0 : j = 0
        · have hj1 : ((j : Int) == 0) = true := by rw [beq_iff_eq]; omega
          have hmn : N = if (c : Int) < (b : Int) then (c : Int) else (b : Int) := by
            have := HN.out
            rw [hj0, Fl.next_zero (by omega) (by omega)] at this
            rw [← this]; split <;> omega
          have hLN : L ≤ N := by rw [HL.out, if_pos hj0]; exact hN0
          by_cases hcb : (c : Int) < (b : Int)
          · rw [if_pos hcb] at hmn
            have hmb : (N != (c : Int)) = false := by rw [← hmn]; simp
            clear hmn
            go_wp2_with fail
            go_roundw
            case rel => exact ⟨j + 1, N, by go_num, by omega, rfl, by rw [if_neg (by omega)]; exact HN.out.symm, hq3⟩
            case measure => simp [intOf]; omega
          · rw [if_neg hcb] at hmn
            have hmb : (N != (b : Int)) = false := by rw [← hmn]; simp
            clear hmn
            go_wp2_with fail
            go_roundw
            case rel => exact ⟨j + 1, N, by go_num, by omega, rfl, by rw [if_neg (by omega)]; exact HN.out.symm, hq3⟩
            case measure => simp [intOf]; omega
        · have hj1 : ((j : Int) == 0) = false := by rw [beq_eq_false_iff_ne]; omega
          have hLN : L ≤ N := by
            rw [HL.out, if_neg hj0, ← HN.out]
            have := Fl.next_mono (b := b) (c := c) (by omega) (by omega) hg (j - 1)
            rw [show j - 1 + 1 = j from by omega] at this
            exact this
          go_wp2_with fail
          go_roundw
          case rel => exact ⟨j + 1, N, by go_num, by omega, rfl, by rw [if_neg (by omega)]; exact HN.out.symm, hq3⟩
          case measure => simp [intOf]; omega
      · have hge : (FloatKind.f64.format.order F 4607182418800017408 == some Ordering.gt || FloatKind.f64.format.order F 4607182418800017408 == some Ordering.eq) = false := (Bool.not_eq_true _).mp hg
        by_cases hj0 : j = 0
        · have hj1 : ((j : Int) == 0) = true := by rw [beq_iff_eq]; omega
          have hmn : N = if (c : Int) < (b : Int) then (c : Int) else (b : Int) := by
            have := HN.out
            rw [hj0, Fl.next_zero (by omega) (by omega)] at this
            rw [← this]; split <;> omega
          by_cases hcb : (c : Int) < (b : Int)
          · rw [if_pos hcb] at hmn
            have hmb : (N != (c : Int)) = false := by rw [← hmn]; simp
            clear hmn
            go_wp2_with fail
            go_roundw
            case rel => exact ⟨j + 1, N, by go_num, by omega, rfl, by rw [if_neg (by omega)]; exact HN.out.symm, hq3⟩
            case measure => simp [intOf]; omega
          · rw [if_neg hcb] at hmn
            have hmb : (N != (b : Int)) = false := by rw [← hmn]; simp
            clear hmn
            go_wp2_with fail
            go_roundw
            case rel => exact ⟨j + 1, N, by go_num, by omega, rfl, by rw [if_neg (by omega)]; exact HN.out.symm, hq3⟩
            case measure => simp [intOf]; omega
        · have hj1 : ((j : Int) == 0) = false := by rw [beq_eq_false_iff_ne]; omega
          go_wp2_with fail
          go_roundw
          case rel => exact ⟨j + 1, N, by go_num, by omega, rfl, by rw [if_neg (by omega)]; exact HN.out.symm, hq3⟩
          case measure => simp [intOf]; omega
    · go_wp2_with (go_at_call 18; refine (alive_any _).mono ?_; rintro e w3 ⟨rfl, hq3⟩)
      go_ret
      have hz := hq0.trans ((((Below.refl _ _).alloc (Nat.le_refl _) _).trans (hq.mono (Nat.le_succ _))).mono hq0.size)
      exact ⟨rfl, hz.trans (hq3.mono hz.size)⟩

theorem bounds_any (x y bits k : Int) (w : World) (hk : 0 ≤ k ∧ k ≤ 255) :
    Calls Try.prog 4 #[.agg #[.int .i64 x, .int .i64 y], .int .u64 bits, .int .u8 k] w fun e w' => e = .returned (.bool true) ∧ Below w.heap.size w w' := by
  have hb := tk_bounds x
  have hc := tk_bounds y
  have h := bounds_walk x y bits k.toNat (tk x).toNat (tk y).toNat w (by omega) (by omega) (by omega)
  rw [Int.toNat_of_nonneg hk.1] at h
  exact h
end Go.Proofs.Ytlhpmnnbjkbahaa
