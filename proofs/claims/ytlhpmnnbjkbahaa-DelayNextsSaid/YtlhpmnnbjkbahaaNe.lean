/- The walk of DelayNexts: the delay, the sum and the kind are the document's. -/
import Derived.Deep.RegionHeld3
import Derived.Test.YtlhpmnnbjkbahaaDr
import Derived.Test.YtlhpmnnbjkbahaaKi
namespace Go.Proofs.Ytlhpmnnbjkbahaa
open Go.RowKit

/-- a function of a config and a number hands back two numbers, and leaves what was there -/
def Two (f : FuncId) (x y : Int) (F : Nat) (k a b : Int) : Prop :=
  ∀ w : World, Calls Try.prog f #[cfg 0 x y 0 F, .int .i64 k] w fun e w' => e = .returned (.tuple #[.int .i64 a, .int .i64 b]) ∧ Below w.heap.size w w'

set_option maxRecDepth 100000 in
set_option maxHeartbeats 1000000 in
theorem nexts_walk (x y bits k M n e s g : Int) (F : Nat) (w : World) (hF : bits.toNat = F) (hF1 : F < 18446744073709551616) (hM : (if 60 < k then 60 else k) = M)
    (H17 : Two 17 x y F k n e) (H21 : Two 21 x y F k n e) (H20 : Two 20 x y F M s g) (H22 : Two 22 x y F M s g) (Hm : Two 20 x y F 1001 0 3) :
    Calls Try.prog 7 #[.agg #[.int .i64 x, .int .i64 y], .int .u64 bits, .int .i64 k] w fun e w' => e = .returned (.bool true) ∧ Below w.heap.size w w' := by
  obtain ⟨K, hK1, hK2⟩ := kinds F hF1
  have HF := Lib.hid hF
  have HK1 := Lib.hid hK1
  have HK2 := Lib.hid hK2
  clear hF hF1 hK1 hK2
  have hf := run_frombits
  go_enter Try.func7, Try.ntmps7
  go_wp2_with fail
  go_quiet (fail)
  go_wp2_with fail
  rw [HF.out]
  generalize hW0 : (w.alloc (Obj.cells #[Value.int IntKind.i64 x, Value.int IntKind.i64 y] 31)).drewN nq = W0
  have hs0 : w.heap.size + 1 = W0.heap.size := by rw [← hW0]; simp [World.drewN]
  have hq0 : Below w.heap.size w W0 := by rw [← hW0]; exact below_drewN ((Below.refl _ _).alloc (Nat.le_refl _) _) nq
  have HS0 := Lib.hid hs0
  clear hs0 hW0
  have hq : Below (W0.heap.size + 1) (W0.alloc (.cells #[.int .i64 0, .int .i64 x, .int .i64 y, .int .i64 0, .float .f64 F] 28)) (W0.alloc (.cells #[.int .i64 0, .int .i64 x, .int .i64 y, .int .i64 0, .float .f64 F] 28)) := Below.refl _ _
  refine (H17 _).mono ?_
  rintro e w1 ⟨rfl, hr1⟩
  have hq1 := hq.trans (hr1.mono (box_size hq))
  clear hq hr1
  obtain ⟨c0, c1, c2, c3, c4⟩ := box5' HS0.out hq1
  go_wp2_with fail
  refine (H21 _).mono ?_
  rintro e w2 ⟨rfl, hr2⟩
  have hq2 := hq1.trans (hr2.mono (box_size hq1))
  clear c0 c1 c2 c3 c4 hq1 hr2
  obtain ⟨c0, c1, c2, c3, c4⟩ := box5' HS0.out hq2
  go_wp2_with fail
  refine (H20 _).mono ?_
  rintro e w3 ⟨rfl, hr3⟩
  have hq3 := hq2.trans (hr3.mono (box_size hq2))
  clear c0 c1 c2 c3 c4 hq2 hr3
  obtain ⟨c0, c1, c2, c3, c4⟩ := box5' HS0.out hq3
  go_wp2_with fail
  refine (H22 _).mono ?_
  rintro e w4 ⟨rfl, hr4⟩
  have hq4 := hq3.trans (hr4.mono (box_size hq3))
  clear c0 c1 c2 c3 c4 hq3 hr4
  obtain ⟨c0, c1, c2, c3, c4⟩ := box5' HS0.out hq4
  go_wp2_with fail
  refine (Hm _).mono ?_
  rintro e w5 ⟨rfl, hr5⟩
  have hq5 := hq4.trans (hr5.mono (box_size hq4))
  clear c0 c1 c2 c3 c4 hq4 hr5
  obtain ⟨c0, c1, c2, c3, c4⟩ := box5' HS0.out hq5
  clear hM
  go_wp2_with fail
  have hsz : w.heap.size + 1 < w5.heap.size := by have := box_size hq5; have := HS0.out; omega
  go_region_held3 (fun w' => w'.cell? ⟨w.heap.size + 1, 4, none⟩ = some (.float .f64 F)) (first | go_keep | (rw [hq6.cell (p := ⟨w.heap.size + 1, 4, none⟩) hsz]; exact c4))
    (first | (go_at_call 18; refine (alive_any _).mono ?_; rintro e w6 ⟨rfl, hq6⟩) | (go_at_call 23; refine (HK1.out _).mono ?_; rintro e w' ⟨rfl, rfl⟩) | (go_at_call 24; refine (HK2.out _).mono ?_; rintro e w' ⟨rfl, rfl⟩))
  all_goals
    go_wp2_with fail
    go_ret
    have hz := hq0.trans ((((Below.refl _ _).alloc (Nat.le_refl _) _).trans (hq5.mono (Nat.le_succ _))).mono hq0.size)
    have hz6 : Below w5.heap.size w5 _ := ((Below.refl _ _).drew).trans hq6
    exact ⟨rfl, hz.trans (hz6.mono hz.size)⟩

theorem nexts_any (x y bits k : Int) (w : World) (hb : 0 ≤ bits ∧ bits ≤ 18446744073709551615) (hk : k ≤ 9223372036854775807) :
    Calls Try.prog 7 #[.agg #[.int .i64 x, .int .i64 y], .int .u64 bits, .int .i64 k] w fun e w' => e = .returned (.bool true) ∧ Below w.heap.size w w' := by
  have many : Two 20 x y bits.toNat 1001 0 3 := fun w => total_many _ _ _ _ _ _ w (by decide)
  by_cases hc : x < 0 ∨ y < 0 ∨ 1099511627776 < x ∨ 1099511627776 < y
  · exact nexts_walk x y bits k _ 0 3 0 3 bits.toNat w rfl (by omega) rfl (fun w => next_bad _ _ _ _ _ _ w (by omega)) (fun w => rnext_bad _ _ _ _ _ _ w (by omega))
      (fun w => total_bad _ _ _ _ _ _ w (by omega)) (fun w => rtotal_bad _ _ _ _ _ _ w (by omega)) many
  by_cases hk0 : k < 0
  · have hM : (if 60 < k then 60 else k) = k := by rw [if_neg (by omega)]
    exact nexts_walk x y bits k k 0 3 0 3 bits.toNat w rfl (by omega) hM (fun w => next_bad _ _ _ _ _ _ w (by omega)) (fun w => rnext_bad _ _ _ _ _ _ w (by omega))
      (fun w => total_bad _ _ _ _ _ _ w (by omega)) (fun w => rtotal_bad _ _ _ _ _ _ w (by omega)) many
  · have hM0 : 0 ≤ (if 60 < k then 60 else k) := by split <;> omega
    have hM1 : (if 60 < k then 60 else k) ≤ 1000 := by split <;> omega
    exact nexts_walk x y bits k _ _ 0 _ 0 bits.toNat w rfl (by omega) rfl (fun w => next_ok _ _ _ _ _ _ w (by omega) (by omega) (by omega) (by omega) (by omega) hk) (fun w => rnext_ok _ _ _ _ _ _ w (by omega) (by omega) (by omega) (by omega) (by omega) hk)
      (fun w => total_ok _ _ _ _ _ _ w (by omega) (by omega) (by omega) (by omega) hM0 hM1) (fun w => rtotal_ok _ _ _ _ _ _ w (by omega) (by omega) (by omega) (by omega) hM0 hM1) many
end Go.Proofs.Ytlhpmnnbjkbahaa
