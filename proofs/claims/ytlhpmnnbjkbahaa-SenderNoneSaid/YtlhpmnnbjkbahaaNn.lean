/- The walk of SenderNone. -/
import Derived.Test.YtlhpmnnbjkbahaaAc
namespace Go.Proofs.Ytlhpmnnbjkbahaa
open Go.RowKit

theorem nil_fly (w : World) : Calls Try.prog 35 #[.pointer none] w fun e w' => e = .returned (.bool false) ∧ w = w' := by
  go_enter Try.func35, Try.ntmps35
  go_wp2_with fail
  go_ret
  exact ⟨rfl, rfl⟩
theorem nil_poll (w : World) : Calls Try.prog 29 #[.pointer none] w fun e w' => e = .returned (.tuple #[.int .i64 0, .bool false]) ∧ Below w.heap.size w w' := by
  go_enter Try.func29, Try.ntmps29
  go_wp2_with fail
  go_quiet (fail)
  go_wp2_with fail
  go_ret2
  exact ⟨rfl, below_drewN (Below.refl _ _) nq⟩
theorem nil_drop (w : World) : Calls Try.prog 38 #[.pointer none] w fun e w' => e = .returned (.tuple #[]) ∧ w = w' := by
  go_enter Try.func38, Try.ntmps38
  go_wp2_with (go_at_call 35; refine (nil_fly _).mono ?_; rintro e w' ⟨rfl, rfl⟩)
  exact ⟨rfl, .tuple #[], results_none rfl _ _ _, rfl, rfl⟩
theorem nil_offer (w : World) : Calls Try.prog 30 #[.pointer none, .int .i64 1] w fun e w' => e = .returned (.int .i64 1) ∧ w = w' := by
  go_enter Try.func30, Try.ntmps30
  go_wp2_with fail
  go_ret
  exact ⟨rfl, rfl⟩
theorem nil_answer (w : World) : Calls Try.prog 31 #[.pointer none, .bool true] w fun e w' => e = .returned (.bool false) ∧ w = w' := by
  go_enter Try.func31, Try.ntmps31
  go_wp2_with (go_at_call 35; refine (nil_fly _).mono ?_; rintro e w' ⟨rfl, rfl⟩)
  go_ret
  exact ⟨rfl, rfl⟩
theorem nil_tick (w : World) : Calls Try.prog 34 #[.pointer none, .int .i64 1] w fun e w' => e = .returned (.int .i64 1) ∧ w = w' := by
  go_enter Try.func34, Try.ntmps34
  go_wp2_with fail
  go_ret
  exact ⟨rfl, rfl⟩
theorem nil_at (w : World) : Calls Try.prog 32 #[.pointer none] w fun e w' => e = .returned (.int .i64 0) ∧ w = w' := by
  go_enter Try.func32, Try.ntmps32
  go_wp2_with fail
  go_ret
  exact ⟨rfl, rfl⟩
theorem nil_left (w : World) : Calls Try.prog 36 #[.pointer none] w fun e w' => e = .returned (.int .i64 0) ∧ w = w' := by
  go_enter Try.func36, Try.ntmps36
  go_wp2_with fail
  go_ret
  exact ⟨rfl, rfl⟩
theorem nil_tries (w : World) : Calls Try.prog 37 #[.pointer none] w fun e w' => e = .returned (.int .i64 0) ∧ w = w' := by
  go_enter Try.func37, Try.ntmps37
  go_wp2_with fail
  go_ret
  exact ⟨rfl, rfl⟩

set_option maxRecDepth 100000 in
set_option maxHeartbeats 4000000 in
theorem none_any (x y z a : Int) (w : World) (ha : -9223372036854775808 ≤ a ∧ a ≤ 9223372036854775807) :
    Calls Try.prog 11 #[.agg #[.int .i64 x, .int .i64 y, .int .i64 z], .int .i64 a] w fun e w' => e = .returned (.bool true) ∧ Below w.heap.size w w' := by
  have hok : (Cf.Ok ⟨0, x, y, z, 0⟩ ∧ 0 ≤ a ∧ a ≤ 1099511627776) ∨ ¬ (Cf.Ok ⟨0, x, y, z, 0⟩ ∧ 0 ≤ a ∧ a ≤ 1099511627776) := Classical.em _
  go_enter Try.func11, Try.ntmps11
  have HK := Lib.hid hok
  clear hok
  go_wp2_with fail
  refine (nil_poll _).mono ?_
  rintro e w1 ⟨rfl, m1⟩
  have a0 : w1.cell? ⟨w.heap.size, 0, none⟩ = some (.int .i64 x) := keep_box (box_past m1) rfl
  have a1 : w1.cell? ⟨w.heap.size, 1, none⟩ = some (.int .i64 y) := keep_box (box_past m1) rfl
  have a2 : w1.cell? ⟨w.heap.size, 2, none⟩ = some (.int .i64 z) := keep_box (box_past m1) rfl
  have M1 : Hid (Below w.heap.size w w1) := Lib.hid (box_below (box_past m1))
  clear m1
  go_wp2_with (first
    | (go_at_call 38; refine (nil_drop _).mono ?_; rintro e w' ⟨rfl, rfl⟩)
    | (go_at_call 30; refine (nil_offer _).mono ?_; rintro e w' ⟨rfl, rfl⟩)
    | (go_at_call 31; refine (nil_answer _).mono ?_; rintro e w' ⟨rfl, rfl⟩)
    | (go_at_call 34; refine (nil_tick _).mono ?_; rintro e w' ⟨rfl, rfl⟩)
    | (go_at_call 32; refine (nil_at _).mono ?_; rintro e w' ⟨rfl, rfl⟩)
    | (go_at_call 35; refine (nil_fly _).mono ?_; rintro e w' ⟨rfl, rfl⟩)
    | (go_at_call 36; refine (nil_left _).mono ?_; rintro e w' ⟨rfl, rfl⟩)
    | (go_at_call 37; refine (nil_tries _).mono ?_; rintro e w' ⟨rfl, rfl⟩))
  clear a0 a1 a2
  rcases HK.out with ⟨hC, h0, h1⟩ | hno
  · refine (snew_ok ⟨0, x, y, z, 0⟩ a _ hC h0 h1).mono ?_
    rintro e w2 ⟨b, rfl, hb, h2, m2⟩
    have q2 := box_past m2
    have d0 : w2.cell? ⟨w1.heap.size, 0, none⟩ = some (.int .i64 0) := keep_box q2 rfl
    have d1 : w2.cell? ⟨w1.heap.size, 1, none⟩ = some (.int .i64 x) := keep_box q2 rfl
    have d2 : w2.cell? ⟨w1.heap.size, 2, none⟩ = some (.int .i64 y) := keep_box q2 rfl
    have d3 : w2.cell? ⟨w1.heap.size, 3, none⟩ = some (.int .i64 z) := keep_box q2 rfl
    have d4 : w2.cell? ⟨w1.heap.size, 4, none⟩ = some (.float .f64 0) := keep_box q2 rfl
    have M2 : Hid (SAt b ⟨0, x, y, z, 0⟩ (Sn.new a) w2 ∧ Below w.heap.size w w2) := Lib.hid ⟨h2, M1.out.trans ((box_below q2).mono M1.out.size)⟩
    have HC := Lib.hid hC
    clear hb h2 m2 q2 hC HK
    go_wp2_with fail
    refine (rnew_ok ⟨0, x, y, z, 0⟩ a _ HC.out h0 h1).mono ?_
    rintro e w3 ⟨b', rfl, hb', h3, m3⟩
    have M3 : Hid (SAt b ⟨0, x, y, z, 0⟩ (Sn.new a) w3 ∧ Below w.heap.size w w3) := Lib.hid ⟨M2.out.1.below m3, M2.out.2.trans (m3.mono M2.out.2.size)⟩
    clear d0 d1 d2 d3 d4 hb' h3 m3
    go_wp2_with fail
    refine (salive_any _).mono ?_
    rintro e w4 ⟨rfl, m4⟩
    have M4 : Hid (SAt b ⟨0, x, y, z, 0⟩ (Sn.new a) w4 ∧ Below w.heap.size w w4) := Lib.hid ⟨M3.out.1.below m4, M3.out.2.trans (m4.mono M3.out.2.size)⟩
    clear m4
    go_wp2_with fail
    refine (at_run b ⟨0, x, y, z, 0⟩ ⟨a, a, 0, 0, 0⟩ _ M4.out.1).mono ?_
    rintro e w' ⟨rfl, rfl⟩
    go_wp2_with fail
    refine (offer_bad b ⟨0, x, y, z, 0⟩ ⟨a, a, 0, 0, 0⟩ (a - 1) _ (.inl (by show a - 1 < a; omega)) M4.out.1).mono ?_
    rintro e w' ⟨rfl, rfl⟩
    go_wp2_with fail
    refine (left_run b ⟨0, x, y, z, 0⟩ ⟨a, a, 0, 0, 0⟩ _ M4.out.1).mono ?_
    rintro e w' ⟨rfl, rfl⟩
    go_wp2_with fail
    go_ret
    exact ⟨rfl, M4.out.2⟩
  · refine (snew_bad ⟨0, x, y, z, 0⟩ a _ hno).mono ?_
    rintro e w2 ⟨rfl, m2⟩
    have q2 := box_past m2
    have d0 : w2.cell? ⟨w1.heap.size, 0, none⟩ = some (.int .i64 0) := keep_box q2 rfl
    have d1 : w2.cell? ⟨w1.heap.size, 1, none⟩ = some (.int .i64 x) := keep_box q2 rfl
    have d2 : w2.cell? ⟨w1.heap.size, 2, none⟩ = some (.int .i64 y) := keep_box q2 rfl
    have d3 : w2.cell? ⟨w1.heap.size, 3, none⟩ = some (.int .i64 z) := keep_box q2 rfl
    have d4 : w2.cell? ⟨w1.heap.size, 4, none⟩ = some (.float .f64 0) := keep_box q2 rfl
    have M2 : Hid (Below w.heap.size w w2) := Lib.hid (M1.out.trans ((box_below q2).mono M1.out.size))
    have HN := Lib.hid hno
    clear m2 q2 hno HK
    go_wp2_with fail
    refine (rnew_bad ⟨0, x, y, z, 0⟩ a _ HN.out).mono ?_
    rintro e w3 ⟨rfl, m3⟩
    have M3 : Hid (Below w.heap.size w w3) := Lib.hid (M2.out.trans (m3.mono M2.out.size))
    clear d0 d1 d2 d3 d4 m3
    go_wp2_with fail
    refine (salive_any _).mono ?_
    rintro e w4 ⟨rfl, m4⟩
    go_wp2_with fail
    go_ret
    exact ⟨rfl, M3.out.trans (m4.mono M3.out.size)⟩
end Go.Proofs.Ytlhpmnnbjkbahaa
