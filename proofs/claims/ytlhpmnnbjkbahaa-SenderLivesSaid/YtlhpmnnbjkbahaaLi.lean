/- The walk of SenderLives. -/
import Derived.Test.YtlhpmnnbjkbahaaFa
namespace Go.Proofs.Ytlhpmnnbjkbahaa
open Go.ChangeShapes Go.WideShapes Go.ChangeAt Go.RowKit

set_option maxRecDepth 100000 in
set_option maxHeartbeats 4000000 in
theorem lives_any (x y z bits f r : Int) (w : World) (hf : 0 ≤ f ∧ f ≤ 255) (hr : 0 ≤ r ∧ r ≤ 255) :
    Calls Try.prog 14 #[.agg #[.int .i64 x, .int .i64 y, .int .i64 z], .int .u64 bits, .agg #[.int .u8 f, .int .u8 r]] w fun e w' => e = .returned (.bool true) ∧ Below w.heap.size w w' := by
  obtain ⟨C, hC⟩ : ∃ C, C = conf x y z bits.toNat := ⟨_, rfl⟩
  have hCo : C.Ok := by rw [hC]; exact conf_ok _ _ _ _
  have HC := Lib.hid hC
  have HO := Lib.hid hCo
  clear hC hCo
  go_enter Try.func14, Try.ntmps14
  go_wp2_with fail
  go_quiet (fail)
  go_wp2_with fail
  refine (config_run x y z bits C HC.out _).mono ?_
  rintro e w1 ⟨rfl, m1⟩
  have q0 : Below w.heap.size w (((w.alloc (Obj.cells #[Value.int IntKind.i64 x, Value.int IntKind.i64 y, Value.int IntKind.i64 z] 55)).alloc (Obj.cells #[Value.int IntKind.u8 f, Value.int IntKind.u8 r] 68)).drewN nq) :=
    below_drewN (((Below.refl _ _).alloc (Nat.le_refl _) _).alloc (by simp) _) nq
  have M1 : Hid (Below w.heap.size w w1) := Lib.hid (q0.trans (m1.mono q0.size))
  clear m1 q0
  go_wp2_with fail
  refine (snew_ok C 0 _ HO.out (by decide) (by decide)).mono ?_
  rintro e w2 ⟨b, rfl, hb, h2, m2⟩
  have q2 := box_past m2
  have hb1 : w.heap.size < b := by have := M1.out.size; simp at hb; omega
  have hc1 : w1.heap.size ≠ b := by simp at hb; omega
  have M2 : Hid (SAt b C (Sn.new 0) w2 ∧ CBox w1.heap.size C w2 ∧ Below w.heap.size w w2) := Lib.hid ⟨h2, CBox.new q2, M1.out.trans ((box_below q2).mono M1.out.size)⟩
  clear hb h2 m2 q2
  go_wp2_with fail
  refine (salive_any _).mono ?_
  rintro e w4 ⟨rfl, m4⟩
  have M4 : Hid (SAt b C (Sn.new 0) w4 ∧ CBox w1.heap.size C w4 ∧ Below w.heap.size w w4) := Lib.hid ⟨M2.out.1.below m4, M2.out.2.1.below m4, M2.out.2.2.trans (m4.mono M2.out.2.2.size)⟩
  clear m4
  obtain ⟨K, hK, K0⟩ : ∃ K : Nat, r % 40 = K ∧ K ≤ 39 := ⟨(r % 40).toNat, by omega, by omega⟩
  obtain ⟨m, hm, m0⟩ : ∃ m : Nat, f % 30 = m ∧ m ≤ 29 := ⟨(f % 30).toNat, by omega, by omega⟩
  go_wp2_with fail
  refine (offer_ok b C (Sn.new 0) K _ (by show (0 : Int) ≤ K; omega) (by omega) M4.out.1).mono ?_
  rintro e w5 ⟨rfl, h5, m5⟩
  have M5 : Hid (One w b C ⟨0, K, 0, 0, 0⟩ w5 ∧ CBox w1.heap.size C w5) := Lib.hid ⟨⟨h5, Sn.ok_idle (by omega) (by omega) (by omega) (by omega) (by omega), Moved.below M4.out.2.2 m5 (fun i hi => by omega)⟩, M4.out.2.1.moved m5 hc1⟩
  clear h5 m5
  go_wp2_with fail
  simp only [hm]
  clear hK hm
  go_loopw [55] (fun i wr => ∃ (j : Nat) (t : Int), i = .int .i64 j ∧ j ≤ m ∧ (0 < K → t = j) ∧ 0 ≤ t ∧ t ≤ 30 ∧ One w b C ⟨0, K, 0, 0, t⟩ wr ∧ CBox w1.heap.size C wr) (fun i _ => m - (intOf i).toNat)
  case atStart => exact ⟨0, 0, rfl, by omega, fun _ => rfl, by omega, by omega, M5.out.1, M5.out.2⟩
  case round =>
    obtain ⟨j, t, rfl, hj, ht, t0, t1, h6, b6⟩ := hrel
    have M6 := Lib.hid (And.intro h6 b6)
    have HT := Lib.hid ht
    clear h6 b6 ht
    by_cases hlt : j < m
    · have hD := HO.out.dl (j : Int)
      obtain ⟨D, hDe⟩ : ∃ D, D = C.dl (j : Int) := ⟨_, rfl⟩
      have HN : Hid (∀ w, Calls Try.prog 17 #[cfg C.mf C.b C.c C.t C.F, .int .i64 (j : Int)] w fun e w' => e = .returned (.tuple #[.int .i64 D, .int .i64 0]) ∧ Below w.heap.size w w') := Lib.hid (fun w => by rw [hDe]; exact fl_next C HO.out j (by omega) (by omega) w)
      rw [← hDe] at hD
      have HDE := Lib.hid hDe
      clear hDe
      by_cases hK : 0 < K
      · have htj := HT.out hK
        have HTJ := Lib.hid htj
        have hKb : decide (0 < (K : Int)) = true := by simp; omega
        go_wp2_with fail
        refine (poll_ok b C ⟨0, K, 0, 0, t⟩ _ rfl rfl (by show (0 : Int) < K; omega) M6.out.1.one).mono ?_
        rintro e w7 ⟨rfl, h7, m7⟩
        have M7 : Hid (One w b C ⟨0, K, 1, C.t, t⟩ w7 ∧ CBox w1.heap.size C w7) := Lib.hid ⟨M6.out.1.next hb1 h7 m7 (sent_ok C _ HO.out (by show (0 : Int) < K; omega) M6.out.1.ok), M6.out.2.moved m7 hc1⟩
        clear h7 m7 htj
        go_wp2_with fail
        refine (drop_fail b C ⟨0, K, 1, C.t, t⟩ _ HO.out M7.out.1.ok rfl M7.out.1.one).mono ?_
        rintro e w9 ⟨rfl, h9, m9⟩
        have M9 : Hid (One w b C (Sn.fail C ⟨0, K, 1, C.t, t⟩) w9 ∧ CBox w1.heap.size C w9) := Lib.hid ⟨M7.out.1.next hb1 h9 m9 (fail_ok C _ HO.out M7.out.1.ok), M7.out.2.moved m9 hc1⟩
        clear h9 m9
        obtain ⟨g0, g1, g2, g3, g4⟩ := M9.out.2
        have hov := fail_over C ⟨0, K, 1, C.t, t⟩ HO.out
        obtain ⟨f1, f2, f3⟩ := fail_left C ⟨0, K, 1, C.t, t⟩
        have hok := fail_ok C ⟨0, K, 1, C.t, t⟩ HO.out M7.out.1.ok
        obtain ⟨s1, hs1⟩ : ∃ s1, s1 = Sn.fail C ⟨0, K, 1, C.t, t⟩ := ⟨_, rfl⟩
        have e1 : C.dl t = D := by rw [HTJ.out, HDE.out]
        have e2 : up t = (j : Int) + 1 := by rw [HTJ.out, up, if_pos (by omega)]
        simp only [← hs1, e1, e2] at f1 f2 f3 hov hok
        have HF : Hid (s1.left = D ∧ s1.tries = (j : Int) + 1 ∧ s1.kind ≠ 1 ∧ s1.tick C D = ⟨0, K, 0, 0, (j : Int) + 1⟩ ∧ s1.Ok C) := Lib.hid ⟨f1, f2, f3, hov, hok⟩
        rw [← hs1] at M9
        clear hov f1 f2 f3 hs1 hok e1 e2
        go_wp2_with fail
        refine (HN.out _).mono ?_
        rintro e w10 ⟨rfl, m10⟩
        have M10 : Hid (One w b C s1 w10 ∧ CBox w1.heap.size C w10) := Lib.hid ⟨⟨M9.out.1.one.below m10, HF.out.2.2.2.2, M9.out.1.below.trans (m10.mono M9.out.1.below.size)⟩, M9.out.2.below m10⟩
        clear m10 g0 g1 g2 g3 g4
        go_wp2_with fail
        refine (left_eq b C s1 _ D M10.out.1.one HF.out.1).mono ?_
        rintro e w' ⟨rfl, rfl⟩
        go_wp2_with fail
        refine (tries_eq b C s1 _ ((j : Int) + 1) M10.out.1.one HF.out.2.1).mono ?_
        rintro e w' ⟨rfl, rfl⟩
        go_wp2_with fail
        refine (tick_any b C s1 D _ HO.out HF.out.2.2.2.2 hD.1 (by omega) M10.out.1.one).mono ?_
        rintro e w11 ⟨rfl, h11, m11⟩
        rw [HF.out.2.2.2.1] at h11
        have M11 : Hid (One w b C ⟨0, K, 0, 0, (j : Int) + 1⟩ w11 ∧ CBox w1.heap.size C w11) := Lib.hid ⟨M10.out.1.next hb1 h11 m11 (Sn.ok_idle (by omega) (by omega) (by omega) (by omega) (by omega)), M10.out.2.moved m11 hc1⟩
        clear h11 m11
        go_wp2_with fail
        go_roundw
        case rel => exact ⟨j + 1, (j : Int) + 1, by go_num, by omega, fun _ => by omega, by omega, by omega, M11.out.1, M11.out.2⟩
        case measure => simp [intOf]; omega
      · have hKb : decide (0 < (K : Int)) = false := by simp; omega
        have HK := Lib.hid hK
        clear hK
        go_wp2_with fail
        refine (poll_no b C ⟨0, K, 0, 0, t⟩ _ (.inr ⟨rfl, rfl, by show (K : Int) ≤ 0; have := HK.out; omega⟩) M6.out.1.one).mono ?_
        rintro e w7 ⟨rfl, h7, m7⟩
        have M7 : Hid (One w b C ⟨0, K, 0, 0, t⟩ w7 ∧ CBox w1.heap.size C w7) := Lib.hid ⟨M6.out.1.next hb1 h7 m7 M6.out.1.ok, M6.out.2.moved m7 hc1⟩
        clear h7 m7
        go_wp2_with fail
        refine (drop_idle b C ⟨0, K, 0, 0, t⟩ _ zero_ne_one M7.out.1.one).mono ?_
        rintro e w' ⟨rfl, rfl⟩
        obtain ⟨g0, g1, g2, g3, g4⟩ := M7.out.2
        go_wp2_with fail
        refine (HN.out _).mono ?_
        rintro e w10 ⟨rfl, m10⟩
        have M10 : Hid (One w b C ⟨0, K, 0, 0, t⟩ w10 ∧ CBox w1.heap.size C w10) := Lib.hid ⟨⟨M7.out.1.one.below m10, M7.out.1.ok, M7.out.1.below.trans (m10.mono M7.out.1.below.size)⟩, M7.out.2.below m10⟩
        clear m10 g0 g1 g2 g3 g4
        go_wp2_with fail
        refine (tick_idle b C ⟨0, K, 0, 0, t⟩ D _ hD.1 rfl M10.out.1.one).mono ?_
        rintro e w' ⟨rfl, rfl⟩
        go_wp2_with fail
        go_roundw
        case rel => exact ⟨j + 1, t, by go_num, by omega, fun h => absurd h HK.out, t0, t1, M10.out.1, M10.out.2⟩
        case measure => simp [intOf]; omega
    · clear HT
      go_wp2_with fail
      have t0' := HO.out.t0
      have t1' := HO.out.t1
      go_loopw [97] (fun i wr => ∃ (j : Nat) (t : Int), i = .int .i64 j ∧ j ≤ K ∧ 0 ≤ t ∧ t ≤ 30 ∧ One w b C ⟨j, K, 0, 0, t⟩ wr ∧ CBox w1.heap.size C wr) (fun i _ => K - (intOf i).toNat)
      case atStart => exact ⟨0, t, rfl, by omega, t0, t1, M6.out.1, M6.out.2⟩
      case round =>
        obtain ⟨i, u, rfl, hi, u0, u1, h8, b8⟩ := hrel
        have M8 := Lib.hid (And.intro h8 b8)
        clear h8 b8
        by_cases hl2 : i < K
        · go_wp2_with fail
          refine (poll_ok b C ⟨i, K, 0, 0, u⟩ _ rfl rfl (by show (i : Int) < K; omega) M8.out.1.one).mono ?_
          rintro e w9 ⟨rfl, h9, m9⟩
          have M9 : Hid (One w b C ⟨i, K, 1, C.t, u⟩ w9 ∧ CBox w1.heap.size C w9) := Lib.hid ⟨M8.out.1.next hb1 h9 m9 (sent_ok C _ HO.out (by show (i : Int) < K; omega) M8.out.1.ok), M8.out.2.moved m9 hc1⟩
          clear h9 m9
          have g3 : w9.cell? ⟨w1.heap.size, 3, none⟩ = some (.int .i64 C.t) := M9.out.2.2.2.2.1
          go_wp2_with fail
          refine (tick_fly b C ⟨i, K, 1, C.t, u⟩ (C.t - 1) _ M9.out.1.ok (by omega) rfl (by show C.t - 1 < C.t; omega) M9.out.1.one).mono ?_
          rintro e w10 ⟨rfl, h10, m10⟩
          have h10' : SAt b C ⟨i, K, 1, 1, u⟩ w10 := by
            have e1 : C.t - (C.t - 1) = 1 := by omega
            simp only [e1] at h10
            exact h10
          have M10 : Hid (One w b C ⟨i, K, 1, 1, u⟩ w10 ∧ CBox w1.heap.size C w10) := Lib.hid ⟨M9.out.1.next hb1 h10' m10 (Sn.ok_fly (by omega) (by omega) (by omega) u0 (by omega) (by omega) (by omega)), M9.out.2.moved m10 hc1⟩
          clear h10 h10' m10 g3
          go_wp2_with fail
          refine (answer_ok b C ⟨i, K, 1, 1, u⟩ _ M10.out.1.ok rfl M10.out.1.one).mono ?_
          rintro e w11 ⟨rfl, h11, m11⟩
          have M11 : Hid (One w b C ⟨(i : Int) + 1, K, 0, 0, 0⟩ w11 ∧ CBox w1.heap.size C w11) := Lib.hid ⟨M10.out.1.next hb1 h11 m11 (Sn.ok_idle (by omega) (by omega) (by omega) (by omega) (by omega)), M10.out.2.moved m11 hc1⟩
          clear h11 m11
          go_wp2_with fail
          refine (tries_run b C ⟨(i : Int) + 1, K, 0, 0, 0⟩ _ M11.out.1.one).mono ?_
          rintro e w' ⟨rfl, rfl⟩
          go_wp2_with fail
          go_roundw
          case rel => exact ⟨i + 1, 0, by go_num, by omega, by omega, by omega, M11.out.1, M11.out.2⟩
          case measure => simp [intOf]; omega
        · have hik : (i : Int) = K := by omega
          have HI := Lib.hid hik
          clear hik
          go_wp2_with fail
          refine (poll_no b C ⟨i, K, 0, 0, u⟩ _ (.inr ⟨rfl, rfl, by show (K : Int) ≤ i; omega⟩) M8.out.1.one).mono ?_
          rintro e w9 ⟨rfl, h9, m9⟩
          have M9 := Lib.hid (M8.out.1.next hb1 h9 m9 M8.out.1.ok)
          clear h9 m9
          go_wp2_with fail
          refine (at_eq b C ⟨i, K, 0, 0, u⟩ _ K M9.out.one HI.out).mono ?_
          rintro e w' ⟨rfl, rfl⟩
          go_wp2_with fail
          go_ret
          exact ⟨rfl, M9.out.below⟩
end Go.Proofs.Ytlhpmnnbjkbahaa
