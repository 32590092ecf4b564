/- The walk of SenderTicks: ticks one by one are the same as all at once. -/
import Derived.Test.YtlhpmnnbjkbahaaFa
namespace Go.Proofs.Ytlhpmnnbjkbahaa
open Go.RowKit

theorem rest_over (s : Sn) (l n : Int) (k : Int) : Sn.rest { s with kind := k, left := l } n = s.rest n := by
  unfold Sn.rest; split <;> rfl
theorem wait_add (s : Sn) (a : Int) : (s.wait a).wait 1 = s.wait (a + 1) := by
  by_cases hk : s.kind = 2
  · rw [Sn.wait, Sn.wait, Sn.wait, if_pos hk, if_pos hk]
    by_cases h1 : 0 < s.left - a
    · rw [if_pos h1]
      have e : s.rest (s.left - a) = { s with kind := 2, left := s.left - a } := by rw [Sn.rest, if_neg (by omega)]
      rw [e]
      show (if (2 : Int) = 2 then _ else _) = _
      rw [if_pos rfl, rest_over]
      by_cases h2 : 0 < s.left - (a + 1)
      · rw [if_pos h2, if_pos (by show 0 < s.left - a - 1; omega)]
        congr 1
        show s.left - a - 1 = _
        omega
      · rw [if_neg h2, if_neg (by show ¬ 0 < s.left - a - 1; omega)]
    · rw [if_neg h1, if_neg (by omega : ¬ 0 < s.left - (a + 1))]
      have e : s.rest 0 = s.idle := by rw [Sn.rest, if_pos rfl]
      rw [e]
      rw [if_neg (by show ¬ (0 : Int) = 2; decide)]
  · rw [Sn.wait, Sn.wait, Sn.wait, if_neg hk, if_neg hk, if_neg hk]
theorem rest_one (s : Sn) (a : Int) : (s.rest a).kind ≠ 1 := by
  unfold Sn.rest
  by_cases h : a = 0
  · rw [if_pos h]; show (0 : Int) ≠ 1; decide
  · rw [if_neg h]; show (2 : Int) ≠ 1; decide
theorem wait_one (s : Sn) (a : Int) (hk : s.kind ≠ 1) : (s.wait a).kind ≠ 1 := by
  unfold Sn.wait
  by_cases h : s.kind = 2
  · rw [if_pos h]; exact rest_one _ _
  · rw [if_neg h]; exact hk
theorem fail_same (C : Cf) (s : Sn) (l : Int) : Sn.fail C { s with left := l } = s.fail C := by
  unfold Sn.fail
  exact rest_over { s with tries := up s.tries } l (C.dl s.tries) s.kind

theorem tick_add (C : Cf) (s : Sn) (a : Int) (hs : s.Ok C) : (s.tick C a).tick C 1 = s.tick C (a + 1) := by
  by_cases hk : s.kind = 1
  · have hl : 1 ≤ s.left := by rcases hs.form with h | h | h <;> omega
    rw [Sn.tick, Sn.tick, Sn.tick, if_pos hk, if_pos hk]
    by_cases h1 : a < s.left
    · rw [if_pos h1]
      show (if s.kind = 1 then (if 1 < s.left - a then ({ s with left := s.left - a - 1 } : Sn) else (Sn.fail C { s with left := s.left - a }).wait (1 - (s.left - a))) else _) = _
      rw [if_pos hk, fail_same]
      by_cases h2 : a + 1 < s.left
      · rw [if_pos h2, if_pos (by omega)]
        congr 1
        omega
      · rw [if_neg h2, if_neg (by omega)]
        congr 1
        omega
    · rw [if_neg h1, if_neg (by omega : ¬ a + 1 < s.left), if_neg (wait_one _ _ (fail_left C s).2.2), wait_add]
      congr 1
      omega
  · rw [Sn.tick, Sn.tick, Sn.tick, if_neg hk, if_neg hk, if_neg (wait_one _ _ hk), wait_add]
theorem tick_zero (C : Cf) (s : Sn) (hs : s.Ok C) : s.tick C 0 = s := by
  rcases hs.form with ⟨hk, hl⟩ | ⟨hk, hl, _, _⟩ | ⟨hk, hl, _⟩
  · rw [Sn.tick, if_neg (by omega), Sn.wait, if_neg (by omega)]
  · rw [Sn.tick, if_pos hk, if_pos (by omega), Int.sub_zero]
  · rw [Sn.tick, if_neg (by omega), Sn.wait, if_pos hk, if_pos (by omega), Int.sub_zero, Sn.rest, if_neg (by omega)]
    cases s
    simp only at hk
    subst hk
    rfl

/-- two senders of the program's -/
structure Duo (w0 : World) (b b' : Nat) (C : Cf) (s s' : Sn) (w : World) : Prop where
  one : SAt b C s w
  two : SAt b' C s' w
  ok : s.Ok C
  ok' : s'.Ok C
  below : Below w0.heap.size w0 w
theorem Duo.first {w0 : World} {b b' : Nat} {C : Cf} {s s' t : Sn} {w w' : World} (h : Duo w0 b b' C s s' w) (hb : w0.heap.size ≤ b) (hb' : b < b') (h1 : SAt b C t w') (hm : Moved w w' (· = b)) (ho : t.Ok C) : Duo w0 b b' C t s' w' :=
  ⟨h1, h.two.moved hm (by omega), ho, h.ok', Moved.below h.below hm (fun i hi => by omega)⟩
theorem Duo.second {w0 : World} {b b' : Nat} {C : Cf} {s s' t : Sn} {w w' : World} (h : Duo w0 b b' C s s' w) (hb : w0.heap.size ≤ b) (hb' : b < b') (h1 : SAt b' C t w') (hm : Moved w w' (· = b')) (ho : t.Ok C) : Duo w0 b b' C s t w' :=
  ⟨h.one.moved hm (by omega), h1, h.ok, ho, Moved.below h.below hm (fun i hi => by omega)⟩

set_option maxRecDepth 100000 in
set_option maxHeartbeats 4000000 in
theorem ticks16_any (x y z bits n : Int) (w : World) (hn : 0 ≤ n ∧ n ≤ 65535) :
    Calls Try.prog 10 #[.agg #[.int .i64 x, .int .i64 y, .int .i64 z], .int .u64 bits, .int .u16 n] w fun e w' => e = .returned (.bool true) ∧ Below w.heap.size w w' := by
  obtain ⟨X, hX⟩ : ∃ X, wrap64 ((IntKind.u64.wrap x).tmod 500) = X := ⟨_, rfl⟩
  obtain ⟨Y, hY⟩ : ∃ Y, wrap64 ((IntKind.u64.wrap y).tmod 500) = Y := ⟨_, rfl⟩
  obtain ⟨Z, hZ⟩ : ∃ Z, wrap64 ((IntKind.u64.wrap z).tmod 500) = Z := ⟨_, rfl⟩
  obtain ⟨C, hC⟩ : ∃ C, C = conf X Y Z bits.toNat := ⟨_, rfl⟩
  have hCo : C.Ok := by rw [hC]; exact conf_ok _ _ _ _
  have HC := Lib.hid hC
  have HO := Lib.hid hCo
  clear hC hCo
  go_enter Try.func10, Try.ntmps10
  go_wp2_with fail
  refine (config_run X Y Z bits C HC.out _).mono ?_
  rintro e w1 ⟨rfl, m1⟩
  have M1 := Lib.hid (box_below (box_past m1))
  clear m1
  simp only [hX, hY, hZ]
  clear hX hY hZ
  go_wp2_with fail
  refine (snew_ok C 0 _ HO.out (by decide) (by decide)).mono ?_
  rintro e w2 ⟨b, rfl, hb, h2, m2⟩
  have q2 := box_past m2
  have hb1 : w.heap.size ≤ b := by have := M1.out.size; simp at hb; omega
  have M2 : Hid (SAt b C (Sn.new 0) w2 ∧ CBox w1.heap.size C w2 ∧ Below w.heap.size w w2) := Lib.hid ⟨h2, CBox.new q2, M1.out.trans ((box_below q2).mono M1.out.size)⟩
  clear hb h2 m2 q2
  obtain ⟨g0, g1, g2, g3, g4⟩ := M2.out.2.1
  go_wp2_with fail
  refine (snew_ok C 0 _ HO.out (by decide) (by decide)).mono ?_
  rintro e w3 ⟨b', rfl, hb', h3, m3⟩
  have hbb : b < b' := by have := M2.out.1.lt; omega
  have M3 : Hid (Duo w b b' C (Sn.new 0) (Sn.new 0) w3) := Lib.hid ⟨M2.out.1.below m3, h3, new_sn_ok C 0 (by decide) (by decide), new_sn_ok C 0 (by decide) (by decide), M2.out.2.2.trans (m3.mono M2.out.2.2.size)⟩
  clear g0 g1 g2 g3 g4 hb' h3 m3
  go_wp2_with fail
  refine (salive_any _).mono ?_
  rintro e w4 ⟨rfl, m4⟩
  have M4 : Hid (Duo w b b' C (Sn.new 0) (Sn.new 0) w4) := Lib.hid ⟨M3.out.one.below m4, M3.out.two.below m4, M3.out.ok, M3.out.ok', M3.out.below.trans (m4.mono M3.out.below.size)⟩
  clear m4
  have o1 : Sn.Ok C ⟨0, 1, 0, 0, 0⟩ := Sn.ok_idle (by decide) (by decide) (by decide) (by decide) (by decide)
  have o2 : Sn.Ok C ⟨0, 1, 1, C.t, 0⟩ := Sn.ok_fly (by decide) (by decide) (by decide) (by decide) (by decide) HO.out.t0 HO.out.t1
  have O1 := Lib.hid o1
  have O2 := Lib.hid o2
  clear o1 o2
  go_wp2_with fail
  refine (offer_ok b C (Sn.new 0) 1 _ (by decide) (by decide) M4.out.one).mono ?_
  rintro e w5 ⟨rfl, h5, m5⟩
  have M5 : Hid (Duo w b b' C ⟨0, 1, 0, 0, 0⟩ (Sn.new 0) w5) := Lib.hid (M4.out.first hb1 hbb h5 m5 O1.out)
  clear h5 m5
  go_wp2_with fail
  refine (offer_ok b' C (Sn.new 0) 1 _ (by decide) (by decide) M5.out.two).mono ?_
  rintro e w6 ⟨rfl, h6, m6⟩
  have M6 : Hid (Duo w b b' C ⟨0, 1, 0, 0, 0⟩ ⟨0, 1, 0, 0, 0⟩ w6) := Lib.hid (M5.out.second hb1 hbb h6 m6 O1.out)
  clear h6 m6
  go_wp2_with fail
  refine (poll_ok b C ⟨0, 1, 0, 0, 0⟩ _ rfl rfl (by decide) M6.out.one).mono ?_
  rintro e w7 ⟨rfl, h7, m7⟩
  have M7 : Hid (Duo w b b' C ⟨0, 1, 1, C.t, 0⟩ ⟨0, 1, 0, 0, 0⟩ w7) := Lib.hid (M6.out.first hb1 hbb h7 m7 O2.out)
  clear h7 m7
  go_wp2_with fail
  refine (poll_ok b' C ⟨0, 1, 0, 0, 0⟩ _ rfl rfl (by decide) M7.out.two).mono ?_
  rintro e w8 ⟨rfl, h8, m8⟩
  have M8 : Hid (Duo w b b' C ⟨0, 1, 1, C.t, 0⟩ ⟨0, 1, 1, C.t, 0⟩ w8) := Lib.hid (M7.out.second hb1 hbb h8 m8 O2.out)
  clear h8 m8
  obtain ⟨k, hk, k0⟩ : ∃ k : Nat, n % 2000 = k ∧ k ≤ 1999 := ⟨(n % 2000).toNat, by omega, by omega⟩
  obtain ⟨s, hs⟩ : ∃ s : Sn, s = ⟨0, 1, 1, C.t, 0⟩ := ⟨_, rfl⟩
  rw [← hs] at M8 O2
  clear hs
  go_wp2_with fail
  refine (tick_any b C s k _ HO.out O2.out (by omega) (by omega) M8.out.one).mono ?_
  rintro e w9 ⟨rfl, h9, m9⟩
  have M9 : Hid (Duo w b b' C (s.tick C k) s w9) := Lib.hid (M8.out.first hb1 hbb h9 m9 (tick_ok C s k (by omega) HO.out O2.out))
  clear h9 m9
  go_wp2_with fail
  try simp only [hk]
  clear hk
  go_loopw [75] (fun i wr => ∃ j : Nat, i = .int .i64 j ∧ j ≤ k ∧ Duo w b b' C (s.tick C k) (s.tick C j) wr) (fun i _ => k - (intOf i).toNat)
  case atStart => exact ⟨0, rfl, by omega, by have := M9.out; rw [show s.tick C ((0 : Nat) : Int) = s from tick_zero C s O2.out]; exact this⟩
  case round =>
    obtain ⟨j, rfl, hj, h10⟩ := hrel
    have M10 := Lib.hid h10
    clear h10
    by_cases hlt : j < k
    · go_wp2_with fail
      refine (tick_any b' C (s.tick C j) 1 _ HO.out M10.out.ok' (by decide) (by decide) M10.out.two).mono ?_
      rintro e w11 ⟨rfl, h11, m11⟩
      rw [tick_add C s j O2.out] at h11
      have M11 : Hid (Duo w b b' C (s.tick C k) (s.tick C ((j + 1 : Nat) : Int)) w11) := Lib.hid (M10.out.second hb1 hbb h11 m11 (tick_ok C s _ (by omega) HO.out O2.out))
      clear h11 m11
      go_wp2_with fail
      go_roundw
      case rel => exact ⟨j + 1, by go_num, by omega, M11.out⟩
      case measure => simp [intOf]; omega
    · have hjk : j = k := by omega
      subst hjk
      obtain ⟨s1, hs1⟩ : ∃ s1, s1 = s.tick C j := ⟨_, rfl⟩
      rw [← hs1] at M10
      clear hs1 M9
      have q0 : (s1.pos == s1.pos) = true := by simp
      have q1 : (flyB s1 == flyB s1) = true := by simp
      have q2 : (s1.left == s1.left) = true := by simp
      have q3 : (s1.tries == s1.tries) = true := by simp
      go_wp2_with fail
      refine (at_run b C s1 _ M10.out.one).mono ?_
      rintro e w' ⟨rfl, rfl⟩
      go_wp2_with fail
      refine (at_run b' C s1 _ M10.out.two).mono ?_
      rintro e w' ⟨rfl, rfl⟩
      go_wp2_with fail
      refine (fly_any b C s1 _ M10.out.one).mono ?_
      rintro e w' ⟨rfl, rfl⟩
      go_wp2_with fail
      refine (fly_any b' C s1 _ M10.out.two).mono ?_
      rintro e w' ⟨rfl, rfl⟩
      go_wp2_with fail
      refine (left_run b C s1 _ M10.out.one).mono ?_
      rintro e w' ⟨rfl, rfl⟩
      go_wp2_with fail
      refine (left_run b' C s1 _ M10.out.two).mono ?_
      rintro e w' ⟨rfl, rfl⟩
      go_wp2_with fail
      refine (tries_run b C s1 _ M10.out.one).mono ?_
      rintro e w' ⟨rfl, rfl⟩
      go_wp2_with fail
      refine (tries_run b' C s1 _ M10.out.two).mono ?_
      rintro e w' ⟨rfl, rfl⟩
      go_wp2_with fail
      go_ret
      exact ⟨rfl, M10.out.below⟩
end Go.Proofs.Ytlhpmnnbjkbahaa
