/- The walks of delay.Kind and of the document's own Kind, and of what math tells of a float. -/
import Derived.Test.YtlhpmnnbjkbahaaDa
namespace Go.Proofs.Ytlhpmnnbjkbahaa
open Go.RowKit

theorem run_bits (b : Nat) (w : World) : (callFunc 50 #[.float .f64 b]).run Try.prog w = .ok (.value (.int .u64 b)) w := by
  rw [run_callFunc_extern (e := Extern.MathFloatBits.float64bits) Try.func50 (by kernel_rfl) (by kernel_rfl) (by kernel_rfl) (by kernel_rfl)]
  rfl

theorem isNaN_any (F : Nat) (w : World) : Calls Try.prog 47 #[.float .f64 F] w fun e w' => e = .returned (.bool (FloatKind.f64.format.order F F != some .eq)) ∧ w = w' := by
  go_enter Try.func47, Try.ntmps47
  go_wp2
  go_ret
  exact ⟨rfl, rfl⟩

theorem run_neg_float (F : Nat) (w : World) : (Op.unary .neg (.float .f64 F)).run Try.prog w = .ok (.float .f64 (Op.negFloat .f64 F)) w := rfl

theorem isInf_pos (F : Nat) (w : World) : Calls Try.prog 48 #[.float .f64 F, .int .i64 1] w fun e w' => e = .returned (.bool (FloatKind.f64.format.order F 9218868437227405311 == some .gt)) ∧ w = w' := by
  go_enter Try.func48, Try.ntmps48
  go_wp2
  go_ret
  exact ⟨rfl, rfl⟩

theorem isInf_neg (F : Nat) (w : World) : Calls Try.prog 48 #[.float .f64 F, .int .i64 (-1)] w fun e w' => e = .returned (.bool (FloatKind.f64.format.order (Op.negFloat .f64 F) 9218868437227405311 == some .gt)) ∧ w = w' := by
  have hn := run_neg_float F
  go_enter Try.func48, Try.ntmps48
  go_wp2
  go_ret
  exact ⟨rfl, rfl⟩

/-- an infinity of that sign? -/
def infB (F : Nat) (g : Int) : Bool := if g = 1 then (FloatKind.f64.format.order F 9218868437227405311 == some .gt) else (FloatKind.f64.format.order (Op.negFloat .f64 F) 9218868437227405311 == some .gt)

theorem isInf_any (F : Nat) (g : Int) (w : World) (hg : g = 1 ∨ g = -1) : Calls Try.prog 48 #[.float .f64 F, .int .i64 g] w fun e w' => e = .returned (.bool (infB F g)) ∧ w = w' := by
  rcases hg with rfl | rfl
  · exact isInf_pos F w
  · exact isInf_neg F w

theorem signbit_any (F : Nat) (w : World) (hF : F < 18446744073709551616) : Calls Try.prog 49 #[.float .f64 F] w fun e w' => e = .returned (.bool (decide (9223372036854775808 ≤ F))) ∧ w = w' := by
  have hb := run_bits
  go_enter Try.func49, Try.ntmps49
  go_wp2
  go_ret
  refine ⟨?_, rfl⟩
  have : decide (wrap64 (F : Int) < 0) = decide (9223372036854775808 ≤ F) := by
    rw [decide_eq_decide]
    unfold wrap64
    omega
  rw [← this]
  rfl

set_option maxHeartbeats 400000 in
theorem kind_nan (F : Nat) (w : World) (hF : F < 18446744073709551616) (hn : (FloatKind.f64.format.order F F != some .eq) = true) :
    Calls Try.prog 23 #[.float .f64 F] w fun e w' => e = .returned (.int .i64 0) ∧ w' = w := by
  have H := Lib.hid hF
  clear hF
  go_enter Try.func23, Try.ntmps23
  go_wp2_with (first | (go_at_call 47; refine (isNaN_any _ _).mono ?_; rintro e w' ⟨rfl, rfl⟩) | (go_at_call 48; refine (isInf_any _ _ _ (by omega)).mono ?_; rintro e w' ⟨rfl, rfl⟩) | (go_at_call 49; refine (signbit_any _ _ H.out).mono ?_; rintro e w' ⟨rfl, rfl⟩))
  go_ret
  exact ⟨rfl, rfl⟩

set_option maxHeartbeats 400000 in
theorem kind_pinf (F : Nat) (w : World) (hF : F < 18446744073709551616) (hn : (FloatKind.f64.format.order F F != some .eq) = false) (hp : infB F 1 = true) :
    Calls Try.prog 23 #[.float .f64 F] w fun e w' => e = .returned (.int .i64 1) ∧ w' = w := by
  have H := Lib.hid hF
  clear hF
  go_enter Try.func23, Try.ntmps23
  go_wp2_with (first | (go_at_call 47; refine (isNaN_any _ _).mono ?_; rintro e w' ⟨rfl, rfl⟩) | (go_at_call 48; refine (isInf_any _ _ _ (by omega)).mono ?_; rintro e w' ⟨rfl, rfl⟩) | (go_at_call 49; refine (signbit_any _ _ H.out).mono ?_; rintro e w' ⟨rfl, rfl⟩))
  go_ret
  exact ⟨rfl, rfl⟩

set_option maxHeartbeats 400000 in
theorem kind_ninf (F : Nat) (w : World) (hF : F < 18446744073709551616) (hn : (FloatKind.f64.format.order F F != some .eq) = false) (hp : infB F 1 = false) (hm : infB F (-1) = true) :
    Calls Try.prog 23 #[.float .f64 F] w fun e w' => e = .returned (.int .i64 2) ∧ w' = w := by
  have H := Lib.hid hF
  clear hF
  go_enter Try.func23, Try.ntmps23
  go_wp2_with (first | (go_at_call 47; refine (isNaN_any _ _).mono ?_; rintro e w' ⟨rfl, rfl⟩) | (go_at_call 48; refine (isInf_any _ _ _ (by omega)).mono ?_; rintro e w' ⟨rfl, rfl⟩) | (go_at_call 49; refine (signbit_any _ _ H.out).mono ?_; rintro e w' ⟨rfl, rfl⟩))
  go_ret
  exact ⟨rfl, rfl⟩

set_option maxHeartbeats 400000 in
theorem kind_pzero (F : Nat) (w : World) (hF : F < 18446744073709551616) (hn : (FloatKind.f64.format.order F F != some .eq) = false) (hp : infB F 1 = false) (hm : infB F (-1) = false) (hz : (FloatKind.f64.format.order F 0 == some .eq) = true) (hs : decide (9223372036854775808 ≤ F) = false) :
    Calls Try.prog 23 #[.float .f64 F] w fun e w' => e = .returned (.int .i64 3) ∧ w' = w := by
  have H := Lib.hid hF
  clear hF
  go_enter Try.func23, Try.ntmps23
  go_wp2_with (first | (go_at_call 47; refine (isNaN_any _ _).mono ?_; rintro e w' ⟨rfl, rfl⟩) | (go_at_call 48; refine (isInf_any _ _ _ (by omega)).mono ?_; rintro e w' ⟨rfl, rfl⟩) | (go_at_call 49; refine (signbit_any _ _ H.out).mono ?_; rintro e w' ⟨rfl, rfl⟩))
  go_ret
  exact ⟨rfl, rfl⟩

set_option maxHeartbeats 400000 in
theorem kind_nzero (F : Nat) (w : World) (hF : F < 18446744073709551616) (hn : (FloatKind.f64.format.order F F != some .eq) = false) (hp : infB F 1 = false) (hm : infB F (-1) = false) (hz : (FloatKind.f64.format.order F 0 == some .eq) = true) (hs : decide (9223372036854775808 ≤ F) = true) :
    Calls Try.prog 23 #[.float .f64 F] w fun e w' => e = .returned (.int .i64 4) ∧ w' = w := by
  have H := Lib.hid hF
  clear hF
  go_enter Try.func23, Try.ntmps23
  go_wp2_with (first | (go_at_call 47; refine (isNaN_any _ _).mono ?_; rintro e w' ⟨rfl, rfl⟩) | (go_at_call 48; refine (isInf_any _ _ _ (by omega)).mono ?_; rintro e w' ⟨rfl, rfl⟩) | (go_at_call 49; refine (signbit_any _ _ H.out).mono ?_; rintro e w' ⟨rfl, rfl⟩))
  go_ret
  exact ⟨rfl, rfl⟩

set_option maxHeartbeats 400000 in
theorem kind_below (F : Nat) (w : World) (hF : F < 18446744073709551616) (hn : (FloatKind.f64.format.order F F != some .eq) = false) (hp : infB F 1 = false) (hm : infB F (-1) = false) (hz : (FloatKind.f64.format.order F 0 == some .eq) = false) (hs : decide (9223372036854775808 ≤ F) = true) :
    Calls Try.prog 23 #[.float .f64 F] w fun e w' => e = .returned (.int .i64 5) ∧ w' = w := by
  have H := Lib.hid hF
  clear hF
  go_enter Try.func23, Try.ntmps23
  go_wp2_with (first | (go_at_call 47; refine (isNaN_any _ _).mono ?_; rintro e w' ⟨rfl, rfl⟩) | (go_at_call 48; refine (isInf_any _ _ _ (by omega)).mono ?_; rintro e w' ⟨rfl, rfl⟩) | (go_at_call 49; refine (signbit_any _ _ H.out).mono ?_; rintro e w' ⟨rfl, rfl⟩))
  go_ret
  exact ⟨rfl, rfl⟩

set_option maxHeartbeats 400000 in
theorem kind_above (F : Nat) (w : World) (hF : F < 18446744073709551616) (hn : (FloatKind.f64.format.order F F != some .eq) = false) (hp : infB F 1 = false) (hm : infB F (-1) = false) (hz : (FloatKind.f64.format.order F 0 == some .eq) = false) (hs : decide (9223372036854775808 ≤ F) = false) :
    Calls Try.prog 23 #[.float .f64 F] w fun e w' => e = .returned (.int .i64 6) ∧ w' = w := by
  have H := Lib.hid hF
  clear hF
  go_enter Try.func23, Try.ntmps23
  go_wp2_with (first | (go_at_call 47; refine (isNaN_any _ _).mono ?_; rintro e w' ⟨rfl, rfl⟩) | (go_at_call 48; refine (isInf_any _ _ _ (by omega)).mono ?_; rintro e w' ⟨rfl, rfl⟩) | (go_at_call 49; refine (signbit_any _ _ H.out).mono ?_; rintro e w' ⟨rfl, rfl⟩))
  go_ret
  exact ⟨rfl, rfl⟩

theorem run_half {F q : Nat} (h : Ieee.double.div F 4611686018427387904 = some q) (w : World) :
    (binOp .quo 26 (.float .f64 F) (.float .f64 4611686018427387904)).run Try.prog w = .ok (.float .f64 q) w :=
  run_float_arith w .quo 26 .f64 F 4611686018427387904 q h

set_option maxHeartbeats 400000 in
theorem rkind_nan (F : Nat) (w : World) (hn : (FloatKind.f64.format.order F F != some .eq) = true) :
    Calls Try.prog 24 #[.float .f64 F] w fun e w' => e = .returned (.int .i64 0) ∧ w' = w := by
  have hb := run_bits
  go_enter Try.func24, Try.ntmps24
  go_wp2_with fail
  go_ret
  exact ⟨rfl, rfl⟩

set_option maxHeartbeats 400000 in
theorem rkind_pinf (F : Nat) (w : World) (hn : (FloatKind.f64.format.order F F != some .eq) = false) (hg : (FloatKind.f64.format.order F 0 == some .gt) = true) (q : Nat) (hd : Ieee.double.div F 4611686018427387904 = some q) (hqe : (FloatKind.f64.format.order F q == some .eq) = true) :
    Calls Try.prog 24 #[.float .f64 F] w fun e w' => e = .returned (.int .i64 1) ∧ w' = w := by
  have hb := run_bits
  have hr := fun w => run_half hd w
  clear hd
  go_enter Try.func24, Try.ntmps24
  go_wp2_with fail
  go_ret
  exact ⟨rfl, rfl⟩

set_option maxHeartbeats 400000 in
theorem rkind_ninf (F : Nat) (w : World) (hn : (FloatKind.f64.format.order F F != some .eq) = false) (hg : (FloatKind.f64.format.order F 0 == some .gt) = false) (hl : (FloatKind.f64.format.order F 0 == some .lt) = true) (q : Nat) (hd : Ieee.double.div F 4611686018427387904 = some q) (hqe : (FloatKind.f64.format.order F q == some .eq) = true) :
    Calls Try.prog 24 #[.float .f64 F] w fun e w' => e = .returned (.int .i64 2) ∧ w' = w := by
  have hb := run_bits
  have hr := fun w => run_half hd w
  clear hd
  go_enter Try.func24, Try.ntmps24
  go_wp2_with fail
  go_ret
  exact ⟨rfl, rfl⟩

set_option maxHeartbeats 400000 in
theorem rkind_pzero (F : Nat) (w : World) (hn : (FloatKind.f64.format.order F F != some .eq) = false) (hg : (FloatKind.f64.format.order F 0 == some .gt) = false) (hl : (FloatKind.f64.format.order F 0 == some .lt) = false) (he : (FloatKind.f64.format.order F 0 == some .eq) = true) (hz : ((F : Int) == 0) = true) :
    Calls Try.prog 24 #[.float .f64 F] w fun e w' => e = .returned (.int .i64 3) ∧ w' = w := by
  have hb := run_bits
  go_enter Try.func24, Try.ntmps24
  go_wp2_with fail
  go_ret
  exact ⟨rfl, rfl⟩

set_option maxHeartbeats 400000 in
theorem rkind_nzero (F : Nat) (w : World) (hn : (FloatKind.f64.format.order F F != some .eq) = false) (hg : (FloatKind.f64.format.order F 0 == some .gt) = false) (hl : (FloatKind.f64.format.order F 0 == some .lt) = false) (he : (FloatKind.f64.format.order F 0 == some .eq) = true) (hz : ((F : Int) == 0) = false) :
    Calls Try.prog 24 #[.float .f64 F] w fun e w' => e = .returned (.int .i64 4) ∧ w' = w := by
  have hb := run_bits
  go_enter Try.func24, Try.ntmps24
  go_wp2_with fail
  go_ret
  exact ⟨rfl, rfl⟩

set_option maxHeartbeats 400000 in
theorem rkind_below (F : Nat) (w : World) (hn : (FloatKind.f64.format.order F F != some .eq) = false) (hg : (FloatKind.f64.format.order F 0 == some .gt) = false) (hl : (FloatKind.f64.format.order F 0 == some .lt) = true) (he : (FloatKind.f64.format.order F 0 == some .eq) = false) (q : Nat) (hd : Ieee.double.div F 4611686018427387904 = some q) (hqe : (FloatKind.f64.format.order F q == some .eq) = false) :
    Calls Try.prog 24 #[.float .f64 F] w fun e w' => e = .returned (.int .i64 5) ∧ w' = w := by
  have hb := run_bits
  have hr := fun w => run_half hd w
  clear hd
  go_enter Try.func24, Try.ntmps24
  go_wp2_with fail
  go_ret
  exact ⟨rfl, rfl⟩

set_option maxHeartbeats 400000 in
theorem rkind_above (F : Nat) (w : World) (hn : (FloatKind.f64.format.order F F != some .eq) = false) (hg : (FloatKind.f64.format.order F 0 == some .gt) = true) (hl : (FloatKind.f64.format.order F 0 == some .lt) = false) (he : (FloatKind.f64.format.order F 0 == some .eq) = false) (q : Nat) (hd : Ieee.double.div F 4611686018427387904 = some q) (hqe : (FloatKind.f64.format.order F q == some .eq) = false) :
    Calls Try.prog 24 #[.float .f64 F] w fun e w' => e = .returned (.int .i64 6) ∧ w' = w := by
  have hb := run_bits
  have hr := fun w => run_half hd w
  clear hd
  go_enter Try.func24, Try.ntmps24
  go_wp2_with fail
  go_ret
  exact ⟨rfl, rfl⟩

theorem read_pinf : Ieee.double.read 9218868437227405312 = .infinity false := by decide
theorem read_ninf : Ieee.double.read 18442240474082181120 = .infinity true := by decide

/-- of any word both tell the same -/
theorem kinds (F : Nat) (hF : F < 18446744073709551616) : ∃ K : Int,
    (∀ w, Calls Try.prog 23 #[.float .f64 F] w fun e w' => e = .returned (.int .i64 K) ∧ w' = w) ∧ (∀ w, Calls Try.prog 24 #[.float .f64 F] w fun e w' => e = .returned (.int .i64 K) ∧ w' = w) := by
  rcases Fl.word_cases F hF with ⟨s, f, hn⟩ | ⟨s, rfl, _⟩ | ⟨s, v, N, rfl, hN⟩
  · have ho : Ieee.double.order F F = none := by unfold Ieee.Format.order Ieee.Datum.order; rw [hn]
    have h : (FloatKind.f64.format.order F F != some .eq) = true := by show (Ieee.double.order F F != some .eq) = true; rw [ho]; rfl
    exact ⟨0, fun w => kind_nan F w hF h, fun w => rkind_nan F w h⟩
  · cases s
    · exact ⟨1, fun w => kind_pinf _ w hF (by decide +kernel) (by decide +kernel), fun w => rkind_pinf _ w (by decide +kernel) (by decide +kernel) 9218868437227405312 (by decide +kernel) (by decide +kernel)⟩
    · exact ⟨2, fun w => kind_ninf _ w hF (by decide +kernel) (by decide +kernel) (by decide +kernel), fun w => rkind_ninf _ w (by decide +kernel) (by decide +kernel) (by decide +kernel) 18442240474082181120 (by decide +kernel) (by decide +kernel)⟩
  · obtain ⟨h1, h2, h3, h4, q, h5, h6⟩ := Fl.num_facts (s := s) hN
    have hv := hN.1
    have hn : (FloatKind.f64.format.order (Fl.sw2 s v) (Fl.sw2 s v) != some .eq) = false := by show (Ieee.double.order _ _ != some .eq) = false; rw [h1]; rfl
    have hp : infB (Fl.sw2 s v) 1 = false := by
      unfold infB; rw [if_pos rfl]
      show (Ieee.double.order _ _ == some .gt) = false
      simpa using h2
    have hm : infB (Fl.sw2 s v) (-1) = false := by
      unfold infB; rw [if_neg (by decide)]
      show (Ieee.double.order _ _ == some .gt) = false
      simpa using h3
    have o4 : ∀ o : Ordering, (FloatKind.f64.format.order (Fl.sw2 s v) 0 == some o) = (Fl.sign s N == o) := by
      intro o
      show (Ieee.double.order _ _ == some o) = _
      rw [h4]; rfl
    have o6 : ∀ o : Ordering, (FloatKind.f64.format.order (Fl.sw2 s v) q == some o) = (Fl.sign s N == o) := by
      intro o
      show (Ieee.double.order _ _ == some o) = _
      rw [h6]; rfl
    by_cases h0 : N = 0
    · have hs : Fl.sign s N = .eq := by unfold Fl.sign; rw [if_pos h0]
      have hv0 : v = 0 := by
        have := hN.back
        rw [h0, Nat.zero_mul] at this
        rw [← this]; rfl
      cases s
      · have e0 : Fl.sw2 false v = 0 := by rw [hv0]; rfl
        refine ⟨3, fun w => kind_pzero _ w hF hn hp hm (by rw [o4, hs]; rfl) (by rw [e0]; decide), fun w => rkind_pzero _ w hn (by rw [o4, hs]; rfl) (by rw [o4, hs]; rfl) (by rw [o4, hs]; rfl) (by rw [e0]; rfl)⟩
      · have e0 : Fl.sw2 true v = 9223372036854775808 := by rw [hv0]; rfl
        refine ⟨4, fun w => kind_nzero _ w hF hn hp hm (by rw [o4, hs]; rfl) (by rw [e0]; decide), fun w => rkind_nzero _ w hn (by rw [o4, hs]; rfl) (by rw [o4, hs]; rfl) (by rw [o4, hs]; rfl) (by rw [e0]; rfl)⟩
    · cases s
      · have hs : Fl.sign false N = .gt := by unfold Fl.sign; rw [if_neg h0]; rfl
        have hb : decide (9223372036854775808 ≤ Fl.sw2 false v) = false := by unfold Fl.sw2; simp; omega
        exact ⟨6, fun w => kind_above _ w hF hn hp hm (by rw [o4, hs]; rfl) hb, fun w => rkind_above _ w hn (by rw [o4, hs]; rfl) (by rw [o4, hs]; rfl) (by rw [o4, hs]; rfl) q h5 (by rw [o6, hs]; rfl)⟩
      · have hs : Fl.sign true N = .lt := by unfold Fl.sign; rw [if_neg h0]; rfl
        have hb : decide (9223372036854775808 ≤ Fl.sw2 true v) = true := by unfold Fl.sw2; simp
        exact ⟨5, fun w => kind_below _ w hF hn hp hm (by rw [o4, hs]; rfl) hb, fun w => rkind_below _ w hn (by rw [o4, hs]; rfl) (by rw [o4, hs]; rfl) (by rw [o4, hs]; rfl) q h5 (by rw [o6, hs]; rfl)⟩
end Go.Proofs.Ytlhpmnnbjkbahaa
