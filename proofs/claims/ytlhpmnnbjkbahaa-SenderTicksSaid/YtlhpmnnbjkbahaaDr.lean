/- The walks of the document's own delays: lamplighterref12.Next and Total. -/
import Derived.Test.YtlhpmnnbjkbahaaTo
namespace Go.Proofs.Ytlhpmnnbjkbahaa
open Go.RowKit

/-- what 'int(d)' comes to of a number below the cap that isn't below 0 -/
theorem run_whole_ref {D c : Nat} (hc : c < 2 ^ 53) (h : Fl.lt D (Fl.ofN c) = true) (h0 : (Ieee.double.order D 0 == some Ordering.lt) = false) :
    ∀ w, (convert 26 3 (.float .f64 D)).run Try.prog w = .ok (.int .i64 (Fl.trunc D)) w := by
  intro w
  have b := Fl.trunc_bounds hc h
  have hi : (Ieee.double.read D).toInt .zero = some (Fl.trunc D) := by
    rcases Fl.below_cap hc h with ⟨ho, _⟩ | ⟨_, _, hi, _⟩
    · rw [ho] at h0; simp at h0
    · exact hi
  refine run_convert_float_int w 26 3 .f64 .i64 D _ (by rw [Try.underlying26]; rfl) Try.underlying3 ?_
  unfold floatToIntVal
  have hM' : (FloatKind.f64.decode D).toInt .zero = some (Fl.trunc D) := hi
  rw [hM']
  have hmin : IntKind.i64.min = -9223372036854775808 := by decide
  simp only [hmin, IntKind.max_i64]
  rw [if_pos ⟨by omega, by omega⟩]

theorem trunc_neg {D : Nat} (h0 : (Ieee.double.order D 0 == some Ordering.lt) = true) : Fl.trunc D = 0 := by
  unfold Fl.trunc; rw [h0]; rfl

set_option maxRecDepth 100000 in
set_option maxHeartbeats 1000000 in
theorem rnext_nat (mf t : Int) (b c k : Nat) (F : Nat) (w : World) (hb1 : (b : Int) ≤ 1099511627776) (hc1 : (c : Int) ≤ 1099511627776) (hk : (k : Int) ≤ 9223372036854775807) :
    Calls Try.prog 21 #[cfg mf b c t F, .int .i64 k] w fun e w' => e = .returned (.tuple #[.int .i64 (Fl.next b c F k), .int .i64 0]) ∧ Below w.heap.size w w' := by
  have hcn : c < 2 ^ 53 := by omega
  obtain ⟨K, hK⟩ : ∃ K : Nat, K = min k 1000 := ⟨_, rfl⟩
  have hR : Fl.next b c F k = Fl.go (Fl.ofN c) F c K (Fl.ofN b) := by rw [hK]; rfl
  have HR := Lib.hid hR
  clear hR
  have hq0 : Below (w.heap.size + 1) (w.alloc (.cells #[.int .i64 mf, .int .i64 b, .int .i64 c, .int .i64 t, .float .f64 F] 28)) (w.alloc (.cells #[.int .i64 mf, .int .i64 b, .int .i64 c, .int .i64 t, .float .f64 F] 28)) := Below.refl _ _
  have b1 : decide ((b : Int) < 0) = false := by simp
  have b2 : decide (1099511627776 < (b : Int)) = false := by simp; omega
  have b3 : decide ((c : Int) < 0) = false := by simp
  have b4 : decide (1099511627776 < (c : Int)) = false := by simp; omega
  have b0 : decide ((k : Int) < 0) = false := by simp
  have hfc := Fl.floatOfInt_eq c
  have hfb := Fl.floatOfInt_eq b
  by_cases hl0 : Fl.lt (Fl.ofN b) (Fl.ofN c) = true
  · have hl : (FloatKind.f64.format.order (Fl.ofN b) (Fl.ofN c) == some Ordering.lt) = true := hl0
    by_cases hbig : 1000 < k
    · have hKe : K = 1000 := by omega
      subst hKe
      clear hK
      have b5 : decide (1000 < (k : Int)) = true := by simp; omega
      go_enter Try.func21, Try.ntmps21
      go_wp2_with fail
      go_loopw [6, 7] (fun d i wr => ∃ D j : Nat, d = .float .f64 D ∧ i = .int .i64 j ∧ j ≤ 1000 ∧ Fl.lt D (Fl.ofN c) = true ∧ Fl.go (Fl.ofN c) F c (1000 - j) D = Fl.next b c F k ∧ Below (w.heap.size + 1) (w.alloc (.cells #[.int .i64 mf, .int .i64 b, .int .i64 c, .int .i64 t, .float .f64 F] 28)) wr) (fun _ i _ => 1000 - (intOf i).toNat)
      case atStart => exact ⟨_, 0, rfl, rfl, by omega, hl0, HR.out.symm, hq0⟩
      case round =>
        clear hq0
        obtain ⟨D, j, rfl, rfl, hj, hlt, hgo, hq⟩ := hrel
        have HG := Lib.hid hgo
        have HL := Lib.hid hlt
        clear hgo hlt
        obtain ⟨_, d1, d2, _, d4⟩ := box5 hq
        by_cases hjk : j < 1000
        · have HG2 : Hid ((match Ieee.double.mul D F with | none => (c : Int) | some d' => Fl.go (Fl.ofN c) F c (1000 - (j + 1)) d') = Fl.next b c F k) := by
            have := HG.out
            rw [show 1000 - j = (1000 - (j + 1)) + 1 from by omega, Fl.go, HL.out, if_pos rfl] at this
            exact this
          clear HG
          rcases hm : Ieee.double.mul D F with _ | D'
          · obtain ⟨D', hrun, hnan⟩ := run_mul_none hm wr
            rw [hm] at HG2
            have hlf : (FloatKind.f64.format.order D' (Fl.ofN c) == some Ordering.lt) = false := nan_lt hnan _
            clear hnan hm
            go_wp2_with fail
            go_ret2
            exact ⟨ret2 HG2.out, below_box hq.drew⟩
          · have hrun := fun w => run_mul_some hm w
            rw [hm] at HG2
            clear hm
            by_cases hl2 : Fl.lt D' (Fl.ofN c) = true
            · have hlf : (FloatKind.f64.format.order D' (Fl.ofN c) == some Ordering.lt) = true := hl2
              have HL2 := Lib.hid hl2
              clear hl2
              go_wp2_with fail
              go_roundw
              case rel => exact ⟨D', j + 1, rfl, by go_num, by omega, HL2.out, HG2.out, hq⟩
              case measure => simp [intOf]; omega
            · have hlf : (FloatKind.f64.format.order D' (Fl.ofN c) == some Ordering.lt) = false := (Bool.not_eq_true _).mp hl2
              have hlf2 : Fl.lt D' (Fl.ofN c) = false := (Bool.not_eq_true _).mp hl2
              have HE : Hid (Fl.next b c F k = c) := by
                have := HG2.out
                show _ = _
                rw [← this]
                cases 1000 - (j + 1) <;> simp [Fl.go, hlf2]
              clear HG2 hl2 hlf2
              go_wp2_with fail
              go_ret2
              exact ⟨ret2 HE.out.symm, below_box hq⟩
        · have HE : Hid (Fl.next b c F k = Fl.trunc D) := by
            have := HG.out
            rw [show 1000 - j = 0 from by omega] at this
            simp only [Fl.go, HL.out, if_true] at this
            exact this.symm
          clear HG
          have hjk' : j = 1000 := by omega
          have HJ := Lib.hid hjk'
          clear hjk'
          by_cases hneg : (FloatKind.f64.format.order D 0 == some Ordering.lt) = true
          · have HZ := Lib.hid (trunc_neg (D := D) hneg)
            go_wp2_with fail
            go_ret2
            exact ⟨ret2 (HE.out.trans HZ.out).symm, below_box hq⟩
          · have hneg' : (FloatKind.f64.format.order D 0 == some Ordering.lt) = false := (Bool.not_eq_true _).mp hneg
            have hcv := run_whole_ref hcn HL.out hneg'
            clear hneg
            go_wp2_with fail
            go_ret2
            exact ⟨ret2 HE.out.symm, below_box hq⟩
    · have hKe : K = k := by omega
      subst hKe
      clear hK
      have b5 : decide (1000 < (K : Int)) = false := by simp; omega
      go_enter Try.func21, Try.ntmps21
      go_wp2_with fail
      go_loopw [6, 7] (fun d i wr => ∃ D j : Nat, d = .float .f64 D ∧ i = .int .i64 j ∧ j ≤ K ∧ Fl.lt D (Fl.ofN c) = true ∧ Fl.go (Fl.ofN c) F c (K - j) D = Fl.next b c F K ∧ Below (w.heap.size + 1) (w.alloc (.cells #[.int .i64 mf, .int .i64 b, .int .i64 c, .int .i64 t, .float .f64 F] 28)) wr) (fun _ i _ => K - (intOf i).toNat)
      case atStart => exact ⟨_, 0, rfl, rfl, by omega, hl0, HR.out.symm, hq0⟩
      case round =>
        clear hq0
        obtain ⟨D, j, rfl, rfl, hj, hlt, hgo, hq⟩ := hrel
        have HG := Lib.hid hgo
        have HL := Lib.hid hlt
        clear hgo hlt
        obtain ⟨_, d1, d2, _, d4⟩ := box5 hq
        by_cases hjk : j < K
        · have HG2 : Hid ((match Ieee.double.mul D F with | none => (c : Int) | some d' => Fl.go (Fl.ofN c) F c (K - (j + 1)) d') = Fl.next b c F K) := by
            have := HG.out
            rw [show K - j = (K - (j + 1)) + 1 from by omega, Fl.go, HL.out, if_pos rfl] at this
            exact this
          clear HG
          rcases hm : Ieee.double.mul D F with _ | D'
          · obtain ⟨D', hrun, hnan⟩ := run_mul_none hm wr
            rw [hm] at HG2
            have hlf : (FloatKind.f64.format.order D' (Fl.ofN c) == some Ordering.lt) = false := nan_lt hnan _
            clear hnan hm
            go_wp2_with fail
            go_ret2
            exact ⟨ret2 HG2.out, below_box hq.drew⟩
          · have hrun := fun w => run_mul_some hm w
            rw [hm] at HG2
            clear hm
            by_cases hl2 : Fl.lt D' (Fl.ofN c) = true
            · have hlf : (FloatKind.f64.format.order D' (Fl.ofN c) == some Ordering.lt) = true := hl2
              have HL2 := Lib.hid hl2
              clear hl2
              go_wp2_with fail
              go_roundw
              case rel => exact ⟨D', j + 1, rfl, by go_num, by omega, HL2.out, HG2.out, hq⟩
              case measure => simp [intOf]; omega
            · have hlf : (FloatKind.f64.format.order D' (Fl.ofN c) == some Ordering.lt) = false := (Bool.not_eq_true _).mp hl2
              have hlf2 : Fl.lt D' (Fl.ofN c) = false := (Bool.not_eq_true _).mp hl2
              have HE : Hid (Fl.next b c F K = c) := by
                have := HG2.out
                show _ = _
                rw [← this]
                cases K - (j + 1) <;> simp [Fl.go, hlf2]
              clear HG2 hl2 hlf2
              go_wp2_with fail
              go_ret2
              exact ⟨ret2 HE.out.symm, below_box hq⟩
        · have HE : Hid (Fl.next b c F K = Fl.trunc D) := by
            have := HG.out
            rw [show K - j = 0 from by omega] at this
            simp only [Fl.go, HL.out, if_true] at this
            exact this.symm
          clear HG
          have hjk' : j = K := by omega
          have HJ := Lib.hid hjk'
          clear hjk'
          by_cases hneg : (FloatKind.f64.format.order D 0 == some Ordering.lt) = true
          · have HZ := Lib.hid (trunc_neg (D := D) hneg)
            go_wp2_with fail
            go_ret2
            exact ⟨ret2 (HE.out.trans HZ.out).symm, below_box hq⟩
          · have hneg' : (FloatKind.f64.format.order D 0 == some Ordering.lt) = false := (Bool.not_eq_true _).mp hneg
            have hcv := run_whole_ref hcn HL.out hneg'
            clear hneg
            go_wp2_with fail
            go_ret2
            exact ⟨ret2 HE.out.symm, below_box hq⟩
  · have hl : (FloatKind.f64.format.order (Fl.ofN b) (Fl.ofN c) == some Ordering.lt) = false := (Bool.not_eq_true _).mp hl0
    have hlf : Fl.lt (Fl.ofN b) (Fl.ofN c) = false := (Bool.not_eq_true _).mp hl0
    have HE : Hid (Fl.next b c F k = c) := by
      show _ = _
      rw [HR.out]
      cases K <;> simp [Fl.go, hlf]
    clear HR hlf hl0
    by_cases hbig : 1000 < k
    · have b5 : decide (1000 < (k : Int)) = true := by simp; omega
      go_enter Try.func21, Try.ntmps21
      go_wp2_with fail
      go_ret2
      exact ⟨ret2 HE.out.symm, below_box hq0⟩
    · have b5 : decide (1000 < (k : Int)) = false := by simp; omega
      go_enter Try.func21, Try.ntmps21
      go_wp2_with fail
      go_ret2
      exact ⟨ret2 HE.out.symm, below_box hq0⟩

theorem rnext_ok (mf t b c k : Int) (F : Nat) (w : World) (hb0 : 0 ≤ b) (hb1 : b ≤ 1099511627776) (hc0 : 0 ≤ c) (hc1 : c ≤ 1099511627776) (hk : 0 ≤ k) (hk1 : k ≤ 9223372036854775807) :
    Calls Try.prog 21 #[cfg mf b c t F, .int .i64 k] w fun e w' => e = .returned (.tuple #[.int .i64 (Fl.next b.toNat c.toNat F k.toNat), .int .i64 0]) ∧ Below w.heap.size w w' := by
  have h := rnext_nat mf t b.toNat c.toNat k.toNat F w (by omega) (by omega) (by omega)
  rw [Int.toNat_of_nonneg hb0, Int.toNat_of_nonneg hc0, Int.toNat_of_nonneg hk] at h
  exact h

set_option maxRecDepth 100000 in
set_option maxHeartbeats 1000000 in
theorem rnext_bad (mf t b c k : Int) (F : Nat) (w : World) (h : b < 0 ∨ c < 0 ∨ k < 0 ∨ 1099511627776 < b ∨ 1099511627776 < c) :
    Calls Try.prog 21 #[cfg mf b c t F, .int .i64 k] w fun e w' => e = .returned (.tuple #[.int .i64 0, .int .i64 3]) ∧ Below w.heap.size w w' := by
  by_cases h1 : b < 0
  · go_enter Try.func21, Try.ntmps21
    go_wp2_with fail
    go_ret2
    exact ⟨rfl, below_box (Below.refl _ _)⟩
  by_cases h2 : 1099511627776 < b
  · go_enter Try.func21, Try.ntmps21
    go_wp2_with fail
    go_ret2
    exact ⟨rfl, below_box (Below.refl _ _)⟩
  by_cases h3 : c < 0
  · go_enter Try.func21, Try.ntmps21
    go_wp2_with fail
    go_ret2
    exact ⟨rfl, below_box (Below.refl _ _)⟩
  by_cases h4 : 1099511627776 < c
  · go_enter Try.func21, Try.ntmps21
    go_wp2_with fail
    go_ret2
    exact ⟨rfl, below_box (Below.refl _ _)⟩
  have h5 : k < 0 := by omega
  go_enter Try.func21, Try.ntmps21
  go_wp2_with fail
  go_ret2
  exact ⟨rfl, below_box (Below.refl _ _)⟩

set_option maxHeartbeats 400000 in
theorem total_bad (mf t b c n : Int) (F : Nat) (w : World) (h : b < 0 ∨ c < 0 ∨ n < 0 ∨ 1099511627776 < b ∨ 1099511627776 < c) :
    Calls Try.prog 20 #[cfg mf b c t F, .int .i64 n] w fun e w' => e = .returned (.tuple #[.int .i64 0, .int .i64 3]) ∧ Below w.heap.size w w' := by
  go_enter Try.func20, Try.ntmps20
  go_wp2_with (go_at_call 45; refine (check_bad _ _ _ _ _ _ _ h).mono ?_; rintro e w1 ⟨rfl, hq1⟩)
  go_ret2
  exact ⟨rfl, below_box (by simpa using hq1)⟩

set_option maxHeartbeats 400000 in
theorem total_many (mf t b c n : Int) (F : Nat) (w : World) (h : 1000 < n) :
    Calls Try.prog 20 #[cfg mf b c t F, .int .i64 n] w fun e w' => e = .returned (.tuple #[.int .i64 0, .int .i64 3]) ∧ Below w.heap.size w w' := by
  by_cases hx : b < 0 ∨ c < 0 ∨ n < 0 ∨ 1099511627776 < b ∨ 1099511627776 < c
  · exact total_bad mf t b c n F w hx
  go_enter Try.func20, Try.ntmps20
  go_wp2_with (go_at_call 45; refine (check_ok _ _ _ _ _ _ _ (by omega) (by omega) (by omega) (by omega) (by omega)).mono ?_; rintro e w1 ⟨rfl, hq1⟩)
  go_ret2
  exact ⟨rfl, below_box (by simpa using hq1)⟩

set_option maxHeartbeats 400000 in
theorem rtotal_bad (mf t b c n : Int) (F : Nat) (w : World) (h : b < 0 ∨ c < 0 ∨ n < 0 ∨ 1099511627776 < b ∨ 1099511627776 < c) :
    Calls Try.prog 22 #[cfg mf b c t F, .int .i64 n] w fun e w' => e = .returned (.tuple #[.int .i64 0, .int .i64 3]) ∧ Below w.heap.size w w' := by
  go_enter Try.func22, Try.ntmps22
  go_wp2_with (go_at_call 21; refine (rnext_bad _ _ _ _ _ _ _ h).mono ?_; rintro e w1 ⟨rfl, hq1⟩)
  go_ret2
  exact ⟨rfl, below_box (by simpa using hq1)⟩

set_option maxRecDepth 100000 in
set_option maxHeartbeats 400000 in
theorem rtotal_nat (mf t : Int) (b c n : Nat) (F : Nat) (w : World) (hb1 : (b : Int) ≤ 1099511627776) (hc1 : (c : Int) ≤ 1099511627776) (hn : n ≤ 1000) :
    Calls Try.prog 22 #[cfg mf b c t F, .int .i64 n] w fun e w' => e = .returned (.tuple #[.int .i64 (Fl.total b c F n), .int .i64 0]) ∧ Below w.heap.size w w' := by
  obtain ⟨R, hR⟩ : ∃ R, Fl.next b c F n = R := ⟨_, rfl⟩
  have HR := Lib.hid hR
  clear hR
  have g1 : decide (1000 < (n : Int)) = false := by simp; omega
  go_enter Try.func22, Try.ntmps22
  go_wp2_with fail
  refine (rnext_ok _ _ _ _ _ _ _ (by omega) (by omega) (by omega) (by omega) (by omega) (by omega)).mono ?_
  rintro e w1 ⟨rfl, hq1⟩
  rw [Int.toNat_natCast, Int.toNat_natCast, Int.toNat_natCast, HR.out]
  go_wp2_with fail
  have hq : Below (w.heap.size + 1) (w.alloc (.cells #[.int .i64 mf, .int .i64 b, .int .i64 c, .int .i64 t, .float .f64 F] 28)) w1 := by simpa using hq1
  clear hq1
  go_loopw [8, 9] (fun s i wr => ∃ j : Nat, i = .int .i64 j ∧ j ≤ n ∧ s = .int .i64 (Fl.total b c F j) ∧ Below (w.heap.size + 1) (w.alloc (.cells #[.int .i64 mf, .int .i64 b, .int .i64 c, .int .i64 t, .float .f64 F] 28)) wr) (fun _ i _ => n - (intOf i).toNat)
  case atStart => exact ⟨0, rfl, by omega, rfl, hq⟩
  case round =>
    clear hq
    obtain ⟨j, rfl, hj, rfl, hq⟩ := hrel
    obtain ⟨c0, c1, c2, c3, c4⟩ := box5 hq
    by_cases hlt : j < n
    · have hS := Fl.total_bounds (b := b) (F := F) (c := c) (by omega) j
      have hN := Fl.next_bounds (b := b) (F := F) (c := c) (by omega) j
      have HT : Hid (Fl.total b c F (j + 1) = Fl.total b c F j + Fl.next b c F j) := rfl
      have hS2 : (j : Int) * c ≤ 1000 * 1099511627776 := Int.mul_le_mul (by omega) hc1 (by omega) (by omega)
      obtain ⟨hS0, hS1⟩ := hS
      obtain ⟨hN0, hN1⟩ := hN
      have hS3 : Fl.total b c F j ≤ 1099511627776000 := by omega
      clear hS1 hS2
      obtain ⟨S, hSe⟩ : ∃ S, Fl.total b c F j = S := ⟨_, rfl⟩
      obtain ⟨N, hNe⟩ : ∃ N, Fl.next b c F j = N := ⟨_, rfl⟩
      rw [hSe] at hS0 hS3
      rw [hNe] at hN0 hN1
      rw [hSe, hNe] at HT
      rw [hSe]
      have HN := Lib.hid hNe
      clear hSe hNe
      go_wp2_with fail
      refine (rnext_ok _ _ _ _ _ _ _ (by omega) (by omega) (by omega) (by omega) (by omega) (by omega)).mono ?_
      rintro e w2 ⟨rfl, hq2⟩
      rw [Int.toNat_natCast, Int.toNat_natCast, Int.toNat_natCast, HN.out]
      go_wp2_with fail
      go_roundw
      case rel => exact ⟨j + 1, by go_num, by omega, by rw [HT.out], hq.trans (hq2.mono (by have := hq.size; simpa using this))⟩
      case measure => simp [intOf]; omega
    · have : j = n := by omega
      subst this
      go_wp2_with fail
      go_ret2
      exact ⟨rfl, below_box hq⟩

theorem rtotal_ok (mf t b c n : Int) (F : Nat) (w : World) (hb0 : 0 ≤ b) (hb1 : b ≤ 1099511627776) (hc0 : 0 ≤ c) (hc1 : c ≤ 1099511627776) (hn : 0 ≤ n) (hn1 : n ≤ 1000) :
    Calls Try.prog 22 #[cfg mf b c t F, .int .i64 n] w fun e w' => e = .returned (.tuple #[.int .i64 (Fl.total b.toNat c.toNat F n.toNat), .int .i64 0]) ∧ Below w.heap.size w w' := by
  have h := rtotal_nat mf t b.toNat c.toNat n.toNat F w (by omega) (by omega) (by omega)
  rw [Int.toNat_of_nonneg hb0, Int.toNat_of_nonneg hc0, Int.toNat_of_nonneg hn] at h
  exact h
end Go.Proofs.Ytlhpmnnbjkbahaa
