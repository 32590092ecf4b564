/- The walks of package delay: what 'check' and 'Next' come to. -/
import Derived.Test.YtlhpmnnbjkbahaaRows
import Derived.Test.YtlhpmnnbjkbahaaFl
import Derived.WalkKit
import Derived.WalkSpells
import Derived.WalkLawsBesides
import Derived.Lib.Hide
import Derived.Deep.QuietTactic
import Derived.BigQuiet
namespace Go.Proofs.Ytlhpmnnbjkbahaa
open Go.RowKit

abbrev cfg (mf b c t : Int) (F : Nat) : Value := .agg #[.int .i64 mf, .int .i64 b, .int .i64 c, .int .i64 t, .float .f64 F]

set_option maxHeartbeats 400000 in
theorem check_ok (mf b c t k : Int) (F : Nat) (w : World) (hb0 : 0 ≤ b) (hb1 : b ≤ 1099511627776) (hc0 : 0 ≤ c) (hc1 : c ≤ 1099511627776) (hk : 0 ≤ k) :
    Calls Try.prog 45 #[cfg mf b c t F, .int .i64 k] w fun e w' => e = .returned (.int .i64 0) ∧ Below w.heap.size w w' := by
  go_enter Try.func45, Try.ntmps45
  go_wp2
  all_goals go_ret
  all_goals exact ⟨rfl, (Below.refl _ _).alloc (Nat.le_refl _) _⟩

set_option maxHeartbeats 400000 in
theorem check_bad (mf b c t k : Int) (F : Nat) (w : World) (h : b < 0 ∨ c < 0 ∨ k < 0 ∨ 1099511627776 < b ∨ 1099511627776 < c) :
    Calls Try.prog 45 #[cfg mf b c t F, .int .i64 k] w fun e w' => e = .returned (.int .i64 3) ∧ Below w.heap.size w w' := by
  go_enter Try.func45, Try.ntmps45
  go_wp2
  all_goals go_ret
  all_goals exact ⟨rfl, (Below.refl _ _).alloc (Nat.le_refl _) _⟩

/-- a product of two floats, as the walk meets it -/
theorem run_mul_some {D F D' : Nat} (h : Ieee.double.mul D F = some D') (w : World) :
    (binOp .mul 26 (.float .f64 D) (.float .f64 F)).run Try.prog w = .ok (.float .f64 D') w :=
  run_float_arith w .mul 26 .f64 D F D' h

theorem nan_lt {D' : Nat} (h : ∃ s f, Ieee.double.read D' = .nan s f) (c : Nat) : Fl.lt D' c = false := by
  obtain ⟨s, f, h⟩ := h
  unfold Fl.lt Ieee.Format.order Ieee.Datum.order
  rw [h]
  rfl

theorem nan_word (t : Nat) : ∃ s f, Ieee.double.read ((t % 2) * 2 ^ 63 + 0x7ff0000000000000 + 1 + (t / 2) % (2 ^ 52 - 1)) = .nan s f := by
  unfold Ieee.Format.read
  rw [Fl.bn, Fl.ir, Fl.sw]
  dsimp only
  have h1 : t / 2 % (2 ^ 52 - 1) < 2 ^ 52 - 1 := Nat.mod_lt _ (by decide)
  generalize t / 2 % (2 ^ 52 - 1) = x at h1 ⊢
  have h2 : t % 2 < 2 := Nat.mod_lt _ (by decide)
  generalize t % 2 = y at h2 ⊢
  simp only [Nat.reducePow, Nat.reduceSub] at h1 ⊢
  rw [if_neg (by omega), if_neg (by omega), if_neg (by omega)]
  exact ⟨_, _, rfl⟩

theorem run_mul_none {D F : Nat} (h : Ieee.double.mul D F = none) (w : World) :
    ∃ D', (binOp .mul 26 (.float .f64 D) (.float .f64 F)).run Try.prog w = .ok (.float .f64 D') w.drew ∧ ∃ s f, Ieee.double.read D' = .nan s f := by
  refine ⟨_, ?_, nan_word (w.tape w.drawn (.nanBits .f64 D F))⟩
  have h' : FloatKind.f64.format.mul D F = none := h
  simp [binOp, Op.floatArith, h', go_sem, Question.cut, Question.forced]

/-- the cells of a config's box in a later world -/
theorem box5 {w w1 : World} {a0 a1 a2 a3 a4 : Value} {T : TypeId} (h : Below (w.heap.size + 1) (w.alloc (.cells #[a0, a1, a2, a3, a4] T)) w1) :
    w1.cell? ⟨w.heap.size, 0, none⟩ = some a0 ∧ w1.cell? ⟨w.heap.size, 1, none⟩ = some a1 ∧ w1.cell? ⟨w.heap.size, 2, none⟩ = some a2 ∧ w1.cell? ⟨w.heap.size, 3, none⟩ = some a3 ∧ w1.cell? ⟨w.heap.size, 4, none⟩ = some a4 := by
  refine ⟨?_, ?_, ?_, ?_, ?_⟩ <;> (rw [h.cell (by simp)]; simp [go_sem])

/-- what 'int(max(d, 0))' comes to below the cap -/
theorem run_whole {D c : Nat} (hc : c < 2 ^ 53) (h : Fl.lt D (Fl.ofN c) = true) :
    ∃ M, (∀ w, (Builtin.max_ #[26, 26] 26 #[.float .f64 D, .float .f64 0]).run Try.prog w = .ok (.float .f64 M) w) ∧
      (∀ w, (convert 26 3 (.float .f64 M)).run Try.prog w = .ok (.int .i64 (Fl.trunc D)) w) := by
  have conv : ∀ {M : Nat}, (Ieee.double.read M).toInt .zero = some (Fl.trunc D) → 0 ≤ Fl.trunc D → Fl.trunc D ≤ 9223372036854775807 → ∀ w, (convert 26 3 (.float .f64 M)).run Try.prog w = .ok (.int .i64 (Fl.trunc D)) w := by
    intro M hM h0 h1 w
    refine run_convert_float_int w 26 3 .f64 .i64 M _ (by rw [Try.underlying26]; rfl) Try.underlying3 ?_
    unfold floatToIntVal
    have hM' : (FloatKind.f64.decode M).toInt .zero = some (Fl.trunc D) := hM
    rw [hM']
    have hmin : IntKind.i64.min = -9223372036854775808 := by decide
    simp only [hmin, IntKind.max_i64]
    rw [if_pos ⟨by omega, h1⟩]
  have mx : ∀ {o : Option Ordering}, FloatKind.f64.format.order D 0 = o → ∀ w, (Builtin.max_ #[26, 26] 26 #[.float .f64 D, .float .f64 0]).run Try.prog w = Sem.run Try.prog (match o with
      | none => do pure (.float .f64 (← choose (.nanMinMax .f64 true D 0)))
      | some .lt => pure (.float .f64 0)
      | some .gt => pure (.float .f64 D)
      | some .eq => pure (.float .f64 (if (FloatKind.f64.decode D).neg then 0 else D))) w := by
    intro o ho w
    subst ho
    simp [Builtin.max_, Builtin.max2]
    rfl
  have b := Fl.trunc_bounds hc h
  rcases Fl.below_cap hc h with ⟨ho, ht⟩ | ⟨h1, h2, hi, h3, h4, s, N, hn, hs⟩
  · refine ⟨0, fun w => ?_, conv (by rw [ht]; decide) b.1 (by omega)⟩
    rw [mx (show FloatKind.f64.format.order D 0 = some .lt from ho)]; rfl
  · rcases ho : Ieee.double.order D 0 with _ | o
    · exact (h2 ho).elim
    · have ho' : FloatKind.f64.format.order D 0 = some o := ho
      cases o
      · exact (h1 ho).elim
      · by_cases hneg : (FloatKind.f64.decode D).neg = true
        · have hs' : s = true := by
            obtain ⟨m, e, hr, _, _⟩ := hn
            have : (Ieee.double.read D).neg = true := hneg
            rw [hr] at this; exact this
          have : Fl.trunc D = 0 := by
            have e1 := hi
            rw [Fl.toInt_zero D s N hn, hs hs', Nat.zero_div] at e1
            have e2 := Option.some.inj e1
            rw [← e2]; cases s <;> rfl
          refine ⟨0, fun w => ?_, conv (by rw [this]; decide) b.1 (by omega)⟩
          rw [mx ho', hneg]; rfl
        · refine ⟨D, fun w => ?_, conv hi b.1 (by omega)⟩
          rw [mx ho', if_neg hneg]; rfl
      · refine ⟨D, fun w => ?_, conv hi b.1 (by omega)⟩
        rw [mx ho']; rfl

theorem ret2 {a T x : Int} (h : a = T) : Ending.returned (.tuple #[.int .i64 a, .int .i64 x]) = Ending.returned (.tuple #[.int .i64 T, .int .i64 x]) := by rw [h]

theorem below_box {w w1 : World} {c : Array Value} {T : TypeId} (h : Below (w.heap.size + 1) (w.alloc (.cells c T)) w1) : Below w.heap.size w w1 :=
  ((Below.refl _ _).alloc (Nat.le_refl _) _).trans (h.mono (by omega))

set_option maxHeartbeats 400000 in
theorem next_nat (mf t : Int) (b c k : Nat) (F : Nat) (w : World) (hb1 : b ≤ 1099511627776) (hc1 : c ≤ 1099511627776) (hk : k ≤ 9223372036854775807) :
    Calls Try.prog 17 #[cfg mf b c t F, .int .i64 k] w fun e w' => e = .returned (.tuple #[.int .i64 (Fl.next b c F k), .int .i64 0]) ∧ Below w.heap.size w w' := by
  go_enter Try.func17, Try.ntmps17
  go_wp2_with (go_at_call 45; refine (check_ok _ _ _ _ _ _ _ (by omega) (by omega) (by omega) (by omega) (by omega)).mono ?_; rintro e w1 ⟨rfl, hq1⟩)
  have hq := hq1
  simp only [World.size_alloc] at hq
  obtain ⟨_, d1, d2, _, d4⟩ := box5 hq
  go_quiet (fail)
  go_wp2
  rw [Fl.floatOfInt_eq, Fl.floatOfInt_eq]
  have hq2 := below_drewN hq nq
  clear d1 d2 d4 hq hq1
  obtain ⟨R, hR⟩ : ∃ R, Fl.next b c F k = R := ⟨_, rfl⟩
  have HR := Lib.hid hR
  clear hR
  go_loopw [7, 9] (fun d i wr => ∃ D j : Nat, d = .float .f64 D ∧ i = .int .i64 j ∧ j ≤ min k 1000 ∧ Fl.go (Fl.ofN c) F c (min k 1000 - j) D = Fl.next b c F k ∧ Below (w.heap.size + 1) (w.alloc (.cells #[.int .i64 mf, .int .i64 b, .int .i64 c, .int .i64 t, .float .f64 F] 28)) wr) (fun _ i _ => 1000 - (intOf i).toNat)
  case atStart => exact ⟨_, 0, rfl, rfl, by omega, rfl, hq2⟩
  case round =>
    clear hq2
    obtain ⟨D, j, rfl, rfl, hj, hgo, hq⟩ := hrel
    have HG := Lib.hid hgo
    clear hgo
    obtain ⟨_, d1, d2, _, d4⟩ := box5 hq
    have hcn : c < 2 ^ 53 := by omega
    by_cases hlt : Fl.lt D (Fl.ofN c) = true
    · have hl : (FloatKind.f64.format.order D (Fl.ofN c) == some Ordering.lt) = true := hlt
      by_cases hjk : j = min k 1000
      · obtain ⟨M, hmx, hcv⟩ := run_whole hcn hlt
        have hT := Fl.trunc_bounds hcn hlt
        have HG2 : Hid (Fl.trunc D = Fl.next b c F k) := by
          have := HG.out
          rw [show min k 1000 - j = 0 from by omega] at this
          simp only [Fl.go, hlt, if_true] at this
          exact this
        clear HG
        generalize Fl.trunc D = T at *
        by_cases hbig : 1000 < k
        · have hj' : j = 1000 := by omega
          clear hjk
          subst hj'
          have t1 : ((1000 : Int) == if (1000 : Int) < (k : Int) then (1000 : Int) else (k : Int)) = true := by rw [if_pos (by omega)]; rfl
          go_wp2
          all_goals go_ret2
          all_goals exact ⟨by rw [← HG2.out]; have := hT.1; exact ret2 (by omega), below_box hq⟩
        · have hj' : j = k := by omega
          clear hjk
          subst hj'
          go_wp2
          all_goals go_ret2
          all_goals exact ⟨by rw [← HG2.out]; have := hT.1; exact ret2 (by omega), below_box hq⟩
      · have t0 : j < 1000 := by omega
        have t0' : j < k := by omega
        have t1 : ((j : Int) == if (1000 : Int) < (k : Int) then (1000 : Int) else (k : Int)) = false := by
          rw [beq_eq_false_iff_ne]; split <;> omega
        have HG2 : Hid ((match Ieee.double.mul D F with | none => (c : Int) | some d' => Fl.go (Fl.ofN c) F c (min k 1000 - (j + 1)) d') = Fl.next b c F k) := by
          have := HG.out
          rw [show min k 1000 - j = (min k 1000 - (j + 1)) + 1 from by omega, Fl.go, hlt, if_pos rfl] at this
          exact this
        clear HG
        rcases hm : Ieee.double.mul D F with _ | D'
        · obtain ⟨D', hrun, hnan⟩ := run_mul_none hm wr
          rw [hm] at HG2
          have HN := Lib.hid hnan
          clear hnan hm
          go_wp2
          go_roundw
          case rel => exact ⟨D', j + 1, rfl, by go_num, by omega, by rw [← HG2.out]; cases hx : min k 1000 - (j + 1) <;> simp [Fl.go, nan_lt HN.out], hq.drew⟩
          case measure => simp [intOf]; omega
        · have hrun := fun w => run_mul_some hm w
          rw [hm] at HG2
          clear hm
          go_wp2
          go_roundw
          case rel => exact ⟨D', j + 1, rfl, by go_num, by omega, HG2.out, hq⟩
          case measure => simp [intOf]; omega
    · have hl : (FloatKind.f64.format.order D (Fl.ofN c) == some Ordering.lt) = false := (Bool.not_eq_true _).mp hlt
      go_wp2
      go_ret2
      refine ⟨?_, below_box hq⟩
      rw [← HG.out]
      have hlf : Fl.lt D (Fl.ofN c) = false := by simpa using hlt
      cases hx : min k 1000 - j <;> simp [Fl.go, hlf]

theorem next_ok (mf t b c k : Int) (F : Nat) (w : World) (hb0 : 0 ≤ b) (hb1 : b ≤ 1099511627776) (hc0 : 0 ≤ c) (hc1 : c ≤ 1099511627776) (hk : 0 ≤ k) (hk1 : k ≤ 9223372036854775807) :
    Calls Try.prog 17 #[cfg mf b c t F, .int .i64 k] w fun e w' => e = .returned (.tuple #[.int .i64 (Fl.next b.toNat c.toNat F k.toNat), .int .i64 0]) ∧ Below w.heap.size w w' := by
  have h := next_nat mf t b.toNat c.toNat k.toNat F w (by omega) (by omega) (by omega)
  rw [Int.toNat_of_nonneg hb0, Int.toNat_of_nonneg hc0, Int.toNat_of_nonneg hk] at h
  exact h

set_option maxHeartbeats 400000 in
theorem next_bad (mf t b c k : Int) (F : Nat) (w : World) (h : b < 0 ∨ c < 0 ∨ k < 0 ∨ 1099511627776 < b ∨ 1099511627776 < c) :
    Calls Try.prog 17 #[cfg mf b c t F, .int .i64 k] w fun e w' => e = .returned (.tuple #[.int .i64 0, .int .i64 3]) ∧ Below w.heap.size w w' := by
  go_enter Try.func17, Try.ntmps17
  go_wp2_with (go_at_call 45; refine (check_bad _ _ _ _ _ _ _ h).mono ?_; rintro e w1 ⟨rfl, hq1⟩)
  go_ret2
  exact ⟨rfl, below_box (by simpa using hq1)⟩
end Go.Proofs.Ytlhpmnnbjkbahaa
