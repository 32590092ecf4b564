/- The walk of DelayEdges: factors that are no number, infinite, or nought. -/
import Derived.Deep.RegionHeld3
import Derived.Test.YtlhpmnnbjkbahaaKi
import Derived.Test.YtlhpmnnbjkbahaaBo
namespace Go.Proofs.Ytlhpmnnbjkbahaa
open Go.RowKit

/-- the word of a NaN, as the statement makes it of any payload -/
def nanW (P : Nat) : Nat := (9218868437227405312 ||| (P &&& 9227875636482146303)) ||| 1

theorem nanW_mod (P : Nat) : ∃ f, nanW P % 2 ^ 63 = 9218868437227405312 + f ∧ 1 ≤ f ∧ f < 2 ^ 52 := by
  refine ⟨P % 2 ^ 52 ||| 1, ?_, Nat.right_le_or, Nat.or_lt_two_pow (Nat.mod_lt _ (by decide)) (by decide)⟩
  unfold nanW
  rw [Nat.or_assoc, Nat.or_mod_two_pow, Nat.or_mod_two_pow, Nat.and_mod_two_pow]
  rw [show 9227875636482146303 % 2 ^ 63 = 2 ^ 52 - 1 from rfl, Nat.and_two_pow_sub_one_eq_mod, Nat.mod_mod_of_dvd _ (by decide : 2 ^ 52 ∣ 2 ^ 63)]
  rw [show 9218868437227405312 % 2 ^ 63 = 2 ^ 52 * 2047 from rfl, show 1 % 2 ^ 63 = 1 from rfl]
  rw [← Nat.two_pow_add_eq_or_of_lt (Nat.or_lt_two_pow (Nat.mod_lt _ (by decide)) (by decide))]

theorem nanW_lt (P : Nat) : nanW P < 18446744073709551616 := by
  unfold nanW
  exact Nat.or_lt_two_pow (n := 64) (Nat.or_lt_two_pow (by decide) (Nat.and_lt_two_pow _ (by decide))) (by decide)

theorem nanW_read (P : Nat) : ∃ s f, Ieee.double.read (nanW P) = .nan s f := by
  obtain ⟨f, h1, h2, h3⟩ := nanW_mod P
  unfold Ieee.Format.read
  rw [Fl.bn, Fl.ir, Fl.sw]
  dsimp only
  have e : nanW P % 9223372036854775808 = 9218868437227405312 + f := h1
  rw [e, if_neg (by omega), if_neg (by omega), if_neg (by omega)]
  exact ⟨_, _, rfl⟩

theorem nanW_bits {p : Int} (h0 : 0 ≤ p) (h1 : p ≤ 18446744073709551615) :
    bits .or .u64 (bits .or .u64 9218868437227405312 (bits .and .u64 p 9227875636482146303)) 1 = (nanW p.toNat : Nat) := by
  obtain ⟨P, rfl⟩ : ∃ P : Nat, p = P := ⟨p.toNat, by omega⟩
  have hP : P < 18446744073709551616 := by omega
  have e1 : bits .and .u64 (P : Int) 9227875636482146303 = ((P &&& 9227875636482146303 : Nat) : Int) := bits_and_u64_nat P 9227875636482146303 hP (by decide)
  have l1 : (P &&& 9227875636482146303) < 18446744073709551616 := Nat.and_lt_two_pow (n := 64) _ (by decide)
  have e2 : bits .or .u64 9218868437227405312 ((P &&& 9227875636482146303 : Nat) : Int) = ((9218868437227405312 ||| (P &&& 9227875636482146303) : Nat) : Int) := bits_or_u64_nat 9218868437227405312 _ (by decide) l1
  have l2 : (9218868437227405312 ||| (P &&& 9227875636482146303)) < 18446744073709551616 := Nat.or_lt_two_pow (n := 64) (by decide) l1
  have e3 : bits .or .u64 ((9218868437227405312 ||| (P &&& 9227875636482146303) : Nat) : Int) 1 = (((9218868437227405312 ||| (P &&& 9227875636482146303)) ||| 1 : Nat) : Int) := bits_or_u64_nat _ 1 l2 (by decide)
  rw [e1, e2, e3, Int.toNat_natCast]
  rfl

theorem inf_pos (w : World) : Calls Try.prog 25 #[.int .i64 1] w fun e w' => e = .returned (.float .f64 9218868437227405312) ∧ w = w' := by
  have hf := run_frombits
  go_enter Try.func25, Try.ntmps25
  go_wp2
  go_ret
  exact ⟨rfl, rfl⟩
theorem inf_neg (w : World) : Calls Try.prog 25 #[.int .i64 (-1)] w fun e w' => e = .returned (.float .f64 18442240474082181120) ∧ w = w' := by
  have hf := run_frombits
  go_enter Try.func25, Try.ntmps25
  go_wp2
  go_ret
  exact ⟨rfl, rfl⟩

theorem copysign_nought (w : World) : Calls Try.prog 26 #[.float .f64 0, .float .f64 13830554455654793216] w fun e w' => e = .returned (.float .f64 9223372036854775808) ∧ w = w' := by
  have hf := run_frombits
  have hb := run_bits
  go_enter Try.func26, Try.ntmps26
  go_wp2
  go_ret
  exact ⟨congrArg (fun n => Ending.returned (.float .f64 n)) (by decide +kernel : Int.toNat (bits .or .u64 (bits .andNot .u64 0 9223372036854775808) (bits .and .u64 13830554455654793216 9223372036854775808)) = 9223372036854775808), rfl⟩

theorem kind_cpinf (w : World) : Calls Try.prog 23 #[.float .f64 9218868437227405312] w fun e w' => e = .returned (.int .i64 1) ∧ w = w' :=
  (kind_pinf 9218868437227405312 w (by decide) (by decide +kernel) (by decide +kernel)).mono fun _ _ ⟨h, h'⟩ => ⟨h, h'.symm⟩
theorem kind_cninf (w : World) : Calls Try.prog 23 #[.float .f64 18442240474082181120] w fun e w' => e = .returned (.int .i64 2) ∧ w = w' :=
  (kind_ninf 18442240474082181120 w (by decide) (by decide +kernel) (by decide +kernel) (by decide +kernel)).mono fun _ _ ⟨h, h'⟩ => ⟨h, h'.symm⟩
theorem kind_cpzero (w : World) : Calls Try.prog 23 #[.float .f64 0] w fun e w' => e = .returned (.int .i64 3) ∧ w = w' :=
  (kind_pzero 0 w (by decide) (by decide +kernel) (by decide +kernel) (by decide +kernel) (by decide +kernel) (by decide +kernel)).mono fun _ _ ⟨h, h'⟩ => ⟨h, h'.symm⟩
theorem kind_cnzero (w : World) : Calls Try.prog 23 #[.float .f64 9223372036854775808] w fun e w' => e = .returned (.int .i64 4) ∧ w = w' :=
  (kind_nzero 9223372036854775808 w (by decide) (by decide +kernel) (by decide +kernel) (by decide +kernel) (by decide +kernel) (by decide +kernel)).mono fun _ _ ⟨h, h'⟩ => ⟨h, h'.symm⟩
theorem kind_cbelow (w : World) : Calls Try.prog 23 #[.float .f64 13826050856027422720] w fun e w' => e = .returned (.int .i64 5) ∧ w = w' :=
  (kind_below 13826050856027422720 w (by decide) (by decide +kernel) (by decide +kernel) (by decide +kernel) (by decide +kernel) (by decide +kernel)).mono fun _ _ ⟨h, h'⟩ => ⟨h, h'.symm⟩
theorem kind_cabove (w : World) : Calls Try.prog 23 #[.float .f64 1] w fun e w' => e = .returned (.int .i64 6) ∧ w = w' :=
  (kind_above 1 w (by decide) (by decide +kernel) (by decide +kernel) (by decide +kernel) (by decide +kernel) (by decide +kernel)).mono fun _ _ ⟨h, h'⟩ => ⟨h, h'.symm⟩
theorem kind_cnan {X : Nat} (w : World) (hX : X < 18446744073709551616) (h : ∃ s f, Ieee.double.read X = .nan s f) : Calls Try.prog 23 #[.float .f64 X] w fun e w' => e = .returned (.int .i64 0) ∧ w = w' := by
  obtain ⟨s, f, h⟩ := h
  have ho : Ieee.double.order X X = none := by unfold Ieee.Format.order Ieee.Datum.order; rw [h]
  refine (kind_nan X w hX ?_).mono fun _ _ ⟨h, h'⟩ => ⟨h, h'.symm⟩
  show (Ieee.double.order X X != some .eq) = true
  rw [ho]; rfl

/-- one of two words -/
def two (X Y j : Nat) : Nat := if j = 0 then X else Y
theorem two_cells {w w1 : World} {X Y j n : Nat} (hn : n = w.heap.size) (hj : j < 2) (h : Below (w.heap.size + 1) (w.alloc (.cells #[.float .f64 X, .float .f64 Y] 26)) w1) :
    w1.cell? ⟨n, j, none⟩ = some (.float .f64 (two X Y j)) := by
  subst hn
  rw [h.cell (by simp)]
  obtain rfl | rfl : j = 0 ∨ j = 1 := by omega
  · simp [go_sem, two]
  · simp [go_sem, two]

set_option maxRecDepth 100000 in
set_option maxHeartbeats 1000000 in
theorem edges_walk (x y p : Int) (k b c : Nat) (w : World) (hk : k ≤ 255) (hp0 : 0 ≤ p) (hp1 : p ≤ 18446744073709551615) (hb : tk x = b) (hc : tk y = c) :
    Calls Try.prog 8 #[.agg #[.int .i64 x, .int .i64 y], .int .u8 k, .int .u64 p] w fun e w' => e = .returned (.bool true) ∧ Below w.heap.size w w' := by
  have hb1 := tk_bounds x
  have hc1 := tk_bounds y
  rw [hb] at hb1
  rw [hc] at hc1
  obtain ⟨_, hb1⟩ := hb1
  obtain ⟨_, hc1⟩ := hc1
  have HB := Lib.hid hb
  have HC := Lib.hid hc
  have HP := Lib.hid (nanW_bits hp0 hp1)
  have HNl := Lib.hid (nanW_lt p.toNat)
  obtain ⟨ns, nf, hnr⟩ := nanW_read p.toNat
  obtain ⟨X, hX⟩ : ∃ X, nanW p.toNat = X := ⟨_, rfl⟩
  rw [hX] at HP HNl hnr
  have HNr := Lib.hid hnr
  clear hb hc hX hnr
  have hf := run_frombits
  go_enter Try.func8, Try.ntmps8
  go_wp2_with fail
  go_quiet (fail)
  go_wp2_with fail
  refine (ticks_any _ _).mono ?_
  rintro e w' ⟨rfl, rfl⟩
  rw [HB.out]
  go_wp2_with fail
  refine (ticks_any _ _).mono ?_
  rintro e w' ⟨rfl, rfl⟩
  rw [HC.out]
  go_wp2_with fail
  refine (inf_pos _).mono ?_
  rintro e w' ⟨rfl, rfl⟩
  rw [HP.out, Int.toNat_natCast]
  go_wp2_with fail
  generalize hW0 : (w.alloc (Obj.cells #[Value.int IntKind.i64 x, Value.int IntKind.i64 y] 31)).drewN nq = W0
  have hs0 : w.heap.size + 1 = W0.heap.size := by rw [← hW0]; simp [World.drewN]
  have hq0 : Below w.heap.size w W0 := by rw [← hW0]; exact below_drewN ((Below.refl _ _).alloc (Nat.le_refl _) _) nq
  have HS0 := Lib.hid hs0
  clear hs0 hW0
  have hnext : ∀ j, j < 2 → Fl.next b c (two X 9218868437227405312 j) (1 + k) = c := by
    intro j hj
    refine Fl.next_nan ?_ ?_ (by omega) _ (by omega)
    · intro s m e h
      obtain rfl | rfl : j = 0 ∨ j = 1 := by omega
      · have h' : Ieee.double.read X = .number s m e := h
        rw [HNr.out] at h'; cases h'
      · have h' : Ieee.double.read 9218868437227405312 = .number s m e := h
        rw [read_pinf] at h'; cases h'
    · intro h
      obtain rfl | rfl : j = 0 ∨ j = 1 := by omega
      · have h' : Ieee.double.read X = .infinity true := h
        rw [HNr.out] at h'; cases h'
      · have h' : Ieee.double.read 9218868437227405312 = .infinity true := h
        rw [read_pinf] at h'; cases h'
  have HNX := Lib.hid hnext
  clear hnext
  go_loopw [41] (fun i wr => ∃ j : Nat, i = .int .i64 j ∧ j ≤ 2 ∧ Below (W0.heap.size + 1) (W0.alloc (.cells #[.float .f64 X, .float .f64 9218868437227405312] 26)) wr) (fun i _ => 2 - (intOf i).toNat)
  case atStart => exact ⟨0, rfl, by omega, Below.refl _ _⟩
  case round =>
    obtain ⟨j, rfl, hj, hq⟩ := hrel
    by_cases hlt : j < 2
    · have hcell := two_cells HS0.out hlt hq
      have hjb : decide ((j : Int) < 2) = true := by simp; omega
      go_wp2_with fail
      refine (next_ok _ _ _ _ _ _ _ (by omega) (by omega) (by omega) (by omega) (by omega) (by omega)).mono ?_
      rintro e w2 ⟨rfl, hq2⟩
      rw [Int.toNat_natCast, Int.toNat_natCast, show Int.toNat (1 + (k : Int)) = 1 + k from by omega, HNX.out j hlt]
      go_wp2_with fail
      go_roundw
      case rel => exact ⟨j + 1, by go_num, by omega, hq.trans (hq2.mono (box_size hq))⟩
      case measure => simp [intOf]; omega
    · have hjb : decide ((j : Int) < 2) = false := by simp; omega
      have hz := hq0.trans ((((Below.refl _ _).alloc (Nat.le_refl _) _).trans (hq.mono (Nat.le_succ _))).mono hq0.size)
      obtain ⟨wa, rfl⟩ : ∃ wa : World, wa = wr := ⟨_, rfl⟩
      clear hq hq0 HNX
      go_wp2_with fail
      refine (copysign_nought _).mono ?_
      rintro e w' ⟨rfl, rfl⟩
      go_wp2_with fail
      have hnext : ∀ j, j < 2 → Fl.next b c (two 0 9223372036854775808 j) (1 + k) = if b < c then 0 else (c : Int) := by
        intro j hj
        refine Fl.next_nought (by omega) (by omega) ?_ _ (by omega)
        obtain rfl | rfl : j = 0 ∨ j = 1 := by omega
        · exact .inl rfl
        · exact .inr rfl
      have HNX := Lib.hid hnext
      clear hnext
      go_loopw [65] (fun i wr => ∃ j : Nat, i = .int .i64 j ∧ j ≤ 2 ∧ Below (wa.heap.size + 1) (wa.alloc (.cells #[.float .f64 0, .float .f64 9223372036854775808] 26)) wr) (fun i _ => 2 - (intOf i).toNat)
      case atStart => exact ⟨0, rfl, by omega, Below.refl _ _⟩
      case round =>
        obtain ⟨j2, rfl, hj2, hq⟩ := hrel
        by_cases hlt2 : j2 < 2
        · have hcell := two_cells rfl hlt2 hq
          have hjb2 : decide ((j2 : Int) < 2) = true := by simp; omega
          go_wp2_with fail
          refine (next_ok _ _ _ _ _ _ _ (by omega) (by omega) (by omega) (by omega) (by omega) (by omega)).mono ?_
          rintro e w2 ⟨rfl, hq2⟩
          rw [Int.toNat_natCast, Int.toNat_natCast, show Int.toNat (1 + (k : Int)) = 1 + k from by omega, HNX.out j2 hlt2]
          by_cases hbc : (b : Int) < (c : Int)
          · rw [if_pos (by omega)]
            have g1 : ¬ (c : Int) ≤ (b : Int) := by omega
            rcases hcz : ((0 : Int) != (c : Int)) with _ | _
            all_goals
              go_wp2_with fail
              go_roundw
              case rel => exact ⟨j2 + 1, by go_num, by omega, hq.trans (hq2.mono (box_size hq))⟩
              case measure => simp [intOf]; omega
          · rw [if_neg (by omega)]
            have g1 : (c : Int) ≤ (b : Int) := by omega
            rcases hcz : ((c : Int) != 0) with _ | _
            all_goals
              go_wp2_with fail
              go_roundw
              case rel => exact ⟨j2 + 1, by go_num, by omega, hq.trans (hq2.mono (box_size hq))⟩
              case measure => simp [intOf]; omega
        · have hjb2 : decide ((j2 : Int) < 2) = false := by simp; omega
          have hz2 := hz.trans ((((Below.refl _ _).alloc (Nat.le_refl _) _).trans (hq.mono (Nat.le_succ _))).mono hz.size)
          clear hq hz HNX
          go_wp2_with fail
          refine (alive_any _).mono ?_
          rintro e w3 ⟨rfl, hq3⟩
          go_wp2_with fail
          refine (kind_cnan _ HNl.out ⟨ns, nf, HNr.out⟩).mono ?_
          rintro e w' ⟨rfl, rfl⟩
          go_wp2_with fail
          refine (inf_pos _).mono ?_
          rintro e w' ⟨rfl, rfl⟩
          go_wp2_with fail
          refine (kind_cpinf _).mono ?_
          rintro e w' ⟨rfl, rfl⟩
          go_wp2_with fail
          refine (inf_neg _).mono ?_
          rintro e w' ⟨rfl, rfl⟩
          go_wp2_with fail
          refine (kind_cninf _).mono ?_
          rintro e w' ⟨rfl, rfl⟩
          go_wp2_with fail
          refine (kind_cpzero _).mono ?_
          rintro e w' ⟨rfl, rfl⟩
          go_wp2_with fail
          refine (copysign_nought _).mono ?_
          rintro e w' ⟨rfl, rfl⟩
          go_wp2_with fail
          refine (kind_cnzero _).mono ?_
          rintro e w' ⟨rfl, rfl⟩
          go_wp2_with fail
          refine (kind_cbelow _).mono ?_
          rintro e w' ⟨rfl, rfl⟩
          go_wp2_with fail
          refine (kind_cabove _).mono ?_
          rintro e w' ⟨rfl, rfl⟩
          go_wp2_with fail
          go_ret
          exact ⟨rfl, hz2.trans (hq3.mono hz2.size)⟩

theorem edges_any (x y k p : Int) (w : World) (hk : 0 ≤ k ∧ k ≤ 255) (hp : 0 ≤ p ∧ p ≤ 18446744073709551615) :
    Calls Try.prog 8 #[.agg #[.int .i64 x, .int .i64 y], .int .u8 k, .int .u64 p] w fun e w' => e = .returned (.bool true) ∧ Below w.heap.size w w' := by
  have hb := tk_bounds x
  have hc := tk_bounds y
  have h := edges_walk x y p k.toNat (tk x).toNat (tk y).toNat w (by omega) hp.1 hp.2 (by omega) (by omega)
  rw [Int.toNat_of_nonneg hk.1] at h
  exact h
end Go.Proofs.Ytlhpmnnbjkbahaa
