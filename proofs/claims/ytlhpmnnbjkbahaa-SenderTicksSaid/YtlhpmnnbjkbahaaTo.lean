/- The walks of delay.Total and DelayTotals: the sum of one delay more is that one more. -/
import Derived.Test.YtlhpmnnbjkbahaaBo
import Derived.Deep.RegionHeld3
import Derived.Deep.DeepCutAuto
namespace Go.Proofs.Ytlhpmnnbjkbahaa
open Go.RowKit

set_option maxRecDepth 100000 in
set_option maxHeartbeats 400000 in
theorem total_nat (mf t : Int) (b c n : Nat) (F : Nat) (w : World) (hb1 : (b : Int) ≤ 1099511627776) (hc1 : (c : Int) ≤ 1099511627776) (hn : n ≤ 1000) :
    Calls Try.prog 20 #[cfg mf b c t F, .int .i64 n] w fun e w' => e = .returned (.tuple #[.int .i64 (Fl.total b c F n), .int .i64 0]) ∧ Below w.heap.size w w' := by
  go_enter Try.func20, Try.ntmps20
  go_wp2_with (go_at_call 45; refine (check_ok _ _ _ _ _ _ _ (by omega) (by omega) (by omega) (by omega) (by omega)).mono ?_; rintro e w1 ⟨rfl, hq1⟩)
  have hq : Below (w.heap.size + 1) (w.alloc (.cells #[.int .i64 mf, .int .i64 b, .int .i64 c, .int .i64 t, .float .f64 F] 28)) w1 := by simpa using hq1
  clear hq1
  go_loopw [7, 21] (fun s i wr => ∃ j : Nat, i = .int .i64 j ∧ j ≤ n ∧ s = .int .i64 (Fl.total b c F j) ∧ Below (w.heap.size + 1) (w.alloc (.cells #[.int .i64 mf, .int .i64 b, .int .i64 c, .int .i64 t, .float .f64 F] 28)) wr) (fun _ i _ => n - (intOf i).toNat)
  case atStart => exact ⟨0, rfl, by omega, rfl, hq⟩
  case round =>
    clear hq
    obtain ⟨j, rfl, hj, rfl, hq⟩ := hrel
    obtain ⟨c0, c1, c2, c3, c4⟩ := box5 hq
    by_cases hlt : j < n
    · have hS := Fl.total_bounds (b := b) (F := F) (c := c) (by omega) j
      have hN := Fl.next_bounds (b := b) (F := F) (c := c) (by omega) j
      have HT : Hid (Fl.total b c F (j + 1) = Fl.total b c F j + Fl.next b c F j) := rfl
      have hS2 : (j : Int) * c ≤ 1000 * 1099511627776 := Int.mul_le_mul (by omega) hc1 (by omega) (by omega)
      obtain ⟨hS0, hS1⟩ := hS
      obtain ⟨hN0, hN1⟩ := hN
      have hS3 : Fl.total b c F j ≤ 1099511627776000 := by omega
      clear hS1 hS2
      obtain ⟨S, hSe⟩ : ∃ S, Fl.total b c F j = S := ⟨_, rfl⟩
      obtain ⟨N, hNe⟩ : ∃ N, Fl.next b c F j = N := ⟨_, rfl⟩
      rw [hSe] at hS0 hS3
      rw [hNe] at hN0 hN1
      rw [hSe, hNe] at HT
      rw [hSe]
      have HN := Lib.hid hNe
      clear hSe hNe
      go_wp2_with fail
      refine (next_ok _ _ _ _ _ _ _ (by omega) (by omega) (by omega) (by omega) (by omega) (by omega)).mono ?_
      rintro e w2 ⟨rfl, hq2⟩
      rw [Int.toNat_natCast, Int.toNat_natCast, Int.toNat_natCast, HN.out]
      go_wp2_with fail
      go_roundw
      case rel => exact ⟨j + 1, by go_num, by omega, by rw [HT.out], hq.trans (hq2.mono (by have := hq.size; simpa using this))⟩
      case measure => simp [intOf]; omega
    · have : j = n := by omega
      subst this
      go_wp2_with fail
      go_ret2
      exact ⟨rfl, below_box hq⟩

theorem total_ok (mf t b c n : Int) (F : Nat) (w : World) (hb0 : 0 ≤ b) (hb1 : b ≤ 1099511627776) (hc0 : 0 ≤ c) (hc1 : c ≤ 1099511627776) (hn : 0 ≤ n) (hn1 : n ≤ 1000) :
    Calls Try.prog 20 #[cfg mf b c t F, .int .i64 n] w fun e w' => e = .returned (.tuple #[.int .i64 (Fl.total b.toNat c.toNat F n.toNat), .int .i64 0]) ∧ Below w.heap.size w w' := by
  have h := total_nat mf t b.toNat c.toNat n.toNat F w (by omega) (by omega) (by omega)
  rw [Int.toNat_of_nonneg hb0, Int.toNat_of_nonneg hc0, Int.toNat_of_nonneg hn] at h
  exact h

theorem ticks_still (n : Int) (w : World) : Calls Try.prog 16 #[.int .i64 n] w fun e w' => e = .returned (.int .i64 (tk n)) ∧ w' = w :=
  (ticks_any n w).mono fun _ _ ⟨h, h'⟩ => ⟨h, h'.symm⟩

set_option maxRecDepth 100000 in
set_option maxHeartbeats 1000000 in
theorem totals_walk (x y bits : Int) (k b c : Nat) (w : World) (hk : k ≤ 255) (hb : tk x = b) (hc : tk y = c) :
    Calls Try.prog 6 #[.agg #[.int .i64 x, .int .i64 y], .int .u64 bits, .int .u8 k] w fun e w' => e = .returned (.bool true) ∧ Below w.heap.size w w' := by
  have hb1 := tk_bounds x
  have hc1 := tk_bounds y
  rw [hb] at hb1
  rw [hc] at hc1
  obtain ⟨_, hb1⟩ := hb1
  obtain ⟨_, hc1⟩ := hc1
  have HB := Lib.hid hb
  have HC := Lib.hid hc
  clear hb hc
  have hf := run_frombits
  obtain ⟨F, hF⟩ : ∃ F : Nat, bits.toNat = F := ⟨_, rfl⟩
  have hS := Fl.total_bounds (b := b) (F := F) (c := c) (by omega) k
  have hN := Fl.next_bounds (b := b) (F := F) (c := c) (by omega) k
  have HT : Hid (Fl.total b c F (k + 1) = Fl.total b c F k + Fl.next b c F k) := rfl
  obtain ⟨A, hA⟩ : ∃ A, Fl.total b c F k = A := ⟨_, rfl⟩
  obtain ⟨N, hNe⟩ : ∃ N, Fl.next b c F k = N := ⟨_, rfl⟩
  rw [hA] at hS
  rw [hNe] at hN
  rw [hA, hNe] at HT
  have HA := Lib.hid hA
  have HN := Lib.hid hNe
  have HF := Lib.hid hF
  clear hA hNe hF
  obtain ⟨hS0, hS1⟩ := hS
  obtain ⟨hN0, hN1⟩ := hN
  have hkc : (k : Int) * c ≤ 255 * 1099511627776 := Int.mul_le_mul (by omega) hc1 (by omega) (by omega)
  have hkc0 : 0 ≤ (k : Int) * c := Int.mul_nonneg (by omega) (by omega)
  have hwr : IntKind.i64.wrap ((k : Int) * c) = (k : Int) * c := IntWalk.i64_in _ (by omega)
  have hS2 : A ≤ 280375465082880 := by omega
  have HS1 := Lib.hid hS1
  have HWR := Lib.hid hwr
  clear hS1 hwr
  go_enter Try.func6, Try.ntmps6
  go_upto_region 1 with fail
  go_cut [7] (fun s7 wx => s7 = .pointer (some ⟨w.heap.size + 1, 0, none⟩) ∧ ∃ W0 : World, W0.heap.size = w.heap.size + 1 ∧ Below w.heap.size w W0 ∧
    Below (W0.heap.size + 1) (W0.alloc (.cells #[.int .i64 0, .int .i64 b, .int .i64 c, .int .i64 0, .float .f64 F] 28)) wx)
  case first =>
    go_region_held3 (fun w' => w'.cell? ⟨w.heap.size, 0, none⟩ = some (.int .i64 x) ∧ w'.cell? ⟨w.heap.size, 1, none⟩ = some (.int .i64 y)) (first | go_keep | (simp [go_sem]; done))
      (first | (go_at_call 16; refine (ticks_any _ _).mono ?_; rintro e w' ⟨rfl, rfl⟩))
    all_goals
      go_wp2_with fail
      rw [HB.out, HC.out, HF.out]
      go_meet
      exact ⟨rfl, (w.alloc (Obj.cells #[Value.int IntKind.i64 x, Value.int IntKind.i64 y] 31)).drew, by simp, (((Below.refl _ _).alloc (Nat.le_refl _) _).drew), Below.refl _ _⟩
  case rest =>
    obtain ⟨rfl, W0, hsz, hq0, hq⟩ := hcut
    have HSZ := Lib.hid hsz.symm
    clear hsz
    obtain ⟨c0, c1, c2, c3, c4⟩ := box5' HSZ.out hq
    go_wp2_with fail
    refine (total_ok _ _ _ _ _ _ _ (by omega) (by omega) (by omega) (by omega) (by omega) (by omega)).mono ?_
    rintro e w1 ⟨rfl, hr1⟩
    rw [Int.toNat_natCast, Int.toNat_natCast, Int.toNat_natCast, HA.out]
    have hq1 := hq.trans (hr1.mono (box_size hq))
    clear c0 c1 c2 c3 c4 hq hr1
    obtain ⟨c0, c1, c2, c3, c4⟩ := box5' HSZ.out hq1
    go_wp2_with fail
    refine (total_ok _ _ _ _ _ _ _ (by omega) (by omega) (by omega) (by omega) (by omega) (by omega)).mono ?_
    rintro e w2 ⟨rfl, hr2⟩
    rw [Int.toNat_natCast, Int.toNat_natCast, show Int.toNat ((k : Int) + 1) = k + 1 from by omega, HT.out]
    have hq2 := hq1.trans (hr2.mono (box_size hq1))
    clear c0 c1 c2 c3 c4 hq1 hr2
    obtain ⟨c0, c1, c2, c3, c4⟩ := box5' HSZ.out hq2
    go_wp2_with fail
    refine (next_ok _ _ _ _ _ _ _ (by omega) (by omega) (by omega) (by omega) (by omega) (by omega)).mono ?_
    rintro e w3 ⟨rfl, hr3⟩
    rw [Int.toNat_natCast, Int.toNat_natCast, Int.toNat_natCast, HN.out]
    have hq3 := hq2.trans (hr3.mono (box_size hq2))
    clear c0 c1 c2 c3 c4 hq2 hr3
    go_wp2_with fail
    refine (alive_any _).mono ?_
    rintro e w4 ⟨rfl, hr4⟩
    have hq4 := hq3.trans (hr4.mono (box_size hq3))
    obtain ⟨c0, c1, c2, c3, c4⟩ := box5' HSZ.out hq4
    have hwr := HWR.out
    have hs1 := HS1.out
    have hsum : IntKind.i64.wrap (A + N) = A + N := IntWalk.i64_in _ (by omega)
    go_wp2_with fail
    go_ret
    exact ⟨rfl, hq0.trans ((((Below.refl _ _).alloc (Nat.le_refl _) _).trans (hq4.mono (Nat.le_succ _))).mono hq0.size)⟩

theorem totals_any (x y bits k : Int) (w : World) (hk : 0 ≤ k ∧ k ≤ 255) :
    Calls Try.prog 6 #[.agg #[.int .i64 x, .int .i64 y], .int .u64 bits, .int .u8 k] w fun e w' => e = .returned (.bool true) ∧ Below w.heap.size w w' := by
  have hb := tk_bounds x
  have hc := tk_bounds y
  have h := totals_walk x y bits k.toNat (tk x).toNat (tk y).toNat w (by omega) (by omega) (by omega)
  rw [Int.toNat_of_nonneg hk.1] at h
  exact h
end Go.Proofs.Ytlhpmnnbjkbahaa
