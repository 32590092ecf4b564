/- The walk of ref03.Row. -/
import Derived.Test.YtdkgjllpmfanlaaGa
namespace Go.Proofs.Ytdkgjllpmfanlaa
open Go.RowKit

def opOf (K X : Nat → Int) (j : Nat) : Option Int := if K j = 1 then some (X j) else none
def sumTo (X : Nat → Int) : Nat → Int
  | 0 => 0
  | k + 1 => sumTo X k + (X k).tmod 1000

theorem tmod_lt (x : Int) : -1000 < x.tmod 1000 ∧ x.tmod 1000 < 1000 := by
  have h0 := Int.tmod_lt_of_pos x (show (0:Int) < 1000 by decide)
  have h1 := Int.tmod_lt_of_pos (-x) (show (0:Int) < 1000 by decide)
  rw [Int.neg_tmod] at h1
  omega
theorem sumTo_le (X : Nat → Int) (k : Nat) : -(1000 * (k : Int)) ≤ sumTo X k ∧ sumTo X k ≤ 1000 * (k : Int) := by
  induction k with
  | zero => simp [sumTo]
  | succ k ih => have := tmod_lt (X k); simp only [sumTo]; omega

/-- the argument: a row of steps, as it lies in the heap -/
def StepsAt (w : World) (p : Option Addr) (n : Nat) (K X : Nat → Int) : Prop :=
  ∀ j, j < n → ∃ b off, p = some ⟨b, off, none⟩ ∧ w.cell? ⟨b, off + j * 2, none⟩ = some (.int .i64 (K j)) ∧ w.cell? ⟨b, off + j * 2 + 1, none⟩ = some (.int .i64 (X j))

theorem StepsAt.below {w w' : World} {p : Option Addr} {n : Nat} {K X : Nat → Int} (h : StepsAt w p n K X) (hb : Below w.heap.size w w') : StepsAt w' p n K X := by
  intro j hj
  obtain ⟨b, off, hp, h0, h1⟩ := h j hj
  have hlt : b < w.heap.size := World.block_lt_of_cell? w ⟨b, off + j * 2, none⟩ h0
  exact ⟨b, off, hp, (hb.cell (p := ⟨b, off + j * 2, none⟩) hlt).trans h0, (hb.cell (p := ⟨b, off + j * 2 + 1, none⟩) hlt).trans h1⟩

def refTold (n : Nat) (S : Nat → Int) : Option (Nat × Int) → Ending
  | some (i, c) => .returned (.tuple #[.int .i64 i, .int .i64 c, .bool true, .int .i64 (S (i + 1))])
  | none => .returned (.tuple #[.int .i64 n, .int .i64 0, .bool false, .int .i64 (S n)])

set_option maxHeartbeats 1000000 in
theorem refRow_any (p : Option Addr) (n cp : Nat) (K X : Nat → Int) (w : World) (hn : n ≤ 300) (hc : StepsAt w p n K X) :
    Calls Try.prog 15 #[.slice p n cp] w fun e w' => e = refTold n (sumTo X) (firstStop (opOf K X) 0 n) ∧ Below w.heap.size w w' := by
  have HC := Lib.hid hc
  clear hc
  go_enter Try.func15, Try.ntmps15
  go_wp2_with fail
  go_loop [6, 7] (fun s i => ∃ j : Nat, i = .int .i64 j ∧ s = .int .i64 (sumTo X j) ∧ j ≤ n ∧ firstStop (opOf K X) j (n - j) = firstStop (opOf K X) 0 n) (fun _ i => n - (intOf i).toNat)
  case atStart => exact ⟨0, rfl, rfl, by omega, rfl⟩
  case round =>
    obtain ⟨j, rfl, rfl, hj, hf⟩ := hrel
    have HF := Lib.hid hf
    clear hf
    by_cases hlt : j < n
    · obtain ⟨b, off, rfl, h0, h1⟩ := HC.out j hlt
      have hjb : decide ((j : Int) < (n : Int)) = true := by simp; omega
      have hs := sumTo_le X j
      have ht := tmod_lt (X j)
      have hS : sumTo X (j + 1) = sumTo X j + (X j).tmod 1000 := rfl
      have HS := Lib.hid hS
      clear hS
      generalize sumTo X j = s at hs HS ⊢
      by_cases hk : K j = 1
      · have hkb : (K j == 1) = true := by simpa using hk
        have HF2 : Hid (firstStop (opOf K X) 0 n = some (j, X j)) := by
          have := HF.out
          rw [show n - j = (n - (j + 1)) + 1 from by omega, firstStop, opOf, if_pos hk] at this
          exact this.symm
        clear HF hk
        go_wp2_with fail
        go_region
        go_wp2_with fail
        have hf2 := HF2.out
        exact bodyPost_ret (v := .tuple #[.int .i64 j, .int .i64 (X j), .bool true, .int .i64 (s + (X j).tmod 1000)]) (by simp [results, Try.results15, go_sem]) rfl
          ⟨by rw [hf2, refTold, HS.out], (Below.refl _ _).drew⟩
      · have hkb : (K j == 1) = false := by simpa using hk
        have HF2 : Hid (firstStop (opOf K X) (j + 1) (n - (j + 1)) = firstStop (opOf K X) 0 n) := by
          have := HF.out
          rw [show n - j = (n - (j + 1)) + 1 from by omega, firstStop, opOf, if_neg hk] at this
          exact this
        clear HF hk
        go_wp2_with fail
        go_round
        case rel => exact ⟨j + 1, by go_num, by rw [HS.out], by omega, HF2.out⟩
        case measure => simp [intOf]; omega
    · have hjb : decide ((j : Int) < (n : Int)) = false := by simp; omega
      have hjn : j = n := by omega
      have HF2 : Hid (firstStop (opOf K X) 0 n = none) := by
        have := HF.out
        rw [hjn, Nat.sub_self, firstStop] at this
        exact this.symm
      subst hjn
      clear HF
      go_wp2_with fail
      have hf2 := HF2.out
      exact bodyPost_ret (v := .tuple #[.int .i64 j, .int .i64 0, .bool false, .int .i64 (sumTo X j)]) (by simp [results, Try.results15, go_sem]) rfl
        ⟨by rw [hf2, refTold], Below.refl _ _⟩
end Go.Proofs.Ytdkgjllpmfanlaa
