/- The walks of the delay statements' own helpers: 'ticks', 'math.NaN', 'alive'. -/
import Derived.Test.YtlhpmnnbjkbahaaDw
namespace Go.Proofs.Ytlhpmnnbjkbahaa
open Go.RowKit

@[go_sem] theorem run_store_float {P : Program} (w : World) (a : Addr) (m : Mode) (k : FloatKind) (b : Nat) : (store a (.float k b) m).run P w = stored P w a (.float k b) m := run_store P w a _ m rfl

theorem run_frombits (n : Int) (w : World) : (callFunc 19 #[.int .u64 n]).run Try.prog w = .ok (.value (.float .f64 n.toNat)) w := by
  rw [run_callFunc_extern (e := Extern.MathFloatBits.float64frombits) Try.func19 (by kernel_rfl) (by kernel_rfl) (by kernel_rfl) (by kernel_rfl)]
  rfl

def tk (n : Int) : Int := n % 18446744073709551616 % 1099511627777
theorem tk_bounds (n : Int) : 0 ≤ tk n ∧ tk n ≤ 1099511627776 := by unfold tk; omega

set_option maxHeartbeats 400000 in
theorem ticks_any (n : Int) (w : World) :
    Calls Try.prog 16 #[.int .i64 n] w fun e w' => e = .returned (.int .i64 (tk n)) ∧ w = w' := by
  go_enter Try.func16, Try.ntmps16
  go_wp2
  go_ret
  refine ⟨?_, rfl⟩
  show Ending.returned (.int .i64 (wrap64 ((IntKind.u64.wrap n).tmod 1099511627777))) = _
  rw [IntKind.wrap_u64, Int.tmod_eq_emod_of_nonneg (by omega), IntWalk.wrap64_in _ (by omega)]
  rfl

theorem nan_any (w : World) : Calls Try.prog 46 #[] w fun e w' => e = .returned (.float .f64 9221120237041090561) ∧ w = w' := by
  have hf := run_frombits
  go_enter Try.func46, Try.ntmps46
  go_wp2
  go_ret
  exact ⟨rfl, rfl⟩

/-- the example's factors, and delays -/
def alF : Nat → Nat
  | 0 => 4611686018427387904
  | 1 => 9221120237041090561
  | 2 => 13830554455654793216
  | _ => 0
def alW : Nat → Nat → Int
  | _, 0 => 3
  | 0, 1 => 6
  | 0, _ => 12
  | 1, _ => 20
  | 2, 1 => 0
  | 2, _ => 3
  | _, _ => 0
theorem al_next {k j : Nat} (hk : k < 4) (hj : j < 3) : Fl.next 3 20 (alF k) j = alW k j := by
  have h : ∀ (k : Fin 4) (j : Fin 3), Fl.go 4626322717216342016 (alF k) 20 (min j 1000) 4613937818241073152 = alW k j := by decide +kernel
  unfold Fl.next
  rw [Fl.ofN_3, Fl.ofN_20]
  exact h ⟨k, hk⟩ ⟨j, hj⟩

def alCells : Array Value := #[.float .f64 4611686018427387904, .int .i64 3, .int .i64 6, .int .i64 12, .float .f64 9221120237041090561, .int .i64 3, .int .i64 20, .int .i64 20, .float .f64 13830554455654793216, .int .i64 3, .int .i64 0, .int .i64 3, .float .f64 0, .int .i64 3, .int .i64 0, .int .i64 0]

theorem al_cells {w w1 : World} {k : Nat} (hk : k < 4) (h : Below (w.heap.size + 1) (w.alloc (.cells alCells 73)) w1) :
    w1.cell? ⟨w.heap.size, k * 4, none⟩ = some (.float .f64 (alF k)) ∧ w1.cell? ⟨w.heap.size, k * 4 + 1, none⟩ = some (.int .i64 (alW k 0)) ∧
    w1.cell? ⟨w.heap.size, k * 4 + 1 + 1, none⟩ = some (.int .i64 (alW k 1)) ∧ w1.cell? ⟨w.heap.size, k * 4 + 1 + 1 + 1, none⟩ = some (.int .i64 (alW k 2)) := by
  have e : ∀ i, w1.cell? ⟨w.heap.size, i, none⟩ = alCells[i]? := by
    intro i
    rw [h.cell (by simp)]
    simp [go_sem]
  rw [e, e, e, e]
  obtain rfl | rfl | rfl | rfl : k = 0 ∨ k = 1 ∨ k = 2 ∨ k = 3 := by omega
  all_goals exact ⟨rfl, rfl, rfl, rfl⟩

theorem al_index {k j : Nat} (hj : j < 3) (w : World) : (Instr.index 55 (.agg #[.int .i64 (alW k 0), .int .i64 (alW k 1), .int .i64 (alW k 2)]) (.int .i64 (j : Int))).run Try.prog w = .ok (.int .i64 (alW k j)) w := by
  have h0 : ∀ (x y z : Value) (w : World), (Instr.index 55 (.agg #[x, y, z]) (.int .i64 0)).run Try.prog w = .ok x w := fun _ _ _ _ => by kernel_rfl
  have h1 : ∀ (x y z : Value) (w : World), (Instr.index 55 (.agg #[x, y, z]) (.int .i64 1)).run Try.prog w = .ok y w := fun _ _ _ _ => by kernel_rfl
  have h2 : ∀ (x y z : Value) (w : World), (Instr.index 55 (.agg #[x, y, z]) (.int .i64 2)).run Try.prog w = .ok z w := fun _ _ _ _ => by kernel_rfl
  obtain rfl | rfl | rfl : j = 0 ∨ j = 1 ∨ j = 2 := by omega
  · exact h0 _ _ _ w
  · exact h1 _ _ _ w
  · exact h2 _ _ _ w

set_option maxHeartbeats 400000 in
theorem alive_any (w : World) : Calls Try.prog 18 #[] w fun e w' => e = .returned (.bool true) ∧ Below w.heap.size w w' := by
  have a0 : Fl.next (Int.toNat 3) (Int.toNat 20) 4611686018427387904 (Int.toNat 2) = 12 := al_next (k := 0) (j := 2) (by omega) (by omega)
  have A0 := Lib.hid a0
  clear a0
  go_enter Try.func18, Try.ntmps18
  go_wp2_with fail
  refine (next_ok _ _ _ _ _ _ _ (by decide) (by decide) (by decide) (by decide) (by decide) (by decide)).mono ?_
  rintro e w1 ⟨rfl, hq1⟩
  rw [A0.out]
  go_wp2_with fail
  refine (nan_any _).mono ?_
  rintro e w' ⟨rfl, rfl⟩
  go_wp2_with fail
  go_loopw [31] (fun i wr => ∃ k : Nat, i = .int .i64 k ∧ k ≤ 4 ∧ Below (w1.heap.size + 1) (w1.alloc (.cells alCells 73)) wr) (fun i _ => 4 - (intOf i).toNat)
  case atStart => exact ⟨0, rfl, by omega, Below.refl _ _⟩
  case round =>
    obtain ⟨k, rfl, hk, hq⟩ := hrel
    obtain ⟨wo, rfl⟩ : ∃ wo : World, wo = wr := ⟨_, rfl⟩
    by_cases hk4 : k < 4
    · obtain ⟨c0, c1, c2, c3⟩ := al_cells hk4 hq
      have hk4b : decide ((k : Int) < 4) = true := by simp; omega
      go_wp2_with fail
      go_loopw [37] (fun i wi => ∃ j : Nat, i = .int .i64 j ∧ j ≤ 3 ∧ Below wo.heap.size wo wi ∧ wo.heap.size < wi.heap.size ∧ wi.cell? ⟨wo.heap.size, 0, none⟩ = some (.float .f64 (alF k))) (fun i _ => 3 - (intOf i).toNat)
      case atStart =>
        refine ⟨0, rfl, by omega, ?_, by simp, by simp [go_sem]⟩
        repeat (refine Below.setCell ?_ (Nat.le_refl _) _)
        exact (Below.refl _ _).alloc (Nat.le_refl _) _
      case round =>
        obtain ⟨j, rfl, hj, hb, hsz, hc⟩ := hrel
        clear c0 c1 c2 c3
        by_cases hj3 : j < 3
        · have hix := al_index (k := k) hj3
          have HN := Lib.hid (al_next hk4 hj3)
          go_wp2_with fail
          refine (next_ok _ _ _ _ _ _ _ (by decide) (by decide) (by decide) (by decide) (by omega) (by omega)).mono ?_
          rintro e w2 ⟨rfl, hq2⟩
          rw [show Fl.next (Int.toNat 3) (Int.toNat 20) (alF k) (Int.toNat (j : Int)) = alW k j from HN.out]
          go_wp2_with fail
          go_roundw
          case rel => exact ⟨j + 1, by go_num, by omega, hb.trans (hq2.mono (Nat.le_of_lt hsz)), by have := hq2.size; omega, by rw [hq2.cell hsz]; exact hc⟩
          case measure => simp [intOf]; omega
        · go_wp2_with fail
          go_roundw
          case rel => exact ⟨k + 1, by go_num, by omega, hq.trans (hb.mono (by have := hq.size; simpa using this))⟩
          case measure => simp [intOf]; omega
    · go_wp2_with fail
      go_ret
      exact ⟨rfl, hq1.trans (((Below.refl _ _).alloc (Nat.le_refl _) _ |>.trans (hq.mono (by omega))).mono hq1.size)⟩
end Go.Proofs.Ytlhpmnnbjkbahaa
