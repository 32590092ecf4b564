/- The walks of sender.New, lamplighterref16.New, and of the sender statements' own helpers. No condition but the bounds named. -/
import Derived.Test.YtlhpmnnbjkbahaaSf
namespace Go.Proofs.Ytlhpmnnbjkbahaa
open Go.RowKit

theorem keep_box {w w1 : World} {c : Array Value} {T : TypeId} {i : Nat} {v : Value} (h : Below (w.heap.size + 1) (w.alloc (.cells c T)) w1) (hi : c[i]? = some v) : w1.cell? ⟨w.heap.size, i, none⟩ = some v := by
  rw [h.cell (by simp)]
  exact cell_of (heap_alloc_new w _) hi

theorem box_past {w w1 : World} {o : Obj} (h : Below (w.alloc o).heap.size (w.alloc o) w1) : Below (w.heap.size + 1) (w.alloc o) w1 := by simpa using h
theorem box_below {w w1 : World} {o : Obj} (h : Below (w.heap.size + 1) (w.alloc o) w1) : Below w.heap.size w w1 :=
  ((Below.refl _ _).alloc (Nat.le_refl _) _).trans (h.mono (by omega))

set_option maxHeartbeats 400000 in
theorem snew_ok (C : Cf) (n : Int) (w : World) (hC : C.Ok) (h0 : 0 ≤ n) (h1 : n ≤ 1099511627776) :
    Calls Try.prog 27 #[cfg C.mf C.b C.c C.t C.F, .int .i64 n] w fun e w' => ∃ b, e = .returned (.tuple #[.pointer (some ⟨b, 0, none⟩), .int .i64 0]) ∧ w.heap.size ≤ b ∧ SAt b C (Sn.new n) w' ∧ Below w.heap.size w w' := by
  have t0 := hC.t0
  have t1 := hC.t1
  have HC := Lib.hid hC
  clear hC
  go_enter Try.func27, Try.ntmps27
  go_wp2_with fail
  refine (fl_next C HC.out 0 (by decide) (by decide) _).mono ?_
  rintro e w1 ⟨rfl, hq1⟩
  have hq := box_past hq1
  clear hq1
  have d0 : w1.cell? ⟨w.heap.size, 0, none⟩ = some (.int .i64 C.mf) := keep_box hq rfl
  have d1 : w1.cell? ⟨w.heap.size, 1, none⟩ = some (.int .i64 C.b) := keep_box hq rfl
  have d2 : w1.cell? ⟨w.heap.size, 2, none⟩ = some (.int .i64 C.c) := keep_box hq rfl
  have d3 : w1.cell? ⟨w.heap.size, 3, none⟩ = some (.int .i64 C.t) := keep_box hq rfl
  have d4 : w1.cell? ⟨w.heap.size, 4, none⟩ = some (.float .f64 C.F) := keep_box hq rfl
  go_wp2_with fail
  go_ret2
  have hb := box_below hq
  exact ⟨w1.heap.size, rfl, hb.size, heap_alloc_new w1 _, hb.alloc hb.size _⟩

theorem sbad_cases {C : Cf} {n : Int} (h : ¬ (C.Ok ∧ 0 ≤ n ∧ n ≤ 1099511627776)) (hb : ¬ (C.b < 0 ∨ C.c < 0 ∨ (0 : Int) < 0 ∨ 1099511627776 < C.b ∨ 1099511627776 < C.c)) :
    C.t < 1 ∨ 1099511627776 < C.t ∨ n < 0 ∨ 1099511627776 < n := by
  by_cases h1 : C.t < 1
  · exact .inl h1
  by_cases h2 : 1099511627776 < C.t
  · exact .inr (.inl h2)
  by_cases h3 : n < 0
  · exact .inr (.inr (.inl h3))
  by_cases h4 : 1099511627776 < n
  · exact .inr (.inr (.inr h4))
  · exact absurd ⟨⟨by omega, by omega, by omega, by omega, by omega, by omega⟩, by omega, by omega⟩ h

set_option maxHeartbeats 400000 in
theorem snew_bad (C : Cf) (n : Int) (w : World) (h : ¬ (C.Ok ∧ 0 ≤ n ∧ n ≤ 1099511627776)) :
    Calls Try.prog 27 #[cfg C.mf C.b C.c C.t C.F, .int .i64 n] w fun e w' => e = .returned (.tuple #[.pointer none, .int .i64 3]) ∧ Below w.heap.size w w' := by
  by_cases hb : C.b < 0 ∨ C.c < 0 ∨ (0 : Int) < 0 ∨ 1099511627776 < C.b ∨ 1099511627776 < C.c
  · go_enter Try.func27, Try.ntmps27
    go_wp2_with fail
    refine (next_bad C.mf C.t C.b C.c 0 C.F _ hb).mono ?_
    rintro e w1 ⟨rfl, hq1⟩
    clear h hb
    go_wp2_with fail
    go_ret2
    exact ⟨rfl, box_below (box_past hq1)⟩
  · have hN : ∀ w, Calls Try.prog 17 #[cfg C.mf C.b C.c C.t C.F, .int .i64 0] w fun e w' => e = .returned (.tuple #[.int .i64 (C.dl 0), .int .i64 0]) ∧ Below w.heap.size w w' := fun w =>
      next_ok C.mf C.t C.b C.c 0 C.F w (by omega) (by omega) (by omega) (by omega) (by decide) (by decide)
    rcases sbad_cases h hb with h1 | h1 | h1 | h1
    all_goals
      have HN := Lib.hid hN
      clear h hb hN
      go_enter Try.func27, Try.ntmps27
      go_wp2_with fail
      refine (HN.out _).mono ?_
      rintro e w1 ⟨rfl, hq1⟩
      have hq := box_past hq1
      clear hq1
      have d3 : w1.cell? ⟨w.heap.size, 3, none⟩ = some (.int .i64 C.t) := keep_box hq rfl
      go_wp2_with fail
      all_goals
        go_ret2
        exact ⟨rfl, box_below hq⟩

set_option maxHeartbeats 400000 in
theorem rnew_ok (C : Cf) (n : Int) (w : World) (hC : C.Ok) (h0 : 0 ≤ n) (h1 : n ≤ 1099511627776) :
    Calls Try.prog 39 #[cfg C.mf C.b C.c C.t C.F, .int .i64 n] w fun e w' => ∃ b, e = .returned (.tuple #[.pointer (some ⟨b, 0, none⟩), .bool true]) ∧ w.heap.size ≤ b ∧ RAt b C (Sn.new n) w' ∧ Below w.heap.size w w' := by
  have t0 := hC.t0
  have t1 := hC.t1
  have HC := Lib.hid hC
  clear hC
  go_enter Try.func39, Try.ntmps39
  go_wp2_with fail
  refine (rfl_next C HC.out 0 (by decide) (by decide) _).mono ?_
  rintro e w1 ⟨rfl, hq1⟩
  have hq := box_past hq1
  clear hq1
  have d0 : w1.cell? ⟨w.heap.size, 0, none⟩ = some (.int .i64 C.mf) := keep_box hq rfl
  have d1 : w1.cell? ⟨w.heap.size, 1, none⟩ = some (.int .i64 C.b) := keep_box hq rfl
  have d2 : w1.cell? ⟨w.heap.size, 2, none⟩ = some (.int .i64 C.c) := keep_box hq rfl
  have d3 : w1.cell? ⟨w.heap.size, 3, none⟩ = some (.int .i64 C.t) := keep_box hq rfl
  have d4 : w1.cell? ⟨w.heap.size, 4, none⟩ = some (.float .f64 C.F) := keep_box hq rfl
  go_wp2_with fail
  go_ret2
  have hb := box_below hq
  exact ⟨w1.heap.size, rfl, hb.size, RAt.mk (f := false) (r := false) (heap_alloc_new w1 _) rfl rfl, hb.alloc hb.size _⟩

set_option maxHeartbeats 400000 in
theorem rnew_bad (C : Cf) (n : Int) (w : World) (h : ¬ (C.Ok ∧ 0 ≤ n ∧ n ≤ 1099511627776)) :
    Calls Try.prog 39 #[cfg C.mf C.b C.c C.t C.F, .int .i64 n] w fun e w' => e = .returned (.tuple #[.pointer none, .bool false]) ∧ Below w.heap.size w w' := by
  by_cases hb : C.b < 0 ∨ C.c < 0 ∨ (0 : Int) < 0 ∨ 1099511627776 < C.b ∨ 1099511627776 < C.c
  · go_enter Try.func39, Try.ntmps39
    go_wp2_with fail
    refine (rnext_bad C.mf C.t C.b C.c 0 C.F _ hb).mono ?_
    rintro e w1 ⟨rfl, hq1⟩
    have hq := box_past hq1
    have d3 : w1.cell? ⟨w.heap.size, 3, none⟩ = some (.int .i64 C.t) := keep_box hq rfl
    clear h hb hq1
    go_wp2_with fail
    go_ret2
    exact ⟨rfl, box_below hq⟩
  · have hN : ∀ w, Calls Try.prog 21 #[cfg C.mf C.b C.c C.t C.F, .int .i64 0] w fun e w' => e = .returned (.tuple #[.int .i64 (C.dl 0), .int .i64 0]) ∧ Below w.heap.size w w' := fun w =>
      rnext_ok C.mf C.t C.b C.c 0 C.F w (by omega) (by omega) (by omega) (by omega) (by decide) (by decide)
    rcases sbad_cases h hb with h1 | h1 | h1 | h1
    all_goals
      have HN := Lib.hid hN
      clear h hb hN
      go_enter Try.func39, Try.ntmps39
      go_wp2_with fail
      refine (HN.out _).mono ?_
      rintro e w1 ⟨rfl, hq1⟩
      have hq := box_past hq1
      clear hq1
      have d3 : w1.cell? ⟨w.heap.size, 3, none⟩ = some (.int .i64 C.t) := keep_box hq rfl
      go_wp2_with fail
      all_goals
        go_ret2
        exact ⟨rfl, box_below hq⟩
end Go.Proofs.Ytlhpmnnbjkbahaa
