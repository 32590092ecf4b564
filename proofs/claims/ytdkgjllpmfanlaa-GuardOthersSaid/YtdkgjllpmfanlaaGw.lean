/- The walks of package guard: Lose, Lost, Run. -/
import Derived.Test.YtdkgjllpmfanlaaRows
import Derived.WalkKit
import Derived.WalkSpells
import Derived.WalkLawsBesides
import Derived.Laws.EntriesVeiled
import Derived.Lib.Hide
namespace Go.Proofs.Ytdkgjllpmfanlaa
open Go.RowKit

/-- a crash -/
abbrev crash (n : Int) : Value := .iface 28 (.agg #[.int .i64 n])

set_option maxHeartbeats 400000 in
theorem lose_any (n : Int) (w : World) : Calls Try.prog 14 #[.int .i64 n] w fun e w' => e = .panicked [{ v := crash n, recovered := false }] ∧ w = w' := by
  go_enter Try.func14, Try.ntmps14
  go_wp2
  exact ⟨rfl, rfl, rfl⟩

theorem assert_crash (n : Int) (w : World) : (Instr.typeAssert (crash n) 20 28 true).run Try.prog w = .ok (.tuple #[.agg #[.int .i64 n], .bool true]) w := by kernel_rfl

theorem assert_nil (w : World) : (Instr.typeAssert .nilIface 20 28 true).run Try.prog w = .ok (.tuple #[.agg #[.int .i64 0], .bool false]) w := by kernel_rfl

theorem assert_other (u : TypeId) (hu : u ≠ 28) (x : Value) (w : World) : (Instr.typeAssert (.iface u x) 20 28 true).run Try.prog w = .ok (.tuple #[.agg #[.int .i64 0], .bool false]) w := by
  simp [Instr.typeAssert, run_underlying Try.underlying28, hu]

set_option maxHeartbeats 400000 in
theorem lost_crash (n : Int) (w : World) : Calls Try.prog 25 #[crash n] w fun e w' => e = .returned (.tuple #[.agg #[.int .i64 n], .bool true]) ∧ Below w.heap.size w w' := by
  have ha := assert_crash n
  go_enter Try.func25, Try.ntmps25
  go_wp2
  refine bodyPost_ret (v := .tuple #[.agg #[.int .i64 n], .bool true]) (by simp [results, Try.results25, go_sem]) rfl ⟨rfl, ?_⟩
  exact ((Below.refl _ _).alloc (Nat.le_refl _) _).alloc (by simp) _

set_option maxHeartbeats 400000 in
theorem lost_other (u : TypeId) (hu : u ≠ 28) (x : Value) (w : World) : Calls Try.prog 25 #[.iface u x] w fun e w' => e = .returned (.tuple #[.agg #[.int .i64 0], .bool false]) ∧ Below w.heap.size w w' := by
  have ha := assert_other u hu x
  go_enter Try.func25, Try.ntmps25
  go_wp2
  refine bodyPost_ret (v := .tuple #[.agg #[.int .i64 0], .bool false]) (by simp [results, Try.results25, go_sem]) rfl ⟨rfl, ?_⟩
  exact ((Below.refl _ _).alloc (Nat.le_refl _) _).alloc (by simp) _

set_option maxHeartbeats 400000 in
theorem lost_nil (w : World) : Calls Try.prog 25 #[.nilIface] w fun e w' => e = .returned (.tuple #[.agg #[.int .i64 0], .bool false]) ∧ Below w.heap.size w w' := by
  have ha := assert_nil
  go_enter Try.func25, Try.ntmps25
  go_wp2
  refine bodyPost_ret (v := .tuple #[.agg #[.int .i64 0], .bool false]) (by simp [results, Try.results25, go_sem]) rfl ⟨rfl, ?_⟩
  exact ((Below.refl _ _).alloc (Nat.le_refl _) _).alloc (by simp) _

theorem runD_idle (c l : Addr) (w : World) : CallsD Try.prog 37 #[.pointer (some c), .pointer (some l)] .returning w fun e u' w' => e = .returned (.tuple #[]) ∧ u' = .returning ∧ w = w' := by
  refine callsD_of_wpS Try.func37 rfl fun c₀ cs hu => ?_
  apply wpS_seq
  apply wpS_region
  simp [wpOpsS, go_sem, recoverD, hu, Try.ntmps37, Exit.thenS]
  refine wpS_of_wp ?_
  simp only [Array.replicate_succ, Array.replicate_zero, List.push_toArray, List.setIfInBounds_toArray, List.set_cons_succ, List.set_cons_zero, List.append_toArray, List.nil_append, List.cons_append]
  go_wp2
  have hc : c₀ = { c₀ with mode := .returning } := by cases c₀; simp_all
  exact ⟨rfl, .returning, by rw [← hc], .tuple #[], results_none rfl _ _ _, rfl, rfl, rfl⟩

theorem runD_crash (bc bl : Nat) (n : Int) (older : List PanicEntry) (x y : Value) (w : World) (hne : bc ≠ bl) (hbc : bc < w.heap.size) (hbl : bl < w.heap.size)
    (hc : w.cell? ⟨bc, 0, none⟩ = some x) (hl : w.cell? ⟨bl, 0, none⟩ = some y) (zc : w.frozen? ⟨bc, 0, none⟩ = false) (zl : w.frozen? ⟨bl, 0, none⟩ = false) :
    CallsD Try.prog 37 #[.pointer (some ⟨bc, 0, none⟩), .pointer (some ⟨bl, 0, none⟩)] (.panicking ({ v := crash n, recovered := false } :: older)) w fun e u' w' =>
      e = .returned (.tuple #[]) ∧ u' = .panicking ({ v := crash n, recovered := true } :: older) ∧ ∃ w2, Below w.heap.size w w2 ∧ w' = (w2.setCell ⟨bc, 0, none⟩ (.int .i64 n)).setCell ⟨bl, 0, none⟩ (.bool true) := by
  refine callsD_of_wpS Try.func37 rfl fun c₀ cs hu => ?_
  apply wpS_seq
  apply wpS_region
  simp [wpOpsS, go_sem, recoverD, hu, Try.ntmps37, Exit.thenS]
  refine wpS_of_wp ?_
  simp only [Array.replicate_succ, Array.replicate_zero, List.push_toArray, List.setIfInBounds_toArray, List.set_cons_succ, List.set_cons_zero, List.append_toArray, List.nil_append, List.cons_append]
  have hnl : ¬ bl = bc := fun e => hne e.symm
  go_wp2_with fail
  refine (lost_crash _ _).mono ?_
  rintro e w2 ⟨rfl, hq⟩
  rw [← hq.cell (p := ⟨bc, 0, none⟩) hbc] at hc
  rw [← hq.cell (p := ⟨bl, 0, none⟩) hbl] at hl
  rw [← hq.frozen (p := ⟨bc, 0, none⟩) hbc] at zc
  rw [← hq.frozen (p := ⟨bl, 0, none⟩) hbl] at zl
  have hcl : ∀ v, (w2.setCell ⟨bc, 0, none⟩ v).cell? ⟨bl, 0, none⟩ = some y := fun v => by rw [World.cell?_setCell_other]; exact hl; intro h; cases h; exact hne rfl
  go_wp2_with fail
  exact ⟨rfl, _, rfl, .tuple #[], results_none rfl _ _ _, rfl, rfl, w2, hq, rfl⟩

theorem runD_other (bc bl : Nat) (u : TypeId) (hu28 : u ≠ 28) (z : Value) (older : List PanicEntry) (x y : Value) (w : World) (hne : bc ≠ bl) (hbc : bc < w.heap.size) (hbl : bl < w.heap.size)
    (hc : w.cell? ⟨bc, 0, none⟩ = some x) (hl : w.cell? ⟨bl, 0, none⟩ = some y) (zc : w.frozen? ⟨bc, 0, none⟩ = false) (zl : w.frozen? ⟨bl, 0, none⟩ = false) :
    CallsD Try.prog 37 #[.pointer (some ⟨bc, 0, none⟩), .pointer (some ⟨bl, 0, none⟩)] (.panicking ({ v := .iface u z, recovered := false } :: older)) w fun e u' w' =>
      e = .panicked [{ v := .iface u z, recovered := false }] ∧ u' = .panicking ({ v := .iface u z, recovered := true } :: older) ∧ ∃ w2, Below w.heap.size w w2 ∧ w' = (w2.setCell ⟨bc, 0, none⟩ (.int .i64 0)).setCell ⟨bl, 0, none⟩ (.bool false) := by
  refine callsD_of_wpS Try.func37 rfl fun c₀ cs hu => ?_
  apply wpS_seq
  apply wpS_region
  simp [wpOpsS, go_sem, recoverD, hu, Try.ntmps37, Exit.thenS]
  refine wpS_of_wp ?_
  simp only [Array.replicate_succ, Array.replicate_zero, List.push_toArray, List.setIfInBounds_toArray, List.set_cons_succ, List.set_cons_zero, List.append_toArray, List.nil_append, List.cons_append]
  have hnl : ¬ bl = bc := fun e => hne e.symm
  go_wp2_with fail
  refine (lost_other _ hu28 _ _).mono ?_
  rintro e w2 ⟨rfl, hq⟩
  rw [← hq.cell (p := ⟨bc, 0, none⟩) hbc] at hc
  rw [← hq.cell (p := ⟨bl, 0, none⟩) hbl] at hl
  rw [← hq.frozen (p := ⟨bc, 0, none⟩) hbc] at zc
  rw [← hq.frozen (p := ⟨bl, 0, none⟩) hbl] at zl
  have hcl : ∀ v, (w2.setCell ⟨bc, 0, none⟩ v).cell? ⟨bl, 0, none⟩ = some y := fun v => by rw [World.cell?_setCell_other]; exact hl; intro h; cases h; exact hne rfl
  go_wp2_with fail
  exact ⟨rfl, _, rfl, rfl, rfl, w2, hq, rfl⟩


/-- the world in which Run calls its function: two variables more -/
abbrev boxed (w : World) : World := (w.alloc (.cells #[.int .i64 0] 28)).alloc (.cells #[.bool false] 4)

/-- a call of a function value leaves Run's own two variables alone -/
def Spares (w w1 : World) : Prop := Below 0 (boxed w) w1 ∧ w1.heap[w.heap.size]? = (boxed w).heap[w.heap.size]? ∧ w1.heap[w.heap.size + 1]? = (boxed w).heap[w.heap.size + 1]?

theorem func_nil (g : FuncId) (cap : Array Value) (w : World) : (binOp .eql 1 (.func (.func g) #[] cap) .nilFunc).run Try.prog w = .ok (.bool false) w := by kernel_rfl
theorem nil_nil (w : World) : (binOp .eql 1 .nilFunc .nilFunc).run Try.prog w = .ok (.bool true) w := by kernel_rfl

/-- a function value's call enters its function -/
def Enters (g : FuncId) (cap : Array Value) : Prop := ∀ w, (callFunc g cap).run Try.prog w = .ok (.enter g cap) w

theorem two_set {w : World} {n : Nat} {x y : Value} (u v : Value) (h0 : w.cell? ⟨n, 0, none⟩ = some x) (h1 : w.cell? ⟨n + 1, 0, none⟩ = some y) :
    ((w.setCell ⟨n, 0, none⟩ u).setCell ⟨n + 1, 0, none⟩ v).cell? ⟨n, 0, none⟩ = some u ∧ ((w.setCell ⟨n, 0, none⟩ u).setCell ⟨n + 1, 0, none⟩ v).cell? ⟨n + 1, 0, none⟩ = some v := by
  have hne : (⟨n, 0, none⟩ : Addr) ≠ ⟨n + 1, 0, none⟩ := fun h => by injection h; omega
  have k : (w.setCell ⟨n, 0, none⟩ u).cell? ⟨n + 1, 0, none⟩ = some y := by rw [World.cell?_setCell_other _ _ _ _ hne]; exact h1
  refine ⟨?_, World.cell?_setCell_same _ _ _ k⟩
  rw [World.cell?_setCell_other _ _ _ _ hne.symm]
  exact World.cell?_setCell_same _ _ _ h0

theorem two_set_frozen {w : World} {n : Nat} (u v : Value) (a : Addr) : ((w.setCell ⟨n, 0, none⟩ u).setCell ⟨n + 1, 0, none⟩ v).frozen? a = w.frozen? a := by
  simp [go_sem]

theorem two_set_below {w : World} {n : Nat} (u v : Value) : Below n w ((w.setCell ⟨n, 0, none⟩ u).setCell ⟨n + 1, 0, none⟩ v) :=
  Below.setCell (p := ⟨n + 1, 0, none⟩) (Below.setCell (p := ⟨n, 0, none⟩) (Below.refl _ _) (Nat.le_refl _) _) (Nat.le_succ _) _

/-- Run's own two variables, behind the call -/
theorem Spares.cells {w w1 : World} (h : Spares w w1) : w1.cell? ⟨w.heap.size, 0, none⟩ = some (.int .i64 0) ∧ w1.cell? ⟨w.heap.size + 1, 0, none⟩ = some (.bool false) ∧
    w1.frozen? ⟨w.heap.size, 0, none⟩ = false ∧ w1.frozen? ⟨w.heap.size + 1, 0, none⟩ = false ∧ w.heap.size + 2 ≤ w1.heap.size := by
  obtain ⟨hb, h0, h1⟩ := h
  refine ⟨?_, ?_, ?_, ?_, ?_⟩
  · rw [World.cell?_of_block (w := boxed w) h0]; simp [go_sem]
  · rw [World.cell?_of_block (w := boxed w) h1]; simp [go_sem]
  · rw [World.frozen?_of_block (w := boxed w) h0]; simp [go_sem]
  · rw [World.frozen?_of_block (w := boxed w) h1]; simp [go_sem]
  · have := hb.size; simp at this; omega

set_option maxHeartbeats 1000000 in
theorem run_ret (g : FuncId) (cap : Array Value) (he : Enters g cap) (w : World) (R : World → Prop)
    (h : Calls Try.prog g cap (boxed w) fun e w1 => e = .returned (.tuple #[]) ∧ Spares w w1 ∧ R w1) :
    Calls Try.prog 18 #[.func (.func g) #[] cap] w fun e w' => e = .returned (.tuple #[.agg #[.int .i64 0], .bool false]) ∧ ∃ w1, R w1 ∧ Below w.heap.size w1 w' := by
  have hmf : ∀ (fn : Fn) (first cap : Array Value) (w : World), (Instr.makeFunc fn first cap).run Try.prog w = .ok (.func fn first cap) w := fun _ _ _ _ => rfl
  have hnil := func_nil g cap
  have hen : ∀ w, (callFunc g cap).run Try.prog w = .ok (.enter g cap) w := he
  have H := Lib.hid h
  clear h he
  go_enter_defers Try.func18, Try.ntmps18
  go_wp2_with fail
  refine H.out.mono ?_
  rintro e w1 ⟨rfl, hsp, hR⟩
  obtain ⟨c0, c1, z0, z1, hsz⟩ := hsp.cells
  go_wp2_with fail
  refine leaves_cons (f := 37) (args := #[.pointer (some ⟨w.heap.size, 0, none⟩), .pointer (some ⟨w.heap.size + 1, 0, none⟩)]) (by simp) (by simp [go_sem]) ?_
  refine (runD_idle _ _ _).mono ?_
  rintro e u' w'' ⟨rfl, rfl, rfl⟩
  obtain ⟨e0, e1⟩ := two_set (.int .i64 0) (.bool false) c0 c1
  exact ⟨.tuple #[.agg #[.int .i64 0], .bool false], by simp [results, Try.results18, go_sem, e0, e1], rfl, w1, hR, two_set_below _ _⟩

set_option maxHeartbeats 1000000 in
theorem run_crash (g : FuncId) (cap : Array Value) (n : Int) (he : Enters g cap) (w : World) (R : World → Prop)
    (h : Calls Try.prog g cap (boxed w) fun e w1 => e = .panicked [{ v := crash n, recovered := false }] ∧ Spares w w1 ∧ R w1) :
    Calls Try.prog 18 #[.func (.func g) #[] cap] w fun e w' => e = .returned (.tuple #[.agg #[.int .i64 n], .bool true]) ∧ ∃ w1, R w1 ∧ Below w.heap.size w1 w' := by
  have hmf : ∀ (fn : Fn) (first cap : Array Value) (w : World), (Instr.makeFunc fn first cap).run Try.prog w = .ok (.func fn first cap) w := fun _ _ _ _ => rfl
  have hnil := func_nil g cap
  have hen : ∀ w, (callFunc g cap).run Try.prog w = .ok (.enter g cap) w := he
  have H := Lib.hid h
  clear h he
  go_enter_defers Try.func18, Try.ntmps18
  go_wp2_with fail
  refine H.out.mono ?_
  rintro e w1 ⟨rfl, hsp, hR⟩
  obtain ⟨c0, c1, z0, z1, hsz⟩ := hsp.cells
  refine leaves_cons (f := 37) (args := #[.pointer (some ⟨w.heap.size, 0, none⟩), .pointer (some ⟨w.heap.size + 1, 0, none⟩)]) (by simp) (by simp [go_sem]) ?_
  refine (runD_crash _ _ n [] _ _ w1 (by omega) (by omega) (by omega) c0 c1 z0 z1).mono ?_
  rintro e u' w'' ⟨rfl, rfl, w2, hq, rfl⟩
  rw [← hq.cell (p := ⟨w.heap.size, 0, none⟩) (by show w.heap.size < _; omega)] at c0
  rw [← hq.cell (p := ⟨w.heap.size + 1, 0, none⟩) (by show w.heap.size + 1 < _; omega)] at c1
  have hz := (hq.mono (show w.heap.size ≤ w1.heap.size by omega)).trans (two_set_below (.int .i64 n) (.bool true))
  obtain ⟨e0, e1⟩ := two_set (.int .i64 n) (.bool true) c0 c1
  exact ⟨.tuple #[.agg #[.int .i64 n], .bool true], by simp [results, Try.results18, go_sem, e0, e1], rfl, w1, hR, hz⟩

set_option maxHeartbeats 1000000 in
theorem run_other (g : FuncId) (cap : Array Value) (u : TypeId) (hu28 : u ≠ 28) (z : Value) (he : Enters g cap) (w : World) (R : World → Prop)
    (h : Calls Try.prog g cap (boxed w) fun e w1 => e = .panicked [{ v := .iface u z, recovered := false }] ∧ Spares w w1 ∧ R w1) :
    Calls Try.prog 18 #[.func (.func g) #[] cap] w fun e w' => e = .panicked [{ v := .iface u z, recovered := false }, { v := .iface u z, recovered := true }] ∧ ∃ w1, R w1 ∧ Below w.heap.size w1 w' := by
  have hmf : ∀ (fn : Fn) (first cap : Array Value) (w : World), (Instr.makeFunc fn first cap).run Try.prog w = .ok (.func fn first cap) w := fun _ _ _ _ => rfl
  have hnil := func_nil g cap
  have hen : ∀ w, (callFunc g cap).run Try.prog w = .ok (.enter g cap) w := he
  have H := Lib.hid h
  clear h he
  go_enter_defers Try.func18, Try.ntmps18
  go_wp2_with fail
  refine H.out.mono ?_
  rintro e w1 ⟨rfl, hsp, hR⟩
  obtain ⟨c0, c1, z0, z1, hsz⟩ := hsp.cells
  refine leaves_cons (f := 37) (args := #[.pointer (some ⟨w.heap.size, 0, none⟩), .pointer (some ⟨w.heap.size + 1, 0, none⟩)]) (by simp) (by simp [go_sem]) ?_
  refine (runD_other _ _ u hu28 z [] _ _ w1 (by omega) (by omega) (by omega) c0 c1 z0 z1).mono ?_
  rintro e u' w'' ⟨rfl, rfl, w2, hq, rfl⟩
  rw [← hq.cell (p := ⟨w.heap.size, 0, none⟩) (by show w.heap.size < _; omega)] at c0
  rw [← hq.cell (p := ⟨w.heap.size + 1, 0, none⟩) (by show w.heap.size + 1 < _; omega)] at c1
  have hz := (hq.mono (show w.heap.size ≤ w1.heap.size by omega)).trans (two_set_below (.int .i64 0) (.bool false))
  exact ⟨rfl, w1, hR, hz⟩

set_option maxHeartbeats 1000000 in
theorem run_nil (w : World) : Calls Try.prog 18 #[.nilFunc] w fun e w' => e = .returned (.tuple #[.agg #[.int .i64 0], .bool false]) ∧ Below w.heap.size w w' := by
  have hnil := nil_nil
  go_enter_defers Try.func18, Try.ntmps18
  go_wp2_with fail
  exact ⟨.tuple #[.agg #[.int .i64 0], .bool false], by simp [results, Try.results18, go_sem], rfl, ((Below.refl _ _).alloc (Nat.le_refl _) _).alloc (by simp) _⟩
end Go.Proofs.Ytdkgjllpmfanlaa
