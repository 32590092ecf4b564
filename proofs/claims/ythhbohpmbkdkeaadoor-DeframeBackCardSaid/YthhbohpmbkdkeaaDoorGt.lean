/- The walks of New, Reset, Held, Junk, Over, Broken, most. -/
import Derived.Test.YthhbohpmbkdkeaaDoorFd
namespace Go.Proofs.YthhbohpmbkdkeaaDoor
open Go.RowKit

def St.held (s : St) : Int := if s.inn = false then 0 else if s.fin then s.now.length + 2 else s.now.length + 1

theorem owns_form {w : World} {B : Nat} {e : TypeId} {v : Value} {n : Nat} {xs : List Value} (h : w.ownsRow B e 1 v n xs) : ∃ ao cap, v = .slice ao n cap := by
  rcases h.2 with ⟨h1, h2⟩ | ⟨g, cap, cur, h1, _⟩
  · exact ⟨none, 0, by rw [h1, h2]⟩
  · exact ⟨_, _, h1⟩

theorem held_run (B bd : Nat) (nv fv : Value) (vs : List Value) (s : St) (w : World) (h : DAt B bd nv fv vs s w) :
    Calls Tryd.prog 20 #[.pointer (some ⟨bd, 0, none⟩)] w fun e w' => e = .returned (.int .i64 s.held) ∧ w' = w := by
  obtain ⟨ao, cap, rfl⟩ := owns_form h.now
  have c2 := cell_of (i := 2) h.obj rfl
  have c3 := cell_of (i := 3) h.obj rfl
  have c4 := cell_of (i := 4) h.obj rfl
  have hl := h.len
  replace c2 : w.cell? ⟨bd, 2, none⟩ = some (.bool s.inn) := c2
  replace c3 : w.cell? ⟨bd, 3, none⟩ = some (.bool s.fin) := c3
  replace c4 : w.cell? ⟨bd, 4, none⟩ = some (.slice ao s.now.length cap) := c4
  have hnow : (s.now.length : Int) ≤ 65536 := by omega
  have HH : Hid (s.held = (if s.inn = false then (0 : Int) else if s.fin then (s.now.length : Int) + 2 else (s.now.length : Int) + 1)) := Lib.hid rfl
  generalize s.held = x at HH ⊢
  generalize s.now.length = n at hnow c4 HH
  clear h hl
  cases hi : s.inn with
  | false =>
    rw [hi] at c2 HH
    clear hi
    have hx : x = 0 := by rw [HH.out]; rfl
    subst hx
    clear HH
    go_enter Tryd.func20, Tryd.ntmps20
    go_wp2_with fail
    go_ret
    exact ⟨rfl, rfl⟩
  | true =>
    rw [hi] at c2 HH
    clear hi
    cases hf : s.fin with
    | true =>
      rw [hf] at c3 HH
      clear hf
      have hx : x = n + 2 := by rw [HH.out]; rfl
      subst hx
      clear HH
      go_enter Tryd.func20, Tryd.ntmps20
      go_wp2_with fail
      go_ret
      exact ⟨rfl, rfl⟩
    | false =>
      rw [hf] at c3 HH
      clear hf
      have hx : x = n + 1 := by rw [HH.out]; rfl
      subst hx
      clear HH
      go_enter Tryd.func20, Tryd.ntmps20
      go_wp2_with fail
      go_ret
      exact ⟨rfl, rfl⟩

theorem junk_run (B bd : Nat) (nv fv : Value) (vs : List Value) (s : St) (w : World) (h : DAt B bd nv fv vs s w) :
    Calls Tryd.prog 21 #[.pointer (some ⟨bd, 0, none⟩)] w fun e w' => e = .returned (.int .i64 s.junk) ∧ w' = w := by
  have c6 : w.cell? ⟨bd, 6, none⟩ = some (.int .i64 s.junk) := cell_of (i := 6) h.obj rfl
  clear h
  go_enter Tryd.func21, Tryd.ntmps21
  go_wp2_with fail
  go_ret
  exact ⟨rfl, rfl⟩
theorem over_run (B bd : Nat) (nv fv : Value) (vs : List Value) (s : St) (w : World) (h : DAt B bd nv fv vs s w) :
    Calls Tryd.prog 18 #[.pointer (some ⟨bd, 0, none⟩)] w fun e w' => e = .returned (.int .i64 s.over) ∧ w' = w := by
  have c7 : w.cell? ⟨bd, 7, none⟩ = some (.int .i64 s.over) := cell_of (i := 7) h.obj rfl
  clear h
  go_enter Tryd.func18, Tryd.ntmps18
  go_wp2_with fail
  go_ret
  exact ⟨rfl, rfl⟩
theorem broken_run (B bd : Nat) (nv fv : Value) (vs : List Value) (s : St) (w : World) (h : DAt B bd nv fv vs s w) :
    Calls Tryd.prog 19 #[.pointer (some ⟨bd, 0, none⟩)] w fun e w' => e = .returned (.int .i64 s.broken) ∧ w' = w := by
  have c8 : w.cell? ⟨bd, 8, none⟩ = some (.int .i64 s.broken) := cell_of (i := 8) h.obj rfl
  clear h
  go_enter Tryd.func19, Tryd.ntmps19
  go_wp2_with fail
  go_ret
  exact ⟨rfl, rfl⟩

/-- a new one -/
def St.fresh (most : Nat) : St := ⟨most, false, false, [], [], 0, 0, 0⟩

theorem outside_first (bd most : Nat) (w : World) (ho : w.heap[bd]? = some (.cells #[.int .i64 most, .nilFunc, .bool false, .bool false, .slice none 0 0, .slice none 0 0, .int .i64 0, .int .i64 0, .int .i64 0] 50 (0, 0))) :
    Calls Tryd.prog 29 #[.pointer (some ⟨bd, 0, none⟩)] w fun e w' => e = .returned (.tuple #[]) ∧ w'.heap[bd]? = some (.cells (objOf bd (St.fresh most) (.slice none 0 0) (.slice none 0 0)) 50 (0, 0)) ∧ Moved w w' (· = bd) := by
  have c1 := cell_of (i := 1) ho rfl
  have c2 := cell_of (i := 2) ho rfl
  have c3 := cell_of (i := 3) ho rfl
  have c4 := cell_of (i := 4) ho rfl
  have z1 := free_of (i := 1) ho
  have z2 := free_of (i := 2) ho
  have z3 := free_of (i := 3) ho
  have z4 := free_of (i := 4) ho
  have hmf : ∀ (fn : Fn) (first cap : Array Value) (w : World), (Instr.makeFunc fn first cap).run Tryd.prog w = .ok (.func fn first cap) w := fun _ _ _ _ => rfl
  have H := Lib.hid ho
  clear ho
  go_enter Tryd.func29, Tryd.ntmps29
  go_wp2_with fail
  have h1 := heap_setCell_same w bd 2 _ 50 (.bool false) H.out
  have h2 := heap_setCell_same _ bd 3 _ 50 (.bool false) h1
  have h3 := heap_setCell_same _ bd 4 _ 50 (.slice none 0 0) h2
  have h4 := heap_setCell_same _ bd 1 _ 50 (nextOf bd false) h3
  exact ⟨rfl, .tuple #[], results_none rfl _ _ _, rfl, h4, ((((Moved.refl w (· = bd)).set (p := ⟨bd, 2, none⟩) rfl _).set (p := ⟨bd, 3, none⟩) rfl _).set (p := ⟨bd, 4, none⟩) rfl _).set (p := ⟨bd, 1, none⟩) rfl _⟩

theorem new_run (most : Nat) (w : World) (h1 : 1 ≤ most) (h2 : most ≤ 65536) :
    Calls Tryd.prog 13 #[.int .i64 most] w fun e w' => e = .returned (.tuple #[.pointer (some ⟨w.heap.size, 0, none⟩), .int .i64 0]) ∧
      DAt (w.heap.size + 1) w.heap.size (.slice none 0 0) (.slice none 0 0) [] (St.fresh most) w' ∧ Below w.heap.size w w' := by
  have h1' : (1 : Int) ≤ (most : Int) := by omega
  have h2' : (most : Int) ≤ 65536 := by omega
  go_enter Tryd.func13, Tryd.ntmps13
  go_wp2_with fail
  refine (outside_first w.heap.size most _ (heap_alloc_new w _)).mono ?_
  rintro e w1 ⟨rfl, ho, hm⟩
  have hb : Below w.heap.size w w1 := by
    refine ⟨hm.os, hm.tape, hm.output, by have := hm.size; simp at this; omega, fun k hk => ?_⟩
    rw [hm.block k (by simp; omega) (by omega)]
    exact Below.heap_alloc _ _ _ hk
  have hsz : w.heap.size + 1 ≤ w1.heap.size := by have := hm.size; simpa using this
  have HD := Lib.hid (And.intro (show DAt (w.heap.size + 1) w.heap.size (.slice none 0 0) (.slice none 0 0) [] (St.fresh most) w1 from
    ⟨Nat.lt_succ_self _, hsz, ho, World.ownsRow_nil _ _ _ _, World.ownsRow_nil _ _ _ _, rfl, fun i v bs hv => by simp at hv, fun v hv => by simp at hv, ⟨Nat.zero_le _, h2⟩⟩) hb)
  clear ho hm hb hsz
  go_wp2_with fail
  exact bodyPost_ret (v := .tuple #[.pointer (some ⟨w.heap.size, 0, none⟩), .int .i64 0]) (by simp [results, Tryd.results13, go_sem]) rfl ⟨rfl, HD.out⟩

theorem new_bad (n : Int) (w : World) (h : n < 1 ∨ 65536 < n) :
    Calls Tryd.prog 13 #[.int .i64 n] w fun e w' => e = .returned (.tuple #[.pointer none, .int .i64 3]) ∧ w' = w := by
  rcases h with h | h
  · go_enter Tryd.func13, Tryd.ntmps13
    go_wp2_with fail
    exact bodyPost_ret (v := .tuple #[.pointer none, .int .i64 3]) (by simp [results, Tryd.results13, go_sem]) rfl ⟨rfl, rfl⟩
  · have h1 : ¬ n < 1 := by omega
    go_enter Tryd.func13, Tryd.ntmps13
    go_wp2_with fail
    exact bodyPost_ret (v := .tuple #[.pointer none, .int .i64 3]) (by simp [results, Tryd.results13, go_sem]) rfl ⟨rfl, rfl⟩
end Go.Proofs.YthhbohpmbkdkeaaDoor
