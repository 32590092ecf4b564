/- The walks of the document's own sender (lamplighterref16). No condition but the bounds named. -/
import Derived.Test.YtlhpmnnbjkbahaaSe
namespace Go.Proofs.Ytlhpmnnbjkbahaa
open Go.RowKit

abbrev robj (C : Cf) (s : Sn) (f r : Bool) : Array Value := #[.int .i64 C.mf, .int .i64 C.b, .int .i64 C.c, .int .i64 C.t, .float .f64 C.F, .int .i64 s.pos, .int .i64 s.known, .bool f, .bool r, .int .i64 s.left, .int .i64 s.tries]
def RAt (b : Nat) (C : Cf) (s : Sn) (w : World) : Prop := w.heap[b]? = some (.cells (robj C s (decide (s.kind = 1)) (decide (s.kind = 2))) 66 (0, 0))
theorem RAt.mk {b : Nat} {C : Cf} {s : Sn} {w : World} {f r : Bool} (h : w.heap[b]? = some (.cells (robj C s f r) 66 (0, 0))) (hf : decide (s.kind = 1) = f) (hr : decide (s.kind = 2) = r) : RAt b C s w := by
  unfold RAt; rw [hf, hr]; exact h
theorem RAt.get {b : Nat} {C : Cf} {s : Sn} {w : World} (f r : Bool) (h : RAt b C s w) (hf : decide (s.kind = 1) = f) (hr : decide (s.kind = 2) = r) : w.heap[b]? = some (.cells (robj C s f r) 66 (0, 0)) := by
  unfold RAt at h; rw [hf, hr] at h; exact h

theorem roffer_ok (b : Nat) (C : Cf) (s : Sn) (n : Int) (w : World) (h1 : s.known ≤ n) (h2 : n ≤ 1099511627776) (ho : RAt b C s w) :
    Calls Try.prog 40 #[.pointer (some ⟨b, 0, none⟩), .int .i64 n] w fun e w' => e = .returned (.int .i64 0) ∧ RAt b C { s with known := n } w' ∧ Moved w w' (· = b) := by
  have c6 : w.cell? ⟨b, 6, none⟩ = some (.int .i64 s.known) := cell_of (i := 6) ho rfl
  have z6 := free_of (i := 6) ho
  have HO := Lib.hid ho
  clear ho
  go_enter Try.func40, Try.ntmps40
  go_wp2_with fail
  go_ret
  exact ⟨rfl, heap_setCell_same w b 6 _ 66 (.int .i64 n) HO.out, (Moved.refl w (· = b)).set (p := ⟨b, 6, none⟩) rfl _⟩
theorem roffer_bad (b : Nat) (C : Cf) (s : Sn) (n : Int) (w : World) (h1 : n < s.known ∨ 1099511627776 < n) (ho : RAt b C s w) :
    Calls Try.prog 40 #[.pointer (some ⟨b, 0, none⟩), .int .i64 n] w fun e w' => e = .returned (.int .i64 3) ∧ w = w' := by
  have c6 : w.cell? ⟨b, 6, none⟩ = some (.int .i64 s.known) := cell_of (i := 6) ho rfl
  clear ho
  by_cases h2 : n < s.known
  · clear h1
    go_enter Try.func40, Try.ntmps40
    go_wp2_with fail
    go_ret
    exact ⟨rfl, rfl⟩
  · have h3 : 1099511627776 < n := by omega
    clear h1
    go_enter Try.func40, Try.ntmps40
    go_wp2_with fail
    go_ret
    exact ⟨rfl, rfl⟩

theorem rpoll_ok (b : Nat) (C : Cf) (s : Sn) (w : World) (hk : s.kind = 0) (hp : s.pos < s.known) (ho : RAt b C s w) :
    Calls Try.prog 41 #[.pointer (some ⟨b, 0, none⟩)] w fun e w' => e = .returned (.tuple #[.int .i64 s.pos, .bool true]) ∧ RAt b C (s.sent C) w' ∧ Moved w w' (· = b) := by
  have ho := RAt.get false false ho (by simp [hk]) (by simp [hk])
  have c3 : w.cell? ⟨b, 3, none⟩ = some (.int .i64 C.t) := cell_of (i := 3) ho rfl
  have c5 : w.cell? ⟨b, 5, none⟩ = some (.int .i64 s.pos) := cell_of (i := 5) ho rfl
  have c6 : w.cell? ⟨b, 6, none⟩ = some (.int .i64 s.known) := cell_of (i := 6) ho rfl
  have c7 : w.cell? ⟨b, 7, none⟩ = some (.bool false) := cell_of (i := 7) ho rfl
  have c8 : w.cell? ⟨b, 8, none⟩ = some (.bool false) := cell_of (i := 8) ho rfl
  have c9 : w.cell? ⟨b, 9, none⟩ = some (.int .i64 s.left) := cell_of (i := 9) ho rfl
  have z7 := free_of (i := 7) ho
  have z9 := free_of (i := 9) ho
  have hd : decide (s.known ≤ s.pos) = false := by simp; omega
  have HO := Lib.hid ho
  clear ho hk
  go_enter Try.func41, Try.ntmps41
  go_wp2_with fail
  go_quiet (fail)
  go_wp2_with fail
  go_ret2
  have h1 := heap_setCell_same (w.drewN nq) b 7 _ 66 (.bool true) HO.out
  have h2 := heap_setCell_same _ b 9 _ 66 (.int .i64 C.t) h1
  exact ⟨rfl, RAt.mk (f := true) (r := false) h2 rfl rfl, ((((Moved.refl w (· = b)).drewN nq).set (p := ⟨b, 7, none⟩) rfl _).set (p := ⟨b, 9, none⟩) rfl _)⟩

theorem rpoll_no (b : Nat) (C : Cf) (s : Sn) (w : World) (h : s.kind = 1 ∨ s.kind = 2 ∨ (s.kind = 0 ∧ s.known ≤ s.pos)) (ho : RAt b C s w) :
    Calls Try.prog 41 #[.pointer (some ⟨b, 0, none⟩)] w fun e w' => e = .returned (.tuple #[.int .i64 0, .bool false]) ∧ RAt b C s w' ∧ Moved w w' (· = b) := by
  have c5 : w.cell? ⟨b, 5, none⟩ = some (.int .i64 s.pos) := cell_of (i := 5) ho rfl
  have c6 : w.cell? ⟨b, 6, none⟩ = some (.int .i64 s.known) := cell_of (i := 6) ho rfl
  have HO := Lib.hid ho
  rcases h with hk | hk | ⟨hk, hp⟩
  · have ho := RAt.get true false ho (by simp [hk]) (by simp [hk])
    have c7 : w.cell? ⟨b, 7, none⟩ = some (.bool true) := cell_of (i := 7) ho rfl
    have c8 : w.cell? ⟨b, 8, none⟩ = some (.bool false) := cell_of (i := 8) ho rfl
    clear ho hk
    go_enter Try.func41, Try.ntmps41
    go_wp2_with fail
    go_quiet (fail)
    go_wp2_with fail
    go_ret2
    exact ⟨rfl, HO.out, (Moved.refl w (· = b)).drewN nq⟩
  · have ho := RAt.get false true ho (by simp [hk]) (by simp [hk])
    have c7 : w.cell? ⟨b, 7, none⟩ = some (.bool false) := cell_of (i := 7) ho rfl
    have c8 : w.cell? ⟨b, 8, none⟩ = some (.bool true) := cell_of (i := 8) ho rfl
    clear ho hk
    go_enter Try.func41, Try.ntmps41
    go_wp2_with fail
    go_quiet (fail)
    go_wp2_with fail
    go_ret2
    exact ⟨rfl, HO.out, (Moved.refl w (· = b)).drewN nq⟩
  · have ho := RAt.get false false ho (by simp [hk]) (by simp [hk])
    have c7 : w.cell? ⟨b, 7, none⟩ = some (.bool false) := cell_of (i := 7) ho rfl
    have c8 : w.cell? ⟨b, 8, none⟩ = some (.bool false) := cell_of (i := 8) ho rfl
    have hd : decide (s.known ≤ s.pos) = true := by simp; omega
    clear ho hk
    go_enter Try.func41, Try.ntmps41
    go_wp2_with fail
    go_quiet (fail)
    go_wp2_with fail
    go_ret2
    exact ⟨rfl, HO.out, (Moved.refl w (· = b)).drewN nq⟩

theorem rfl_next (C : Cf) (hC : C.Ok) (k : Int) (hk : 0 ≤ k) (hk1 : k ≤ 1099511627776) (w : World) :
    Calls Try.prog 21 #[cfg C.mf C.b C.c C.t C.F, .int .i64 k] w fun e w' => e = .returned (.tuple #[.int .i64 (C.dl k), .int .i64 0]) ∧ Below w.heap.size w w' :=
  rnext_ok C.mf C.t C.b C.c k C.F w hC.b0 hC.b1 hC.c0 hC.c1 hk (by omega)

theorem keep6' {w w' : World} {b : Nat} {v0 v1 v2 v3 v4 v9 : Value} (h : Below w.heap.size w w') (hs : w.cell? ⟨b, 0, none⟩ = some v0 ∧ w.cell? ⟨b, 1, none⟩ = some v1 ∧ w.cell? ⟨b, 2, none⟩ = some v2 ∧ w.cell? ⟨b, 3, none⟩ = some v3 ∧ w.cell? ⟨b, 4, none⟩ = some v4 ∧ w.cell? ⟨b, 10, none⟩ = some v9) :
    w'.cell? ⟨b, 0, none⟩ = some v0 ∧ w'.cell? ⟨b, 1, none⟩ = some v1 ∧ w'.cell? ⟨b, 2, none⟩ = some v2 ∧ w'.cell? ⟨b, 3, none⟩ = some v3 ∧ w'.cell? ⟨b, 4, none⟩ = some v4 ∧ w'.cell? ⟨b, 10, none⟩ = some v9 := by
  have hb : b < w.heap.size := World.block_lt_of_cell? w _ hs.1
  have e : ∀ i, w'.cell? ⟨b, i, none⟩ = w.cell? ⟨b, i, none⟩ := fun i => h.cell (p := ⟨b, i, none⟩) hb
  rw [e, e, e, e, e, e]
  exact hs

theorem rest_kind (s : Sn) (n : Int) (hn : 0 ≤ n) : decide ((s.rest n).kind = 1) = false ∧ decide ((s.rest n).kind = 2) = decide (0 < n) := by
  unfold Sn.rest
  by_cases h : n = 0
  · rw [if_pos h]
    subst h
    exact ⟨rfl, rfl⟩
  · rw [if_neg h]
    exact ⟨rfl, (decide_eq_true (by omega : 0 < n)).symm⟩

theorem rest_cells (C : Cf) (s : Sn) (n : Int) (f r : Bool) : robj C (s.rest n) f r = robj C { s with left := n } f r := by
  unfold Sn.rest
  by_cases h : n = 0
  · rw [if_pos h]; subst h; rfl
  · rw [if_neg h]

set_option maxHeartbeats 1000000 in
theorem rfail_run (b : Nat) (C : Cf) (s : Sn) (w : World) (hC : C.Ok) (hs : s.Ok C) (ho : RAt b C s w) :
    Calls Try.prog 54 #[.pointer (some ⟨b, 0, none⟩)] w fun e w' => e = .returned (.tuple #[]) ∧ RAt b C (s.fail C) w' ∧ Moved w w' (· = b) := by
  unfold RAt at ho
  have c0 : w.cell? ⟨b, 0, none⟩ = some (.int .i64 C.mf) := cell_of (i := 0) ho rfl
  have c1 : w.cell? ⟨b, 1, none⟩ = some (.int .i64 C.b) := cell_of (i := 1) ho rfl
  have c2 : w.cell? ⟨b, 2, none⟩ = some (.int .i64 C.c) := cell_of (i := 2) ho rfl
  have c3 : w.cell? ⟨b, 3, none⟩ = some (.int .i64 C.t) := cell_of (i := 3) ho rfl
  have c4 : w.cell? ⟨b, 4, none⟩ = some (.float .f64 C.F) := cell_of (i := 4) ho rfl
  have c9 : w.cell? ⟨b, 10, none⟩ = some (.int .i64 s.tries) := cell_of (i := 10) ho rfl
  have HO := Lib.hid ho
  have t0 := hs.t0
  have t1 := hs.t1
  have HC := Lib.hid hC
  clear ho hC
  go_enter Try.func54, Try.ntmps54
  go_wp2_with fail
  go_region_held3 (fun w' => w'.cell? ⟨b, 0, none⟩ = some (.int .i64 C.mf) ∧ w'.cell? ⟨b, 1, none⟩ = some (.int .i64 C.b) ∧ w'.cell? ⟨b, 2, none⟩ = some (.int .i64 C.c) ∧ w'.cell? ⟨b, 3, none⟩ = some (.int .i64 C.t) ∧ w'.cell? ⟨b, 4, none⟩ = some (.float .f64 C.F) ∧ w'.cell? ⟨b, 10, none⟩ = some (.int .i64 s.tries)) (first | go_keep | exact keep6' hq (by assumption))
    (first | (go_at_call 21; refine (rfl_next C HC.out s.tries t0 t1 _).mono ?_; rintro e w1 ⟨rfl, hq⟩))
  have hb : b < w.heap.size := World.block_lt_of_cell? w _ c0
  have hm : Moved w w1 (· = b) := (((Moved.refl w (· = b)).drewN 1).trans (Moved.of_below hq) (fun _ _ h => h))
  have h1 := (hq.block b hb).trans HO.out
  replace h1 : w1.heap[b]? = some (.cells (robj C s (decide (s.kind = 1)) (decide (s.kind = 2))) 66 (0, 0)) := h1
  have hD := HC.out.dl s.tries
  obtain ⟨D, hDe⟩ : ∃ D, D = C.dl s.tries := ⟨_, rfl⟩
  rw [← hDe] at hD ⊢
  have HD := Lib.hid hDe
  have d7 : w1.cell? ⟨b, 7, none⟩ = some (.bool (decide (s.kind = 1))) := cell_of (i := 7) h1 rfl
  have d8 : w1.cell? ⟨b, 8, none⟩ = some (.bool (decide (s.kind = 2))) := cell_of (i := 8) h1 rfl
  have d9 : w1.cell? ⟨b, 9, none⟩ = some (.int .i64 s.left) := cell_of (i := 9) h1 rfl
  have d10 : w1.cell? ⟨b, 10, none⟩ = some (.int .i64 s.tries) := cell_of (i := 10) h1 rfl
  have z7 := free_of (i := 7) h1
  have z8 := free_of (i := 8) h1
  have z9 := free_of (i := 9) h1
  have z10 := free_of (i := 10) h1
  have H1 := Lib.hid (And.intro hm h1)
  have HS := Lib.hid hs
  clear hm h1 hq c0 c1 c2 c3 c4 c9 hs hDe
  have hrk := rest_kind { s with tries := up s.tries } D hD.1
  have HRK := Lib.hid hrk
  clear hrk
  by_cases hlt : s.tries < 1099511627776
  · go_wp2_with fail
    have h2 := heap_setCell_same w1 b 7 _ 66 (.bool false) H1.out.2
    have h3 := heap_setCell_same _ b 8 _ 66 (.bool (decide (0 < D))) h2
    have h4 := heap_setCell_same _ b 9 _ 66 (.int .i64 D) h3
    have h5 := heap_setCell_same _ b 10 _ 66 (.int .i64 (s.tries + 1)) h4
    refine ⟨rfl, .tuple #[], results_none rfl _ _ _, rfl, ?_, ((((H1.out.1.set (p := ⟨b, 7, none⟩) rfl _).set (p := ⟨b, 8, none⟩) rfl _).set (p := ⟨b, 9, none⟩) rfl _).set (p := ⟨b, 10, none⟩) rfl _)⟩
    rw [Sn.fail, ← HD.out]
    refine RAt.mk (f := false) (r := decide (0 < D)) ?_ HRK.out.1 HRK.out.2
    rw [rest_cells, up, if_pos hlt]
    exact h5
  · go_wp2_with fail
    have h2 := heap_setCell_same w1 b 7 _ 66 (.bool false) H1.out.2
    have h3 := heap_setCell_same _ b 8 _ 66 (.bool (decide (0 < D))) h2
    have h4 := heap_setCell_same _ b 9 _ 66 (.int .i64 D) h3
    refine ⟨rfl, .tuple #[], results_none rfl _ _ _, rfl, ?_, (((H1.out.1.set (p := ⟨b, 7, none⟩) rfl _).set (p := ⟨b, 8, none⟩) rfl _).set (p := ⟨b, 9, none⟩) rfl _)⟩
    rw [Sn.fail, ← HD.out]
    refine RAt.mk (f := false) (r := decide (0 < D)) ?_ HRK.out.1 HRK.out.2
    have e : s.tries = 1099511627776 := by have := HS.out.t1; omega
    rw [rest_cells, up, if_neg (by omega), ← e]
    exact h4

theorem ranswer_idle (b : Nat) (C : Cf) (s : Sn) (a : Bool) (w : World) (hk : s.kind ≠ 1) (ho : RAt b C s w) :
    Calls Try.prog 42 #[.pointer (some ⟨b, 0, none⟩), .bool a] w fun e w' => e = .returned (.bool false) ∧ w = w' := by
  have c7 : w.cell? ⟨b, 7, none⟩ = some (.bool false) := by have := cell_of (i := 7) ho rfl; rw [this, decide_eq_false hk]; rfl
  clear ho hk
  go_enter Try.func42, Try.ntmps42
  go_wp2_with fail
  go_ret
  exact ⟨rfl, rfl⟩
theorem ranswer_fail (b : Nat) (C : Cf) (s : Sn) (w : World) (hC : C.Ok) (hs : s.Ok C) (hk : s.kind = 1) (ho : RAt b C s w) :
    Calls Try.prog 42 #[.pointer (some ⟨b, 0, none⟩), .bool false] w fun e w' => e = .returned (.bool false) ∧ RAt b C (s.fail C) w' ∧ Moved w w' (· = b) := by
  have c7 : w.cell? ⟨b, 7, none⟩ = some (.bool true) := by have := cell_of (i := 7) ho rfl; rw [this, decide_eq_true hk]; rfl
  have HO := Lib.hid ho
  have HC := Lib.hid hC
  have HS := Lib.hid hs
  clear ho hk hC hs
  go_enter Try.func42, Try.ntmps42
  go_wp2_with (first | (go_at_call 54; refine (rfail_run b C s _ HC.out HS.out HO.out).mono ?_; rintro e w1 ⟨rfl, h1, h2⟩; have HE := Lib.hid (And.intro h1 h2); clear h1 h2))
  go_ret
  exact ⟨rfl, HE.out⟩
theorem ranswer_ok (b : Nat) (C : Cf) (s : Sn) (w : World) (hs : s.Ok C) (hk : s.kind = 1) (ho : RAt b C s w) :
    Calls Try.prog 42 #[.pointer (some ⟨b, 0, none⟩), .bool true] w fun e w' => e = .returned (.bool true) ∧ RAt b C s.passed w' ∧ Moved w w' (· = b) := by
  have ho := RAt.get true false ho (by simp [hk]) (by simp [hk])
  have c5 : w.cell? ⟨b, 5, none⟩ = some (.int .i64 s.pos) := cell_of (i := 5) ho rfl
  have c7 : w.cell? ⟨b, 7, none⟩ = some (.bool true) := cell_of (i := 7) ho rfl
  have c9 : w.cell? ⟨b, 9, none⟩ = some (.int .i64 s.left) := cell_of (i := 9) ho rfl
  have c10 : w.cell? ⟨b, 10, none⟩ = some (.int .i64 s.tries) := cell_of (i := 10) ho rfl
  have z5 := free_of (i := 5) ho
  have z7 := free_of (i := 7) ho
  have z9 := free_of (i := 9) ho
  have z10 := free_of (i := 10) ho
  have p0 := hs.p0
  have p1 : s.pos ≤ 1099511627776 := by have := hs.p1; have := hs.k1; omega
  have HO := Lib.hid ho
  clear ho hk hs
  go_enter Try.func42, Try.ntmps42
  go_wp2_with fail
  go_ret
  have h1 := heap_setCell_same w b 7 _ 66 (.bool false) HO.out
  have h2 := heap_setCell_same _ b 9 _ 66 (.int .i64 0) h1
  have h3 := heap_setCell_same _ b 10 _ 66 (.int .i64 0) h2
  have h4 := heap_setCell_same _ b 5 _ 66 (.int .i64 (s.pos + 1)) h3
  exact ⟨rfl, RAt.mk (f := false) (r := false) h4 rfl rfl, ((((Moved.refl w (· = b)).set (p := ⟨b, 7, none⟩) rfl _).set (p := ⟨b, 9, none⟩) rfl _).set (p := ⟨b, 10, none⟩) rfl _).set (p := ⟨b, 5, none⟩) rfl _⟩

theorem rdrop_idle (b : Nat) (C : Cf) (s : Sn) (w : World) (hk : s.kind ≠ 1) (ho : RAt b C s w) :
    Calls Try.prog 44 #[.pointer (some ⟨b, 0, none⟩)] w fun e w' => e = .returned (.tuple #[]) ∧ w = w' := by
  have c7 : w.cell? ⟨b, 7, none⟩ = some (.bool false) := by have := cell_of (i := 7) ho rfl; rw [this, decide_eq_false hk]; rfl
  clear ho hk
  go_enter Try.func44, Try.ntmps44
  go_wp2_with fail
  exact ⟨rfl, .tuple #[], results_none rfl _ _ _, rfl, rfl⟩
theorem rdrop_fail (b : Nat) (C : Cf) (s : Sn) (w : World) (hC : C.Ok) (hs : s.Ok C) (hk : s.kind = 1) (ho : RAt b C s w) :
    Calls Try.prog 44 #[.pointer (some ⟨b, 0, none⟩)] w fun e w' => e = .returned (.tuple #[]) ∧ RAt b C (s.fail C) w' ∧ Moved w w' (· = b) := by
  have c7 : w.cell? ⟨b, 7, none⟩ = some (.bool true) := by have := cell_of (i := 7) ho rfl; rw [this, decide_eq_true hk]; rfl
  have HO := Lib.hid ho
  have HC := Lib.hid hC
  have HS := Lib.hid hs
  clear ho hk hC hs
  go_enter Try.func44, Try.ntmps44
  go_wp2_with (first | (go_at_call 54; refine (rfail_run b C s _ HC.out HS.out HO.out).mono ?_; rintro e w1 ⟨rfl, h1, h2⟩; have HE := Lib.hid (And.intro h1 h2); clear h1 h2))
  exact ⟨rfl, .tuple #[], results_none rfl _ _ _, rfl, HE.out⟩

theorem rtick_bad (b : Nat) (n : Int) (w : World) (hn : n < 0) :
    Calls Try.prog 43 #[.pointer (some ⟨b, 0, none⟩), .int .i64 n] w fun e w' => e = .returned (.int .i64 3) ∧ w = w' := by
  go_enter Try.func43, Try.ntmps43
  go_wp2_with fail
  go_ret
  exact ⟨rfl, rfl⟩
theorem rtick_fly (b : Nat) (C : Cf) (s : Sn) (n : Int) (w : World) (hs : s.Ok C) (hn : 0 ≤ n) (hk : s.kind = 1) (hl : n < s.left) (ho : RAt b C s w) :
    Calls Try.prog 43 #[.pointer (some ⟨b, 0, none⟩), .int .i64 n] w fun e w' => e = .returned (.int .i64 0) ∧ RAt b C { s with left := s.left - n } w' ∧ Moved w w' (· = b) := by
  have hg := RAt.get true false ho (by simp [hk]) (by simp [hk])
  have c7 : w.cell? ⟨b, 7, none⟩ = some (.bool true) := cell_of (i := 7) hg rfl
  have c9 : w.cell? ⟨b, 9, none⟩ = some (.int .i64 s.left) := cell_of (i := 9) hg rfl
  have z9 := free_of (i := 9) hg
  have l1 : s.left ≤ 1099511627776 := by rcases hs.form with h | h | h <;> omega
  have HO := Lib.hid hg
  have HK := Lib.hid hk
  clear ho hk hs hg
  go_enter Try.func43, Try.ntmps43
  go_wp2_with fail
  go_ret
  exact ⟨rfl, RAt.mk (f := true) (r := false) (heap_setCell_same w b 9 _ 66 (.int .i64 (s.left - n)) HO.out) (by simp [HK.out]) (by simp [HK.out]), (Moved.refl w (· = b)).set (p := ⟨b, 9, none⟩) rfl _⟩
theorem rtick_idle (b : Nat) (C : Cf) (s : Sn) (n : Int) (w : World) (hn : 0 ≤ n) (hk : s.kind = 0) (ho : RAt b C s w) :
    Calls Try.prog 43 #[.pointer (some ⟨b, 0, none⟩), .int .i64 n] w fun e w' => e = .returned (.int .i64 0) ∧ w = w' := by
  have hg := RAt.get false false ho (by simp [hk]) (by simp [hk])
  have c7 : w.cell? ⟨b, 7, none⟩ = some (.bool false) := cell_of (i := 7) hg rfl
  have c8 : w.cell? ⟨b, 8, none⟩ = some (.bool false) := cell_of (i := 8) hg rfl
  clear ho hk hg
  go_enter Try.func43, Try.ntmps43
  go_wp2_with fail
  go_ret
  exact ⟨rfl, rfl⟩

theorem RAt.idle {b : Nat} {C : Cf} {s : Sn} {w : World} (h : RAt b C s w) (hk : s.kind = 2) : RAt b C s.idle ((w.setCell ⟨b, 8, none⟩ (.bool false)).setCell ⟨b, 9, none⟩ (.int .i64 0)) := by
  have hg := RAt.get false true h (by simp [hk]) (by simp [hk])
  have h1 := heap_setCell_same w b 8 _ 66 (.bool false) hg
  have h2 := heap_setCell_same _ b 9 _ 66 (.int .i64 0) h1
  exact RAt.mk (f := false) (r := false) h2 rfl rfl
theorem RAt.less {b : Nat} {C : Cf} {s : Sn} {w : World} (h : RAt b C s w) (hk : s.kind = 2) (n : Int) : RAt b C { s with kind := 2, left := n } (w.setCell ⟨b, 9, none⟩ (.int .i64 n)) := by
  have hg := RAt.get false true h (by simp [hk]) (by simp [hk])
  exact RAt.mk (f := false) (r := true) (heap_setCell_same w b 9 _ 66 (.int .i64 n) hg) rfl rfl

theorem rtick_rest (b : Nat) (C : Cf) (s : Sn) (n : Int) (w : World) (hs : s.Ok C) (hn : 0 ≤ n) (hn2 : n ≤ 9223372036854775807) (hk : s.kind = 2) (ho : RAt b C s w) :
    Calls Try.prog 43 #[.pointer (some ⟨b, 0, none⟩), .int .i64 n] w fun e w' => e = .returned (.int .i64 0) ∧ RAt b C (s.wait n) w' ∧ Moved w w' (· = b) := by
  have hg := RAt.get false true ho (by simp [hk]) (by simp [hk])
  have c7 : w.cell? ⟨b, 7, none⟩ = some (.bool false) := cell_of (i := 7) hg rfl
  have c8 : w.cell? ⟨b, 8, none⟩ = some (.bool true) := cell_of (i := 8) hg rfl
  have c9 : w.cell? ⟨b, 9, none⟩ = some (.int .i64 s.left) := cell_of (i := 9) hg rfl
  have z8 := free_of (i := 8) hg
  have z9 := free_of (i := 9) hg
  have l0 : 1 ≤ s.left := by rcases hs.form with h | h | h <;> omega
  have l1 : s.left ≤ 1099511627776 := by rcases hs.form with h | h | h <;> omega
  have HO := Lib.hid ho
  have HK := Lib.hid hk
  clear ho hk hs hg
  by_cases hlt : n < s.left
  · have HW : Hid (s.wait n = { s with kind := 2, left := s.left - n }) := Lib.hid (by rw [Sn.wait, if_pos HK.out, if_pos (by omega), Sn.rest, if_neg (by omega)])
    go_enter Try.func43, Try.ntmps43
    go_wp2_with fail
    go_ret
    refine ⟨rfl, ?_, (Moved.refl w (· = b)).set (p := ⟨b, 9, none⟩) rfl _⟩
    rw [HW.out]
    exact HO.out.less HK.out _
  · have HW : Hid (s.wait n = s.idle) := Lib.hid (by rw [Sn.wait, if_pos HK.out, if_neg (by omega), Sn.rest, if_pos rfl])
    go_enter Try.func43, Try.ntmps43
    go_wp2_with fail
    go_ret
    refine ⟨rfl, ?_, ((Moved.refl w (· = b)).set (p := ⟨b, 8, none⟩) rfl _).set (p := ⟨b, 9, none⟩) rfl _⟩
    rw [HW.out]
    exact HO.out.idle HK.out

theorem rtick_over (b : Nat) (C : Cf) (s : Sn) (n : Int) (w : World) (hC : C.Ok) (hs : s.Ok C) (hn : 0 ≤ n) (hn2 : n ≤ 9223372036854775807) (hk : s.kind = 1) (hl : s.left ≤ n) (ho : RAt b C s w) :
    Calls Try.prog 43 #[.pointer (some ⟨b, 0, none⟩), .int .i64 n] w fun e w' => e = .returned (.int .i64 0) ∧ RAt b C ((s.fail C).wait (n - s.left)) w' ∧ Moved w w' (· = b) := by
  have hg := RAt.get true false ho (by simp [hk]) (by simp [hk])
  have c7 : w.cell? ⟨b, 7, none⟩ = some (.bool true) := cell_of (i := 7) hg rfl
  have c9 : w.cell? ⟨b, 9, none⟩ = some (.int .i64 s.left) := cell_of (i := 9) hg rfl
  have l0 : 1 ≤ s.left := by rcases hs.form with h | h | h <;> omega
  have l1 : s.left ≤ 1099511627776 := by rcases hs.form with h | h | h <;> omega
  have hf := fail_kind C s hC
  have HO := Lib.hid ho
  have HC := Lib.hid hC
  have HS := Lib.hid hs
  clear ho hk hs hC hg
  go_enter Try.func43, Try.ntmps43
  go_wp2_with fail
  refine (rfail_run b C s _ HC.out HS.out HO.out).mono ?_
  rintro e w1 ⟨rfl, h1, h2⟩
  obtain ⟨T, hT⟩ : ∃ T, T = s.fail C := ⟨_, rfl⟩
  rw [← hT] at h1 hf
  have HT := Lib.hid hT
  clear hT c7 c9
  rcases hf with ⟨hk, hl0⟩ | ⟨hk, h3, h4⟩
  · have hg := RAt.get false false h1 (by simp [hk]) (by simp [hk])
    have d8 : w1.cell? ⟨b, 8, none⟩ = some (.bool false) := cell_of (i := 8) hg rfl
    have HE : Hid (RAt b C (T.wait (n - s.left)) w1 ∧ Moved w w1 (· = b)) := Lib.hid ⟨by rw [Sn.wait, if_neg (by omega)]; exact h1, h2⟩
    clear h1 h2 hk hl0 hg
    go_wp2_with fail
    go_ret
    exact ⟨rfl, by rw [← HT.out]; exact HE.out⟩
  · have hg := RAt.get false true h1 (by simp [hk]) (by simp [hk])
    have d8 : w1.cell? ⟨b, 8, none⟩ = some (.bool true) := cell_of (i := 8) hg rfl
    have d9 : w1.cell? ⟨b, 9, none⟩ = some (.int .i64 T.left) := cell_of (i := 9) hg rfl
    have z8 := free_of (i := 8) hg
    have z9 := free_of (i := 9) hg
    have HK := Lib.hid hk
    have H1 := Lib.hid h1
    have H2 := Lib.hid h2
    clear h1 h2 hk hg
    by_cases hlt : n - s.left < T.left
    · have HW : Hid (T.wait (n - s.left) = { T with kind := 2, left := T.left - (n - s.left) }) := Lib.hid (by rw [Sn.wait, if_pos HK.out, if_pos (by omega), Sn.rest, if_neg (by omega)])
      go_wp2_with fail
      go_ret
      exact ⟨rfl, by rw [← HT.out, HW.out]; exact H1.out.less HK.out _, H2.out.set (p := ⟨b, 9, none⟩) rfl _⟩
    · have HW : Hid (T.wait (n - s.left) = T.idle) := Lib.hid (by rw [Sn.wait, if_pos HK.out, if_neg (by omega), Sn.rest, if_pos rfl])
      go_wp2_with fail
      go_ret
      exact ⟨rfl, by rw [← HT.out, HW.out]; exact H1.out.idle HK.out, (H2.out.set (p := ⟨b, 8, none⟩) rfl _).set (p := ⟨b, 9, none⟩) rfl _⟩

theorem rtick_any (b : Nat) (C : Cf) (s : Sn) (n : Int) (w : World) (hC : C.Ok) (hs : s.Ok C) (hn : 0 ≤ n) (hn2 : n ≤ 9223372036854775807) (ho : RAt b C s w) :
    Calls Try.prog 43 #[.pointer (some ⟨b, 0, none⟩), .int .i64 n] w fun e w' => e = .returned (.int .i64 0) ∧ RAt b C (s.tick C n) w' ∧ Moved w w' (· = b) := by
  rcases hs.form with ⟨hk, hl⟩ | ⟨hk, _, _, _⟩ | ⟨hk, _, _⟩
  · refine (rtick_idle b C s n w hn hk ho).mono ?_
    rintro e w' ⟨rfl, rfl⟩
    exact ⟨rfl, by rw [Sn.tick, if_neg (by omega), Sn.wait, if_neg (by omega)]; exact ho, Moved.refl _ _⟩
  · by_cases hlt : n < s.left
    · rw [Sn.tick, if_pos hk, if_pos hlt]
      exact rtick_fly b C s n w hs hn hk hlt ho
    · rw [Sn.tick, if_pos hk, if_neg hlt]
      exact rtick_over b C s n w hC hs hn hn2 hk (by omega) ho
  · rw [Sn.tick, if_neg (by omega)]
    exact rtick_rest b C s n w hs hn hn2 hk ho
end Go.Proofs.Ytlhpmnnbjkbahaa
