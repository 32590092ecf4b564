/- The sender as a plain state, and the walks of its inner methods. No condition but the bounds named. -/
import Derived.Test.YtlhpmnnbjkbahaaDr
import Derived.Deep.RegionHeld3
namespace Go.Proofs.Ytlhpmnnbjkbahaa
open Go.RowKit

theorem cell_of {w : World} {b i : Nat} {cs : Array Value} {t : TypeId} {v : Value} (h : w.heap[b]? = some (.cells cs t (0, 0))) (hi : cs[i]? = some v) : w.cell? ⟨b, i, none⟩ = some v := by
  simp [World.cell?, h, hi]
theorem free_of {w : World} {b i : Nat} {cs : Array Value} {t : TypeId} (h : w.heap[b]? = some (.cells cs t (0, 0))) : w.frozen? ⟨b, i, none⟩ = false := by
  simp [World.frozen?, h]

/-- what may change: the blocks named -/
structure Moved (w w' : World) (S : Nat → Prop) : Prop where
  os : w'.os = w.os
  tape : w'.tape = w.tape
  output : w'.output = w.output
  size : w.heap.size ≤ w'.heap.size
  block : ∀ k, k < w.heap.size → ¬ S k → w'.heap[k]? = w.heap[k]?

theorem Moved.refl (w : World) (S : Nat → Prop) : Moved w w S := ⟨rfl, rfl, rfl, Nat.le_refl _, fun _ _ _ => rfl⟩
theorem Moved.trans {a b c : World} {S T : Nat → Prop} (h : Moved a b S) (k : Moved b c T) (hT : ∀ i, i < a.heap.size → T i → S i) : Moved a c S :=
  ⟨k.os.trans h.os, k.tape.trans h.tape, k.output.trans h.output, Nat.le_trans h.size k.size, fun i h1 h2 => (k.block i (Nat.lt_of_lt_of_le h1 h.size) (fun e => h2 (hT i h1 e))).trans (h.block i h1 h2)⟩
theorem Moved.set {a b : World} {S : Nat → Prop} (h : Moved a b S) {p : Addr} (hp : S p.block) (u : Value) : Moved a (b.setCell p u) S :=
  ⟨h.os, h.tape, h.output, by simpa using h.size, fun k h1 h2 => (Below.heap_setCell _ _ _ _ (fun e => h2 (by rw [e]; exact hp))).trans (h.block k h1 h2)⟩
theorem Moved.of_below {w w' : World} {S : Nat → Prop} (h : Below w.heap.size w w') : Moved w w' S := ⟨h.os, h.tape, h.output, h.size, fun k hk _ => h.block k hk⟩
theorem Moved.weaken {w w' : World} {S T : Nat → Prop} (h : Moved w w' S) (hST : ∀ k, S k → T k) : Moved w w' T := ⟨h.os, h.tape, h.output, h.size, fun k h1 h2 => h.block k h1 (fun e => h2 (hST k e))⟩
theorem Moved.drewN {w w' : World} {S : Nat → Prop} (h : Moved w w' S) (n : Nat) : Moved w (w'.drewN n) S := ⟨h.os, h.tape, h.output, h.size, h.block⟩
theorem Moved.below {w w1 w2 : World} {S : Nat → Prop} (h : Below w.heap.size w w1) (k : Moved w1 w2 S) (hS : ∀ i, S i → w.heap.size ≤ i) : Below w.heap.size w w2 :=
  ⟨k.os.trans h.os, k.tape.trans h.tape, k.output.trans h.output, Nat.le_trans h.size k.size, fun i hi => (k.block i (Nat.lt_of_lt_of_le hi h.size) (fun e => by have := hS i e; omega)).trans (h.block i hi)⟩

/-- a config -/
structure Cf where
  mf : Int
  b : Int
  c : Int
  t : Int
  F : Nat
/-- where a sender stands: kind 0 idle, 1 in flight, 2 resting -/
structure Sn where
  pos : Int
  known : Int
  kind : Int
  left : Int
  tries : Int

/-- how long is waited -/
noncomputable def Cf.dl (C : Cf) (k : Int) : Int := Fl.next C.b.toNat C.c.toNat C.F k.toNat
structure Cf.Ok (C : Cf) : Prop where
  b0 : 0 ≤ C.b
  b1 : C.b ≤ 1099511627776
  c0 : 0 ≤ C.c
  c1 : C.c ≤ 1099511627776
  t0 : 1 ≤ C.t
  t1 : C.t ≤ 1099511627776
theorem Cf.Ok.dl {C : Cf} (h : C.Ok) (k : Int) : 0 ≤ C.dl k ∧ C.dl k ≤ 1099511627776 := by
  have := Fl.next_bounds (b := C.b.toNat) (c := C.c.toNat) (F := C.F) (by have := h.c1; omega) k.toNat
  have h0 := h.c0
  have h1 := h.c1
  unfold Cf.dl
  omega

def Sn.idle (s : Sn) : Sn := { s with kind := 0, left := 0 }
def Sn.rest (s : Sn) (n : Int) : Sn := if n = 0 then s.idle else { s with kind := 2, left := n }
def up (k : Int) : Int := if k < 1099511627776 then k + 1 else 1099511627776
noncomputable def Sn.fail (C : Cf) (s : Sn) : Sn := Sn.rest { s with tries := up s.tries } (C.dl s.tries)

structure Sn.Ok (C : Cf) (s : Sn) : Prop where
  p0 : 0 ≤ s.pos
  p1 : s.pos ≤ s.known
  k1 : s.known ≤ 1099511627776
  t0 : 0 ≤ s.tries
  t1 : s.tries ≤ 1099511627776
  form : (s.kind = 0 ∧ s.left = 0) ∨ (s.kind = 1 ∧ 1 ≤ s.left ∧ s.left ≤ 1099511627776 ∧ s.pos < s.known) ∨ (s.kind = 2 ∧ 1 ≤ s.left ∧ s.left ≤ 1099511627776)

abbrev sobj (C : Cf) (s : Sn) : Array Value := #[.int .i64 C.mf, .int .i64 C.b, .int .i64 C.c, .int .i64 C.t, .float .f64 C.F, .int .i64 s.pos, .int .i64 s.known, .int .i64 s.kind, .int .i64 s.left, .int .i64 s.tries]
def SAt (b : Nat) (C : Cf) (s : Sn) (w : World) : Prop := w.heap[b]? = some (.cells (sobj C s) 82 (0, 0))

set_option maxHeartbeats 1000000 in
theorem rest_run (b : Nat) (C : Cf) (s : Sn) (n : Int) (w : World) (ho : SAt b C s w) :
    Calls Try.prog 53 #[.pointer (some ⟨b, 0, none⟩), .int .i64 n] w fun e w' => e = .returned (.tuple #[]) ∧ SAt b C (s.rest n) w' ∧ Moved w w' (· = b) := by
  unfold SAt at ho
  have c7 : w.cell? ⟨b, 7, none⟩ = some (.int .i64 s.kind) := cell_of (i := 7) ho rfl
  have c8 : w.cell? ⟨b, 8, none⟩ = some (.int .i64 s.left) := cell_of (i := 8) ho rfl
  have z7 := free_of (i := 7) ho
  have z8 := free_of (i := 8) ho
  have HO := Lib.hid ho
  clear ho
  by_cases hn : n = 0
  · subst hn
    go_enter Try.func53, Try.ntmps53
    go_wp2_with fail
    have h1 := heap_setCell_same w b 7 _ 82 (.int .i64 2) HO.out
    have h2 := heap_setCell_same _ b 8 _ 82 (.int .i64 0) h1
    have h3 := heap_setCell_same _ b 7 _ 82 (.int .i64 0) h2
    have h4 := heap_setCell_same _ b 8 _ 82 (.int .i64 0) h3
    exact ⟨rfl, .tuple #[], results_none rfl _ _ _, rfl, h4, ((((Moved.refl w (· = b)).set (p := ⟨b, 7, none⟩) rfl _).set (p := ⟨b, 8, none⟩) rfl _).set (p := ⟨b, 7, none⟩) rfl _).set (p := ⟨b, 8, none⟩) rfl _⟩
  · have hnb : (n == 0) = false := by simpa using hn
    go_enter Try.func53, Try.ntmps53
    go_wp2_with fail
    have h1 := heap_setCell_same w b 7 _ 82 (.int .i64 2) HO.out
    have h2 := heap_setCell_same _ b 8 _ 82 (.int .i64 n) h1
    refine ⟨rfl, .tuple #[], results_none rfl _ _ _, rfl, ?_, ((Moved.refl w (· = b)).set (p := ⟨b, 7, none⟩) rfl _).set (p := ⟨b, 8, none⟩) rfl _⟩
    rw [Sn.rest, if_neg hn]
    exact h2

theorem fl_next (C : Cf) (hC : C.Ok) (k : Int) (hk : 0 ≤ k) (hk1 : k ≤ 1099511627776) (w : World) :
    Calls Try.prog 17 #[cfg C.mf C.b C.c C.t C.F, .int .i64 k] w fun e w' => e = .returned (.tuple #[.int .i64 (C.dl k), .int .i64 0]) ∧ Below w.heap.size w w' :=
  next_ok C.mf C.t C.b C.c k C.F w hC.b0 hC.b1 hC.c0 hC.c1 hk (by omega)

theorem keep6 {w w' : World} {b : Nat} {v0 v1 v2 v3 v4 v9 : Value} (h : Below w.heap.size w w') (hs : w.cell? ⟨b, 0, none⟩ = some v0 ∧ w.cell? ⟨b, 1, none⟩ = some v1 ∧ w.cell? ⟨b, 2, none⟩ = some v2 ∧ w.cell? ⟨b, 3, none⟩ = some v3 ∧ w.cell? ⟨b, 4, none⟩ = some v4 ∧ w.cell? ⟨b, 9, none⟩ = some v9) :
    w'.cell? ⟨b, 0, none⟩ = some v0 ∧ w'.cell? ⟨b, 1, none⟩ = some v1 ∧ w'.cell? ⟨b, 2, none⟩ = some v2 ∧ w'.cell? ⟨b, 3, none⟩ = some v3 ∧ w'.cell? ⟨b, 4, none⟩ = some v4 ∧ w'.cell? ⟨b, 9, none⟩ = some v9 := by
  have hb : b < w.heap.size := World.block_lt_of_cell? w _ hs.1
  have e : ∀ i, w'.cell? ⟨b, i, none⟩ = w.cell? ⟨b, i, none⟩ := fun i => h.cell (p := ⟨b, i, none⟩) hb
  rw [e, e, e, e, e, e]
  exact hs

set_option maxHeartbeats 1000000 in
theorem fail_run (b : Nat) (C : Cf) (s : Sn) (w : World) (hC : C.Ok) (hs : s.Ok C) (ho : SAt b C s w) :
    Calls Try.prog 51 #[.pointer (some ⟨b, 0, none⟩)] w fun e w' => e = .returned (.tuple #[]) ∧ SAt b C (s.fail C) w' ∧ Moved w w' (· = b) := by
  unfold SAt at ho
  have c0 : w.cell? ⟨b, 0, none⟩ = some (.int .i64 C.mf) := cell_of (i := 0) ho rfl
  have c1 : w.cell? ⟨b, 1, none⟩ = some (.int .i64 C.b) := cell_of (i := 1) ho rfl
  have c2 : w.cell? ⟨b, 2, none⟩ = some (.int .i64 C.c) := cell_of (i := 2) ho rfl
  have c3 : w.cell? ⟨b, 3, none⟩ = some (.int .i64 C.t) := cell_of (i := 3) ho rfl
  have c4 : w.cell? ⟨b, 4, none⟩ = some (.float .f64 C.F) := cell_of (i := 4) ho rfl
  have c9 : w.cell? ⟨b, 9, none⟩ = some (.int .i64 s.tries) := cell_of (i := 9) ho rfl
  have HO := Lib.hid ho
  have t0 := hs.t0
  have t1 := hs.t1
  have HC := Lib.hid hC
  clear ho hC
  go_enter Try.func51, Try.ntmps51
  go_wp2_with fail
  go_region_held3 (fun w' => w'.cell? ⟨b, 0, none⟩ = some (.int .i64 C.mf) ∧ w'.cell? ⟨b, 1, none⟩ = some (.int .i64 C.b) ∧ w'.cell? ⟨b, 2, none⟩ = some (.int .i64 C.c) ∧ w'.cell? ⟨b, 3, none⟩ = some (.int .i64 C.t) ∧ w'.cell? ⟨b, 4, none⟩ = some (.float .f64 C.F) ∧ w'.cell? ⟨b, 9, none⟩ = some (.int .i64 s.tries)) (first | go_keep | exact keep6 hq (by assumption))
    (first | (go_at_call 17; refine (fl_next C HC.out s.tries t0 t1 _).mono ?_; rintro e w1 ⟨rfl, hq⟩))
  have hb : b < w.heap.size := World.block_lt_of_cell? w _ c0
  have hm : Moved w w1 (· = b) := (((Moved.refl w (· = b)).drewN 1).trans (Moved.of_below hq) (fun _ _ h => h))
  have h1 : w1.heap[b]? = some (.cells (sobj C s) 82 (0, 0)) := (hq.block b hb).trans HO.out
  have d9 : w1.cell? ⟨b, 9, none⟩ = some (.int .i64 s.tries) := cell_of (i := 9) h1 rfl
  have z9 := free_of (i := 9) h1
  have H1 := Lib.hid (And.intro hm h1)
  have HS := Lib.hid hs
  clear hm h1 hq c0 c1 c2 c3 c4 c9 hs
  by_cases hlt : s.tries < 1099511627776
  · go_wp2_with fail
    have h2 := heap_setCell_same w1 b 9 _ 82 (.int .i64 (s.tries + 1)) H1.out.2
    refine (rest_run b C { s with tries := s.tries + 1 } (C.dl s.tries) _ h2).mono ?_
    rintro e w2 ⟨rfl, ho2, hm2⟩
    have HE := Lib.hid (And.intro ho2 hm2)
    clear h2 ho2 hm2
    go_wp2_with fail
    refine ⟨rfl, .tuple #[], results_none rfl _ _ _, rfl, ?_, (H1.out.1.set (p := ⟨b, 9, none⟩) rfl _).trans HE.out.2 (fun _ _ h => h)⟩
    rw [Sn.fail, up, if_pos hlt]
    exact HE.out.1
  · have hge : ¬ s.tries < 1099511627776 := hlt
    have HG := Lib.hid hge
    clear hge
    go_wp2_with fail
    have h2 := heap_setCell_same w1 b 9 _ 82 (.int .i64 1099511627776) H1.out.2
    refine (rest_run b C { s with tries := 1099511627776 } (C.dl s.tries) _ h2).mono ?_
    rintro e w2 ⟨rfl, ho2, hm2⟩
    have HE := Lib.hid (And.intro ho2 hm2)
    clear h2 ho2 hm2
    go_wp2_with fail
    refine ⟨rfl, .tuple #[], results_none rfl _ _ _, rfl, ?_, (H1.out.1.set (p := ⟨b, 9, none⟩) rfl _).trans HE.out.2 (fun _ _ h => h)⟩
    rw [Sn.fail, up, if_neg (by have := HG.out; omega)]
    exact HE.out.1

theorem at_run (b : Nat) (C : Cf) (s : Sn) (w : World) (ho : SAt b C s w) : Calls Try.prog 32 #[.pointer (some ⟨b, 0, none⟩)] w fun e w' => e = .returned (.int .i64 s.pos) ∧ w = w' := by
  have c5 : w.cell? ⟨b, 5, none⟩ = some (.int .i64 s.pos) := cell_of (i := 5) ho rfl
  clear ho
  go_enter Try.func32, Try.ntmps32
  go_wp2_with fail
  go_ret
  exact ⟨rfl, rfl⟩
theorem left_run (b : Nat) (C : Cf) (s : Sn) (w : World) (ho : SAt b C s w) : Calls Try.prog 36 #[.pointer (some ⟨b, 0, none⟩)] w fun e w' => e = .returned (.int .i64 s.left) ∧ w = w' := by
  have c8 : w.cell? ⟨b, 8, none⟩ = some (.int .i64 s.left) := cell_of (i := 8) ho rfl
  clear ho
  go_enter Try.func36, Try.ntmps36
  go_wp2_with fail
  go_ret
  exact ⟨rfl, rfl⟩
theorem tries_run (b : Nat) (C : Cf) (s : Sn) (w : World) (ho : SAt b C s w) : Calls Try.prog 37 #[.pointer (some ⟨b, 0, none⟩)] w fun e w' => e = .returned (.int .i64 s.tries) ∧ w = w' := by
  have c9 : w.cell? ⟨b, 9, none⟩ = some (.int .i64 s.tries) := cell_of (i := 9) ho rfl
  clear ho
  go_enter Try.func37, Try.ntmps37
  go_wp2_with fail
  go_ret
  exact ⟨rfl, rfl⟩
theorem fly_is (b : Nat) (C : Cf) (s : Sn) (w : World) (ho : SAt b C s w) (hk : s.kind = 1) : Calls Try.prog 35 #[.pointer (some ⟨b, 0, none⟩)] w fun e w' => e = .returned (.bool true) ∧ w = w' := by
  have c7 : w.cell? ⟨b, 7, none⟩ = some (.int .i64 1) := by rw [← hk]; exact cell_of (i := 7) ho rfl
  clear ho hk
  go_enter Try.func35, Try.ntmps35
  go_wp2_with fail
  go_ret
  exact ⟨rfl, rfl⟩
theorem fly_not (b : Nat) (C : Cf) (s : Sn) (w : World) (ho : SAt b C s w) (hk : s.kind ≠ 1) : Calls Try.prog 35 #[.pointer (some ⟨b, 0, none⟩)] w fun e w' => e = .returned (.bool false) ∧ w = w' := by
  have c7 : w.cell? ⟨b, 7, none⟩ = some (.int .i64 s.kind) := cell_of (i := 7) ho rfl
  have hkb : (s.kind == 1) = false := by simpa using hk
  clear ho hk
  go_enter Try.func35, Try.ntmps35
  go_wp2_with fail
  go_ret
  exact ⟨rfl, rfl⟩

theorem offer_ok (b : Nat) (C : Cf) (s : Sn) (n : Int) (w : World) (h1 : s.known ≤ n) (h2 : n ≤ 1099511627776) (ho : SAt b C s w) :
    Calls Try.prog 30 #[.pointer (some ⟨b, 0, none⟩), .int .i64 n] w fun e w' => e = .returned (.int .i64 0) ∧ SAt b C { s with known := n } w' ∧ Moved w w' (· = b) := by
  have c6 : w.cell? ⟨b, 6, none⟩ = some (.int .i64 s.known) := cell_of (i := 6) ho rfl
  have z6 := free_of (i := 6) ho
  have HO := Lib.hid ho
  clear ho
  go_enter Try.func30, Try.ntmps30
  go_wp2_with fail
  go_ret
  exact ⟨rfl, heap_setCell_same w b 6 _ 82 (.int .i64 n) HO.out, (Moved.refl w (· = b)).set (p := ⟨b, 6, none⟩) rfl _⟩
theorem offer_bad (b : Nat) (C : Cf) (s : Sn) (n : Int) (w : World) (h1 : n < s.known ∨ 1099511627776 < n) (ho : SAt b C s w) :
    Calls Try.prog 30 #[.pointer (some ⟨b, 0, none⟩), .int .i64 n] w fun e w' => e = .returned (.int .i64 3) ∧ w = w' := by
  have c6 : w.cell? ⟨b, 6, none⟩ = some (.int .i64 s.known) := cell_of (i := 6) ho rfl
  clear ho
  rcases h1 with h1 | h1
  · go_enter Try.func30, Try.ntmps30
    go_wp2_with fail
    go_ret
    exact ⟨rfl, rfl⟩
  · by_cases h2 : n < s.known
    · go_enter Try.func30, Try.ntmps30
      go_wp2_with fail
      go_ret
      exact ⟨rfl, rfl⟩
    · go_enter Try.func30, Try.ntmps30
      go_wp2_with fail
      go_ret
      exact ⟨rfl, rfl⟩

end Go.Proofs.Ytlhpmnnbjkbahaa
