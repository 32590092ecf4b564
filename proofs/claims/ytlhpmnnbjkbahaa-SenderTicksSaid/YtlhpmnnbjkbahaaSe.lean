/- The walks of the sender's methods. No condition but the bounds named. -/
import Derived.Test.YtlhpmnnbjkbahaaSd
namespace Go.Proofs.Ytlhpmnnbjkbahaa
open Go.RowKit

def Sn.sent (C : Cf) (s : Sn) : Sn := { s with kind := 1, left := C.t }
theorem poll_ok (b : Nat) (C : Cf) (s : Sn) (w : World) (hk : s.kind = 0) (hl : s.left = 0) (hp : s.pos < s.known) (ho : SAt b C s w) :
    Calls Try.prog 29 #[.pointer (some ⟨b, 0, none⟩)] w fun e w' => e = .returned (.tuple #[.int .i64 s.pos, .bool true]) ∧ SAt b C (s.sent C) w' ∧ Moved w w' (· = b) := by
  have c3 : w.cell? ⟨b, 3, none⟩ = some (.int .i64 C.t) := cell_of (i := 3) ho rfl
  have c5 : w.cell? ⟨b, 5, none⟩ = some (.int .i64 s.pos) := cell_of (i := 5) ho rfl
  have c6 : w.cell? ⟨b, 6, none⟩ = some (.int .i64 s.known) := cell_of (i := 6) ho rfl
  have c7 : w.cell? ⟨b, 7, none⟩ = some (.int .i64 0) := by rw [← hk]; exact cell_of (i := 7) ho rfl
  have c8 : w.cell? ⟨b, 8, none⟩ = some (.int .i64 0) := by rw [← hl]; exact cell_of (i := 8) ho rfl
  have z7 := free_of (i := 7) ho
  have z8 := free_of (i := 8) ho
  have hd : decide (s.known ≤ s.pos) = false := by simp; omega
  have HO := Lib.hid ho
  clear ho hk hl
  go_enter Try.func29, Try.ntmps29
  go_wp2_with fail
  go_quiet (fail)
  go_wp2_with fail
  go_ret2
  have h1 := heap_setCell_same (w.drewN nq) b 7 _ 82 (.int .i64 1) HO.out
  have h2 := heap_setCell_same _ b 8 _ 82 (.int .i64 C.t) h1
  exact ⟨rfl, h2, ((((Moved.refl w (· = b)).drewN nq).set (p := ⟨b, 7, none⟩) rfl _).set (p := ⟨b, 8, none⟩) rfl _)⟩

theorem poll_no (b : Nat) (C : Cf) (s : Sn) (w : World) (h : s.kind ≠ 0 ∨ (s.kind = 0 ∧ s.left = 0 ∧ s.known ≤ s.pos)) (ho : SAt b C s w) :
    Calls Try.prog 29 #[.pointer (some ⟨b, 0, none⟩)] w fun e w' => e = .returned (.tuple #[.int .i64 0, .bool false]) ∧ SAt b C s w' ∧ Moved w w' (· = b) := by
  have c5 : w.cell? ⟨b, 5, none⟩ = some (.int .i64 s.pos) := cell_of (i := 5) ho rfl
  have c6 : w.cell? ⟨b, 6, none⟩ = some (.int .i64 s.known) := cell_of (i := 6) ho rfl
  rcases h with hk | ⟨hk, hl, hp⟩
  · have c7 : w.cell? ⟨b, 7, none⟩ = some (.int .i64 s.kind) := cell_of (i := 7) ho rfl
    have c8 : w.cell? ⟨b, 8, none⟩ = some (.int .i64 s.left) := cell_of (i := 8) ho rfl
    have hkb : (s.kind == 0) = false := by simpa using hk
    have HO := Lib.hid ho
    clear ho hk
    go_enter Try.func29, Try.ntmps29
    go_wp2_with fail
    go_quiet (fail)
    go_wp2_with fail
    go_ret2
    exact ⟨rfl, HO.out, (Moved.refl w (· = b)).drewN nq⟩
  · have c7 : w.cell? ⟨b, 7, none⟩ = some (.int .i64 0) := by rw [← hk]; exact cell_of (i := 7) ho rfl
    have c8 : w.cell? ⟨b, 8, none⟩ = some (.int .i64 0) := by rw [← hl]; exact cell_of (i := 8) ho rfl
    have hd : decide (s.known ≤ s.pos) = true := by simp; omega
    have HO := Lib.hid ho
    clear ho hk hl
    go_enter Try.func29, Try.ntmps29
    go_wp2_with fail
    go_quiet (fail)
    go_wp2_with fail
    go_ret2
    exact ⟨rfl, HO.out, (Moved.refl w (· = b)).drewN nq⟩

theorem answer_idle (b : Nat) (C : Cf) (s : Sn) (a : Bool) (w : World) (hk : s.kind ≠ 1) (ho : SAt b C s w) :
    Calls Try.prog 31 #[.pointer (some ⟨b, 0, none⟩), .bool a] w fun e w' => e = .returned (.bool false) ∧ w = w' := by
  have HO := Lib.hid ho
  have HK := Lib.hid hk
  clear ho hk
  go_enter Try.func31, Try.ntmps31
  go_wp2_with (go_at_call 35; refine (fly_not b C s _ HO.out HK.out).mono ?_; rintro e w' ⟨rfl, rfl⟩)
  go_ret
  exact ⟨rfl, rfl⟩

theorem answer_fail (b : Nat) (C : Cf) (s : Sn) (w : World) (hC : C.Ok) (hs : s.Ok C) (hk : s.kind = 1) (ho : SAt b C s w) :
    Calls Try.prog 31 #[.pointer (some ⟨b, 0, none⟩), .bool false] w fun e w' => e = .returned (.bool false) ∧ SAt b C (s.fail C) w' ∧ Moved w w' (· = b) := by
  have HO := Lib.hid ho
  have HK := Lib.hid hk
  have HC := Lib.hid hC
  have HS := Lib.hid hs
  clear ho hk hC hs
  go_enter Try.func31, Try.ntmps31
  go_wp2_with (first | (go_at_call 35; refine (fly_is b C s _ HO.out HK.out).mono ?_; rintro e w' ⟨rfl, rfl⟩) | (go_at_call 51; refine (fail_run b C s _ HC.out HS.out HO.out).mono ?_; rintro e w1 ⟨rfl, h1, h2⟩; have HE := Lib.hid (And.intro h1 h2); clear h1 h2))
  go_ret
  exact ⟨rfl, HE.out⟩

def Sn.passed (s : Sn) : Sn := { s with kind := 0, left := 0, tries := 0, pos := s.pos + 1 }
theorem answer_ok (b : Nat) (C : Cf) (s : Sn) (w : World) (hs : s.Ok C) (hk : s.kind = 1) (ho : SAt b C s w) :
    Calls Try.prog 31 #[.pointer (some ⟨b, 0, none⟩), .bool true] w fun e w' => e = .returned (.bool true) ∧ SAt b C s.passed w' ∧ Moved w w' (· = b) := by
  have c5 : w.cell? ⟨b, 5, none⟩ = some (.int .i64 s.pos) := cell_of (i := 5) ho rfl
  have c7 : w.cell? ⟨b, 7, none⟩ = some (.int .i64 s.kind) := cell_of (i := 7) ho rfl
  have c8 : w.cell? ⟨b, 8, none⟩ = some (.int .i64 s.left) := cell_of (i := 8) ho rfl
  have c9 : w.cell? ⟨b, 9, none⟩ = some (.int .i64 s.tries) := cell_of (i := 9) ho rfl
  have z5 := free_of (i := 5) ho
  have z7 := free_of (i := 7) ho
  have z8 := free_of (i := 8) ho
  have z9 := free_of (i := 9) ho
  have p0 := hs.p0
  have p1 : s.pos ≤ 1099511627776 := by have := hs.p1; have := hs.k1; omega
  have HO := Lib.hid ho
  have HK := Lib.hid hk
  clear ho hk hs
  go_enter Try.func31, Try.ntmps31
  go_wp2_with (first | (go_at_call 35; refine (fly_is b C s _ HO.out HK.out).mono ?_; rintro e w' ⟨rfl, rfl⟩))
  go_ret
  have h1 := heap_setCell_same w b 7 _ 82 (.int .i64 0) HO.out
  have h2 := heap_setCell_same _ b 8 _ 82 (.int .i64 0) h1
  have h3 := heap_setCell_same _ b 9 _ 82 (.int .i64 0) h2
  have h4 := heap_setCell_same _ b 5 _ 82 (.int .i64 (s.pos + 1)) h3
  exact ⟨rfl, h4, ((((Moved.refl w (· = b)).set (p := ⟨b, 7, none⟩) rfl _).set (p := ⟨b, 8, none⟩) rfl _).set (p := ⟨b, 9, none⟩) rfl _).set (p := ⟨b, 5, none⟩) rfl _⟩

theorem drop_idle (b : Nat) (C : Cf) (s : Sn) (w : World) (hk : s.kind ≠ 1) (ho : SAt b C s w) :
    Calls Try.prog 38 #[.pointer (some ⟨b, 0, none⟩)] w fun e w' => e = .returned (.tuple #[]) ∧ w = w' := by
  have HO := Lib.hid ho
  have HK := Lib.hid hk
  clear ho hk
  go_enter Try.func38, Try.ntmps38
  go_wp2_with (go_at_call 35; refine (fly_not b C s _ HO.out HK.out).mono ?_; rintro e w' ⟨rfl, rfl⟩)
  exact ⟨rfl, .tuple #[], results_none rfl _ _ _, rfl, rfl⟩
theorem drop_fail (b : Nat) (C : Cf) (s : Sn) (w : World) (hC : C.Ok) (hs : s.Ok C) (hk : s.kind = 1) (ho : SAt b C s w) :
    Calls Try.prog 38 #[.pointer (some ⟨b, 0, none⟩)] w fun e w' => e = .returned (.tuple #[]) ∧ SAt b C (s.fail C) w' ∧ Moved w w' (· = b) := by
  have HO := Lib.hid ho
  have HK := Lib.hid hk
  have HC := Lib.hid hC
  have HS := Lib.hid hs
  clear ho hk hC hs
  go_enter Try.func38, Try.ntmps38
  go_wp2_with (first | (go_at_call 35; refine (fly_is b C s _ HO.out HK.out).mono ?_; rintro e w' ⟨rfl, rfl⟩) | (go_at_call 51; refine (fail_run b C s _ HC.out HS.out HO.out).mono ?_; rintro e w1 ⟨rfl, h1, h2⟩; have HE := Lib.hid (And.intro h1 h2); clear h1 h2))
  exact ⟨rfl, .tuple #[], results_none rfl _ _ _, rfl, HE.out⟩

/-- ticks that go by in rest -/
def Sn.wait (s : Sn) (n : Int) : Sn := if s.kind = 2 then s.rest (if 0 < s.left - n then s.left - n else 0) else s
noncomputable def Sn.tick (C : Cf) (s : Sn) (n : Int) : Sn :=
  if s.kind = 1 then (if n < s.left then { s with left := s.left - n } else (s.fail C).wait (n - s.left)) else s.wait n

theorem tick_bad (b : Nat) (n : Int) (w : World) (hn : n < 0) :
    Calls Try.prog 34 #[.pointer (some ⟨b, 0, none⟩), .int .i64 n] w fun e w' => e = .returned (.int .i64 3) ∧ w = w' := by
  go_enter Try.func34, Try.ntmps34
  go_wp2_with fail
  go_ret
  exact ⟨rfl, rfl⟩

theorem tick_fly (b : Nat) (C : Cf) (s : Sn) (n : Int) (w : World) (hs : s.Ok C) (hn : 0 ≤ n) (hk : s.kind = 1) (hl : n < s.left) (ho : SAt b C s w) :
    Calls Try.prog 34 #[.pointer (some ⟨b, 0, none⟩), .int .i64 n] w fun e w' => e = .returned (.int .i64 0) ∧ SAt b C { s with left := s.left - n } w' ∧ Moved w w' (· = b) := by
  have c7 : w.cell? ⟨b, 7, none⟩ = some (.int .i64 1) := by rw [← hk]; exact cell_of (i := 7) ho rfl
  have c8 : w.cell? ⟨b, 8, none⟩ = some (.int .i64 s.left) := cell_of (i := 8) ho rfl
  have z8 := free_of (i := 8) ho
  have l1 : s.left ≤ 1099511627776 := by rcases hs.form with h | h | h <;> omega
  have HO := Lib.hid ho
  clear ho hk hs
  go_enter Try.func34, Try.ntmps34
  go_wp2_with fail
  go_ret
  exact ⟨rfl, heap_setCell_same w b 8 _ 82 (.int .i64 (s.left - n)) HO.out, (Moved.refl w (· = b)).set (p := ⟨b, 8, none⟩) rfl _⟩

theorem tick_idle (b : Nat) (C : Cf) (s : Sn) (n : Int) (w : World) (hn : 0 ≤ n) (hk : s.kind = 0) (ho : SAt b C s w) :
    Calls Try.prog 34 #[.pointer (some ⟨b, 0, none⟩), .int .i64 n] w fun e w' => e = .returned (.int .i64 0) ∧ w = w' := by
  have c7 : w.cell? ⟨b, 7, none⟩ = some (.int .i64 0) := by rw [← hk]; exact cell_of (i := 7) ho rfl
  have HO := Lib.hid ho
  clear ho hk
  go_enter Try.func34, Try.ntmps34
  go_wp2_with fail
  go_ret
  exact ⟨rfl, rfl⟩

theorem tick_rest (b : Nat) (C : Cf) (s : Sn) (n : Int) (w : World) (hs : s.Ok C) (hn : 0 ≤ n) (hn2 : n ≤ 9223372036854775807) (hk : s.kind = 2) (ho : SAt b C s w) :
    Calls Try.prog 34 #[.pointer (some ⟨b, 0, none⟩), .int .i64 n] w fun e w' => e = .returned (.int .i64 0) ∧ SAt b C (s.rest (if 0 < s.left - n then s.left - n else 0)) w' ∧ Moved w w' (· = b) := by
  have c7 : w.cell? ⟨b, 7, none⟩ = some (.int .i64 2) := by rw [← hk]; exact cell_of (i := 7) ho rfl
  have c8 : w.cell? ⟨b, 8, none⟩ = some (.int .i64 s.left) := cell_of (i := 8) ho rfl
  have l0 : 1 ≤ s.left := by rcases hs.form with h | h | h <;> omega
  have l1 : s.left ≤ 1099511627776 := by rcases hs.form with h | h | h <;> omega
  have HO := Lib.hid ho
  clear ho hk hs
  by_cases hlt : n < s.left
  · rw [if_pos (by omega)]
    go_enter Try.func34, Try.ntmps34
    go_wp2_with (go_at_call 53; refine (rest_run b C s _ _ HO.out).mono ?_; rintro e w1 ⟨rfl, h1, h2⟩; have HE := Lib.hid (And.intro h1 h2); clear h1 h2)
    go_ret
    exact ⟨rfl, HE.out⟩
  · rw [if_neg (by omega)]
    go_enter Try.func34, Try.ntmps34
    go_wp2_with (go_at_call 53; refine (rest_run b C s _ _ HO.out).mono ?_; rintro e w1 ⟨rfl, h1, h2⟩; have HE := Lib.hid (And.intro h1 h2); clear h1 h2)
    go_ret
    exact ⟨rfl, HE.out⟩

theorem fail_kind (C : Cf) (s : Sn) (hC : C.Ok) : (s.fail C).kind = 0 ∧ (s.fail C).left = 0 ∨ (s.fail C).kind = 2 ∧ 1 ≤ (s.fail C).left ∧ (s.fail C).left ≤ 1099511627776 := by
  have h := hC.dl s.tries
  unfold Sn.fail Sn.rest
  split
  · exact .inl ⟨rfl, rfl⟩
  · exact .inr ⟨rfl, by show 1 ≤ C.dl s.tries; omega, h.2⟩

/-- in flight, its time over: it fails, and what is left goes by in rest -/
theorem tick_over (b : Nat) (C : Cf) (s : Sn) (n : Int) (w : World) (hC : C.Ok) (hs : s.Ok C) (hn : 0 ≤ n) (hn2 : n ≤ 9223372036854775807) (hk : s.kind = 1) (hl : s.left ≤ n) (ho : SAt b C s w) :
    Calls Try.prog 34 #[.pointer (some ⟨b, 0, none⟩), .int .i64 n] w fun e w' => e = .returned (.int .i64 0) ∧ SAt b C ((s.fail C).wait (n - s.left)) w' ∧ Moved w w' (· = b) := by
  have c7 : w.cell? ⟨b, 7, none⟩ = some (.int .i64 1) := by rw [← hk]; exact cell_of (i := 7) ho rfl
  have c8 : w.cell? ⟨b, 8, none⟩ = some (.int .i64 s.left) := cell_of (i := 8) ho rfl
  have l0 : 1 ≤ s.left := by rcases hs.form with h | h | h <;> omega
  have l1 : s.left ≤ 1099511627776 := by rcases hs.form with h | h | h <;> omega
  have hf := fail_kind C s hC
  have HO := Lib.hid ho
  have HC := Lib.hid hC
  have HS := Lib.hid hs
  clear ho hk hs hC
  go_enter Try.func34, Try.ntmps34
  go_wp2_with fail
  refine (fail_run b C s _ HC.out HS.out HO.out).mono ?_
  rintro e w1 ⟨rfl, h1, h2⟩
  obtain ⟨T, hT⟩ : ∃ T, T = s.fail C := ⟨_, rfl⟩
  rw [← hT] at h1 hf
  have HT := Lib.hid hT
  clear hT c7 c8
  rcases hf with ⟨hk, hl0⟩ | ⟨hk, h3, h4⟩
  · have d7 : w1.cell? ⟨b, 7, none⟩ = some (.int .i64 0) := by rw [← hk]; exact cell_of (i := 7) h1 rfl
    have HE : Hid (SAt b C (T.wait (n - s.left)) w1 ∧ Moved w w1 (· = b)) := Lib.hid ⟨by rw [Sn.wait, if_neg (by omega)]; exact h1, h2⟩
    clear h1 h2 hk hl0
    go_wp2_with fail
    go_ret
    exact ⟨rfl, by rw [← HT.out]; exact HE.out⟩
  · have d7 : w1.cell? ⟨b, 7, none⟩ = some (.int .i64 2) := by rw [← hk]; exact cell_of (i := 7) h1 rfl
    have d8 : w1.cell? ⟨b, 8, none⟩ = some (.int .i64 T.left) := cell_of (i := 8) h1 rfl
    have HW : Hid (T.wait (n - s.left) = T.rest (if 0 < T.left - (n - s.left) then T.left - (n - s.left) else 0)) := Lib.hid (by rw [Sn.wait, if_pos hk])
    have H1 := Lib.hid h1
    have H2 := Lib.hid h2
    clear h1 h2 hk
    by_cases hlt : n - s.left < T.left
    · have HW2 : Hid (T.wait (n - s.left) = T.rest (T.left - (n - s.left))) := Lib.hid (by rw [HW.out, if_pos (by omega)])
      clear HW
      go_wp2_with (go_at_call 53; refine (rest_run b C T _ _ H1.out).mono ?_; rintro e w2 ⟨rfl, h1, h2⟩; have HE := Lib.hid (And.intro h1 h2); clear h1 h2)
      go_ret
      exact ⟨rfl, by rw [← HT.out, HW2.out]; exact HE.out.1, H2.out.trans HE.out.2 (fun _ _ h => h)⟩
    · have HW2 : Hid (T.wait (n - s.left) = T.rest 0) := Lib.hid (by rw [HW.out, if_neg (by omega)])
      clear HW
      go_wp2_with (go_at_call 53; refine (rest_run b C T _ _ H1.out).mono ?_; rintro e w2 ⟨rfl, h1, h2⟩; have HE := Lib.hid (And.intro h1 h2); clear h1 h2)
      go_ret
      exact ⟨rfl, by rw [← HT.out, HW2.out]; exact HE.out.1, H2.out.trans HE.out.2 (fun _ _ h => h)⟩

/-- a tick, whatever it meets -/
theorem tick_any (b : Nat) (C : Cf) (s : Sn) (n : Int) (w : World) (hC : C.Ok) (hs : s.Ok C) (hn : 0 ≤ n) (hn2 : n ≤ 9223372036854775807) (ho : SAt b C s w) :
    Calls Try.prog 34 #[.pointer (some ⟨b, 0, none⟩), .int .i64 n] w fun e w' => e = .returned (.int .i64 0) ∧ SAt b C (s.tick C n) w' ∧ Moved w w' (· = b) := by
  rcases hs.form with ⟨hk, hl⟩ | ⟨hk, _, _, _⟩ | ⟨hk, _, _⟩
  · refine (tick_idle b C s n w hn hk ho).mono ?_
    rintro e w' ⟨rfl, rfl⟩
    exact ⟨rfl, by rw [Sn.tick, if_neg (by omega), Sn.wait, if_neg (by omega)]; exact ho, Moved.refl _ _⟩
  · by_cases hlt : n < s.left
    · rw [Sn.tick, if_pos hk, if_pos hlt]
      exact tick_fly b C s n w hs hn hk hlt ho
    · rw [Sn.tick, if_pos hk, if_neg hlt]
      exact tick_over b C s n w hC hs hn hn2 hk (by omega) ho
  · rw [Sn.tick, if_neg (by omega), Sn.wait, if_pos hk]
    exact tick_rest b C s n w hs hn hn2 hk ho

theorem fail_ok (C : Cf) (s : Sn) (hC : C.Ok) (hs : s.Ok C) : (s.fail C).Ok C := by
  have h := fail_kind C s hC
  have e : (s.fail C).pos = s.pos ∧ (s.fail C).known = s.known ∧ (s.fail C).tries = up s.tries := by
    unfold Sn.fail Sn.rest
    split <;> exact ⟨rfl, rfl, rfl⟩
  have u : 0 ≤ up s.tries ∧ up s.tries ≤ 1099511627776 := by have := hs.t0; have := hs.t1; unfold up; split <;> omega
  refine ⟨by rw [e.1]; exact hs.p0, by rw [e.1, e.2.1]; exact hs.p1, by rw [e.2.1]; exact hs.k1, by rw [e.2.2]; exact u.1, by rw [e.2.2]; exact u.2, ?_⟩
  rcases h with h | h
  · exact .inl h
  · exact .inr (.inr h)
theorem rest_ok (C : Cf) (s : Sn) (n : Int) (h0 : 0 ≤ n) (h1 : n ≤ 1099511627776) (hs : s.Ok C) : (s.rest n).Ok C := by
  unfold Sn.rest
  by_cases hn : n = 0
  · rw [if_pos hn]
    exact ⟨hs.p0, hs.p1, hs.k1, hs.t0, hs.t1, .inl ⟨rfl, rfl⟩⟩
  · rw [if_neg hn]
    exact ⟨hs.p0, hs.p1, hs.k1, hs.t0, hs.t1, .inr (.inr ⟨rfl, by show 1 ≤ n; omega, h1⟩)⟩
theorem wait_ok (C : Cf) (s : Sn) (n : Int) (hn : 0 ≤ n) (hs : s.Ok C) : (s.wait n).Ok C := by
  unfold Sn.wait
  by_cases hk : s.kind = 2
  · rw [if_pos hk]
    have hl : 1 ≤ s.left ∧ s.left ≤ 1099511627776 := by rcases hs.form with h | h | h <;> omega
    exact rest_ok C s _ (by split <;> omega) (by split <;> omega) hs
  · rw [if_neg hk]
    exact hs
theorem tick_ok (C : Cf) (s : Sn) (n : Int) (hn : 0 ≤ n) (hC : C.Ok) (hs : s.Ok C) : (s.tick C n).Ok C := by
  unfold Sn.tick
  split
  next hk =>
    split
    next hl =>
      have h3 := hs.form
      exact ⟨hs.p0, hs.p1, hs.k1, hs.t0, hs.t1, .inr (.inl ⟨hk, by show 1 ≤ s.left - n; omega, by show s.left - n ≤ _; omega, by show s.pos < s.known; omega⟩)⟩
    · exact wait_ok C _ _ (by omega) (fail_ok C s hC hs)
  · exact wait_ok C s n hn hs
theorem passed_ok (C : Cf) (s : Sn) (hk : s.kind = 1) (hs : s.Ok C) : s.passed.Ok C := by
  have h := hs.form
  have h0 := hs.p0
  exact ⟨by show 0 ≤ s.pos + 1; omega, by show s.pos + 1 ≤ s.known; omega, hs.k1, Int.le_refl _, by show (0 : Int) ≤ 1099511627776; omega, .inl ⟨rfl, rfl⟩⟩
theorem sent_ok (C : Cf) (s : Sn) (hC : C.Ok) (hp : s.pos < s.known) (hs : s.Ok C) : (s.sent C).Ok C :=
  ⟨hs.p0, hs.p1, hs.k1, hs.t0, hs.t1, .inr (.inl ⟨rfl, hC.t0, hC.t1, hp⟩)⟩
theorem known_ok (C : Cf) (s : Sn) (n : Int) (h1 : s.known ≤ n) (h2 : n ≤ 1099511627776) (hs : s.Ok C) : Sn.Ok C { s with known := n } := by
  refine ⟨hs.p0, ?_, h2, hs.t0, hs.t1, ?_⟩
  · show s.pos ≤ n
    have := hs.p1; omega
  · rcases hs.form with h | h | h
    · exact .inl h
    · exact .inr (.inl ⟨h.1, h.2.1, h.2.2.1, by show s.pos < n; have := h.2.2.2; omega⟩)
    · exact .inr (.inr h)

/-- where a sender begins -/
def Sn.new (n : Int) : Sn := ⟨n, n, 0, 0, 0⟩
theorem new_sn_ok (C : Cf) (n : Int) (h0 : 0 ≤ n) (h1 : n ≤ 1099511627776) : (Sn.new n).Ok C := ⟨h0, Int.le_refl _, h1, Int.le_refl _, by show (0 : Int) ≤ 1099511627776; omega, .inl ⟨rfl, rfl⟩⟩
end Go.Proofs.Ytlhpmnnbjkbahaa
