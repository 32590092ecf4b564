/- The walk of law05.DeframeNone. -/
import Derived.Test.YthhbohpmbkdkeaaJu
namespace Go.Proofs.Ythhbohpmbkdkeaa
open Go.RowKit

theorem feed_nil (p : Option Addr) (n c : Nat) (w : World) : Calls Try.prog 12 #[.pointer none, .slice p n c] w fun e w' => e = .returned (.tuple #[.slice none 0 0, .int .i64 1]) ∧ w' = w := by
  go_enter Try.func12, Try.ntmps12
  go_wp2_with fail
  exact bodyPost_ret (v := .tuple #[.slice none 0 0, .int .i64 1]) (by simp [results, Try.results12, go_sem]) rfl ⟨rfl, rfl⟩
theorem reset_nil (w : World) : Calls Try.prog 19 #[.pointer none] w fun e w' => e = .returned (.tuple #[]) ∧ w' = w := by
  go_enter Try.func19, Try.ntmps19
  go_wp2_with fail
  exact ⟨rfl, .tuple #[], results_none rfl _ _ _, rfl, rfl⟩
theorem held_nil (w : World) : Calls Try.prog 15 #[.pointer none] w fun e w' => e = .returned (.int .i64 0) ∧ w' = w := by
  go_enter Try.func15, Try.ntmps15
  go_wp2_with fail
  go_ret
  exact ⟨rfl, rfl⟩
theorem junk_nil (w : World) : Calls Try.prog 16 #[.pointer none] w fun e w' => e = .returned (.int .i64 0) ∧ w' = w := by
  go_enter Try.func16, Try.ntmps16
  go_wp2_with fail
  go_ret
  exact ⟨rfl, rfl⟩
theorem over_nil (w : World) : Calls Try.prog 17 #[.pointer none] w fun e w' => e = .returned (.int .i64 0) ∧ w' = w := by
  go_enter Try.func17, Try.ntmps17
  go_wp2_with fail
  go_ret
  exact ⟨rfl, rfl⟩
theorem broken_nil (w : World) : Calls Try.prog 18 #[.pointer none] w fun e w' => e = .returned (.int .i64 0) ∧ w' = w := by
  go_enter Try.func18, Try.ntmps18
  go_wp2_with fail
  go_ret
  exact ⟨rfl, rfl⟩

set_option maxRecDepth 100000 in
set_option maxHeartbeats 4000000 in
theorem none_any (n : Int) (p : Option Addr) (l cp : Nat) (w : World) :
    Calls Try.prog 7 #[.int .i64 n, .slice p l cp] w fun e w' => e = .returned (.bool true) ∧ Below w.heap.size w w' := by
  go_enter Try.func7, Try.ntmps7
  go_wp2_with fail
  refine (feed_nil p l cp w).mono ?_
  rintro e w' ⟨rfl, rfl⟩
  go_wp2_with fail
  refine (reset_nil _).mono ?_
  rintro e w' ⟨rfl, rfl⟩
  go_wp2_with fail
  refine (held_nil _).mono ?_
  rintro e w' ⟨rfl, rfl⟩
  go_wp2_with fail
  refine (junk_nil _).mono ?_
  rintro e w' ⟨rfl, rfl⟩
  go_wp2_with fail
  refine (over_nil _).mono ?_
  rintro e w' ⟨rfl, rfl⟩
  go_wp2_with fail
  refine (broken_nil _).mono ?_
  rintro e w' ⟨rfl, rfl⟩
  go_wp2_with fail
  by_cases h : n < 1 ∨ 65536 < n
  · refine (new_bad n _ h).mono ?_
    rintro e w' ⟨rfl, rfl⟩
    have hb : (decide (n < 1) || decide (65536 < n)) = true := by simp; omega
    by_cases h1 : n < 1
    · go_wp2_with fail
      refine (alive_any _).mono ?_
      rintro e w2 ⟨rfl, hq⟩
      go_wp2_with fail
      exact bodyPost_ret (v := .bool true) (by simp [results, Try.results7, go_sem]) rfl ⟨rfl, hq⟩
    · have h2 : 65536 < n := by omega
      go_wp2_with fail
      refine (alive_any _).mono ?_
      rintro e w2 ⟨rfl, hq⟩
      go_wp2_with fail
      exact bodyPost_ret (v := .bool true) (by simp [results, Try.results7, go_sem]) rfl ⟨rfl, hq⟩
  · obtain ⟨m, rfl⟩ : ∃ m : Nat, n = m := ⟨n.toNat, by omega⟩
    refine (new_run m _ (by omega) (by omega)).mono ?_
    rintro e w1 ⟨rfl, hd, hq⟩
    have h1 : ¬ (m : Int) < 1 := by omega
    have h2 : ¬ 65536 < (m : Int) := by omega
    have HD := Lib.hid hd
    clear hd h
    go_wp2_with fail
    refine (alive_any _).mono ?_
    rintro e w2 ⟨rfl, hq2⟩
    have hh := Lib.hid (held_run _ _ _ _ _ _ w2 (HD.out.below hq2))
    go_wp2_with fail
    refine hh.out.mono ?_
    rintro e w3 ⟨rfl, rfl⟩
    rw [show (St.fresh m).held = 0 from rfl]
    go_wp2_with fail
    exact bodyPost_ret (v := .bool true) (by simp [results, Try.results7, go_sem]) rfl ⟨rfl, hq.trans (hq2.mono hq.size)⟩
end Go.Proofs.Ythhbohpmbkdkeaa
