/- The walk of SenderKnows. -/
import Derived.Test.YtlhpmnnbjkbahaaSh
namespace Go.Proofs.Ytlhpmnnbjkbahaa
open Go.RowKit

def kc : Cf := ⟨0, 0, 0, 1, 0⟩
theorem kc_ok : kc.Ok := ⟨by decide, by decide, by decide, by decide, by decide, by decide⟩

theorem Moved.after {b : Nat} {w w1 w2 : World} (h : Moved w w1 (· = b)) (k : Moved w1 w2 (· = b)) : Moved w w2 (· = b) := h.trans k (fun _ _ h => h)
theorem SAt.lt {b : Nat} {C : Cf} {s : Sn} {w : World} (h : SAt b C s w) : b < w.heap.size := (Array.getElem?_eq_some_iff.1 h).1
theorem RAt.lt {b : Nat} {C : Cf} {s : Sn} {w : World} (h : RAt b C s w) : b < w.heap.size := (Array.getElem?_eq_some_iff.1 h).1
theorem SAt.below {b : Nat} {C : Cf} {s : Sn} {w w' : World} (h : SAt b C s w) (hb : Below w.heap.size w w') : SAt b C s w' := (hb.block b h.lt).trans h
theorem RAt.below {b : Nat} {C : Cf} {s : Sn} {w w' : World} (h : RAt b C s w) (hb : Below w.heap.size w w') : RAt b C s w' := (hb.block b h.lt).trans h
theorem SAt.moved {b : Nat} {C : Cf} {s : Sn} {w w' : World} {S : Nat → Prop} (h : SAt b C s w) (hb : Moved w w' S) (hS : ¬ S b) : SAt b C s w' := (hb.block b h.lt hS).trans h
theorem RAt.moved {b : Nat} {C : Cf} {s : Sn} {w w' : World} {S : Nat → Prop} (h : RAt b C s w) (hb : Moved w w' S) (hS : ¬ S b) : RAt b C s w' := (hb.block b h.lt hS).trans h

theorem Sn.ok_fly {C : Cf} {p k l t : Int} (h0 : 0 ≤ p) (h1 : p < k) (h2 : k ≤ 1099511627776) (t0 : 0 ≤ t) (t1 : t ≤ 1099511627776) (l0 : 1 ≤ l) (l1 : l ≤ 1099511627776) : Sn.Ok C ⟨p, k, 1, l, t⟩ :=
  ⟨h0, Int.le_of_lt h1, h2, t0, t1, .inr (.inl ⟨rfl, l0, l1, h1⟩)⟩
theorem Sn.ok_idle {C : Cf} {p k t : Int} (h0 : 0 ≤ p) (h1 : p ≤ k) (h2 : k ≤ 1099511627776) (t0 : 0 ≤ t) (t1 : t ≤ 1099511627776) : Sn.Ok C ⟨p, k, 0, 0, t⟩ :=
  ⟨h0, h1, h2, t0, t1, .inl ⟨rfl, rfl⟩⟩
theorem zero_ne_one : (0 : Int) ≠ 1 := by decide

set_option maxHeartbeats 1000000 in
theorem knows_any (at_ more : Int) (w : World) (hm : 0 ≤ more ∧ more ≤ 255) :
    Calls Try.prog 9 #[.int .i64 at_, .int .u8 more] w fun e w' => e = .returned (.bool true) ∧ Below w.heap.size w w' := by
  obtain ⟨k, hk, k0⟩ : ∃ k, wrap64 ((IntKind.u64.wrap at_).tmod 1073741824) = k ∧ 0 ≤ k ∧ k ≤ 1073741823 := by
    refine ⟨_, rfl, ?_⟩
    rw [IntKind.wrap_u64, Int.tmod_eq_emod_of_nonneg (by omega), IntWalk.wrap64_in _ (by omega)]
    omega
  go_enter Try.func9, Try.ntmps9
  go_wp2_with fail
  refine (snew_ok kc k w kc_ok (by omega) (by omega)).mono ?_
  rintro e w1 ⟨b, rfl, hb, h1, m1⟩
  simp only [hk]
  clear hk
  have B1 := Lib.hid (And.intro h1 (And.intro hb m1))
  clear h1 hb m1
  go_wp2_with (go_at_call 28; refine (salive_any _).mono ?_; rintro e w2 ⟨rfl, m2⟩; have B2 := Lib.hid m2; clear m2)
  have B3 := Lib.hid (B1.out.1.below B2.out)
  refine (poll_no b kc (Sn.new k) _ (.inr ⟨rfl, rfl, Int.le_refl _⟩) B3.out).mono ?_
  rintro e w4 ⟨rfl, h4, m4⟩
  have B4 := Lib.hid (And.intro h4 m4)
  clear h4 m4
  go_wp2_with fail
  refine (offer_bad b kc (Sn.new k) (k - 1) _ (.inl (by show k - 1 < k; omega)) B4.out.1).mono ?_
  rintro e w' ⟨rfl, rfl⟩
  obtain ⟨n, hn, n0⟩ : ∃ n : Nat, more % 40 = n ∧ n ≤ 39 := ⟨(more % 40).toNat, by omega, by omega⟩
  go_wp2_with fail
  refine (offer_ok b kc (Sn.new k) (k + n) _ (by show k ≤ k + n; omega) (by omega) B4.out.1).mono ?_
  rintro e w5 ⟨rfl, h5, m5⟩
  have B5 := Lib.hid (And.intro h5 (B4.out.2.after m5))
  clear h5 m5
  go_wp2_with fail
  try simp only [hn]
  clear hn
  go_loopw [59] (fun i wr => ∃ j : Nat, i = .int .i64 j ∧ j ≤ n ∧ SAt b kc ⟨k + j, k + n, 0, 0, 0⟩ wr ∧ Moved w2 wr (· = b)) (fun i _ => n - (intOf i).toNat)
  case atStart => exact ⟨0, rfl, by omega, by have := B5.out.1; simpa [Sn.new] using this, B5.out.2⟩
  case round =>
    obtain ⟨j, rfl, hj, h6, m6⟩ := hrel
    have B6 := Lib.hid (And.intro h6 m6)
    clear h6 m6
    by_cases hlt : j < n
    · have o7 : Hid (Sn.Ok kc ⟨k + j, k + n, 1, 1, 0⟩) := Lib.hid (Sn.ok_fly (by omega) (by omega) (by omega) (by omega) (by omega) (by omega) (by omega))
      go_wp2_with fail
      refine (poll_ok b kc ⟨k + j, k + n, 0, 0, 0⟩ _ rfl rfl (by show k + (j : Int) < k + n; omega) B6.out.1).mono ?_
      rintro e w7 ⟨rfl, h7, m7⟩
      have B7 := Lib.hid (And.intro h7 m7)
      clear h7 m7
      go_wp2_with fail
      refine (answer_ok b kc ⟨k + j, k + n, 1, 1, 0⟩ _ o7.out rfl B7.out.1).mono ?_
      rintro e w8 ⟨rfl, h8, m8⟩
      have B8 := Lib.hid (And.intro h8 m8)
      clear h8 m8
      go_wp2_with fail
      go_roundw
      case rel => exact ⟨j + 1, by go_num, by omega, by have := B8.out.1; rw [Sn.passed, Int.add_assoc] at this; simpa using this, (B6.out.2.after B7.out.2).after B8.out.2⟩
      case measure => simp [intOf]; omega
    · have hjn : j = n := by omega
      subst hjn
      go_wp2_with fail
      refine (poll_no b kc ⟨k + j, k + j, 0, 0, 0⟩ _ (.inr ⟨rfl, rfl, Int.le_refl _⟩) B6.out.1).mono ?_
      rintro e w7 ⟨rfl, h7, m7⟩
      have B7 := Lib.hid (And.intro h7 m7)
      clear h7 m7
      go_wp2_with fail
      refine (at_run b kc ⟨k + j, k + j, 0, 0, 0⟩ _ B7.out.1).mono ?_
      rintro e w' ⟨rfl, rfl⟩
      go_wp2_with fail
      refine (answer_idle b kc ⟨k + j, k + j, 0, 0, 0⟩ true _ zero_ne_one B7.out.1).mono ?_
      rintro e w' ⟨rfl, rfl⟩
      go_wp2_with fail
      go_ret
      exact ⟨rfl, Moved.below (B1.out.2.2.trans (B2.out.mono B1.out.2.2.size)) (B6.out.2.after B7.out.2) (fun i h => by have := B1.out.2.1; omega)⟩
end Go.Proofs.Ytlhpmnnbjkbahaa
