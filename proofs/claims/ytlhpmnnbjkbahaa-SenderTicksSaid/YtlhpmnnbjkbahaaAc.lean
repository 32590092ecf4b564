/- The walk of SenderActs. -/
import Derived.Test.YtlhpmnnbjkbahaaSi
namespace Go.Proofs.Ytlhpmnnbjkbahaa
open Go.RowKit

theorem config_run (x y z bits : Int) (C : Cf) (h : C = conf x y z bits.toNat) (w : World) :
    Calls Try.prog 33 #[.agg #[.int .i64 x, .int .i64 y, .int .i64 z], .int .u64 bits] w fun e w' => e = .returned (cfg C.mf C.b C.c C.t C.F) ∧ Below w.heap.size w w' := by
  rw [h]; exact config_any x y z bits w

/-- two senders side by side, in one state -/
structure Both (w0 : World) (b b' : Nat) (C : Cf) (s : Sn) (w : World) : Prop where
  one : SAt b C s w
  two : RAt b' C s w
  ok : s.Ok C
  below : Below w0.heap.size w0 w
theorem Both.box {w0 : World} {b b' : Nat} {C : Cf} {s : Sn} {w : World} (h : Both w0 b b' C s w) (o : Obj) : Both w0 b b' C s (w.alloc o) :=
  ⟨h.one.below ((Below.refl _ _).alloc (Nat.le_refl _) _), h.two.below ((Below.refl _ _).alloc (Nat.le_refl _) _), h.ok, h.below.alloc h.below.size _⟩
theorem Both.next {w0 : World} {b b' : Nat} {C : Cf} {s s' : Sn} {w w' : World} (h : Both w0 b b' C s w) (hb : w0.heap.size < b) (hb' : b < b') (h1 : SAt b C s' w') (h2 : RAt b' C s' w') (ho : s'.Ok C) (hm : Moved w w' (fun k => k = b ∨ k = b')) : Both w0 b b' C s' w' :=
  ⟨h1, h2, ho, Moved.below h.below hm (fun i hi => by omega)⟩
/-- the one first, then the other -/
theorem Both.onetwo {w0 : World} {b b' : Nat} {C : Cf} {s s' : Sn} {w w1 w2 : World} (h : Both w0 b b' C s w) (hb : w0.heap.size < b) (hb' : b < b') (h1 : SAt b C s' w1) (m1 : Moved w w1 (· = b)) (h2 : RAt b' C s' w2) (m2 : Moved w1 w2 (· = b')) (ho : s'.Ok C) : Both w0 b b' C s' w2 :=
  h.next hb hb' (h1.moved m2 (by omega)) h2 ho ((m1.weaken fun _ h => .inl h).trans m2 (fun _ _ h => .inr h))
theorem Both.twoone {w0 : World} {b b' : Nat} {C : Cf} {s s' : Sn} {w w1 w2 : World} (h : Both w0 b b' C s w) (hb : w0.heap.size < b) (hb' : b < b') (h2 : RAt b' C s' w1) (m2 : Moved w w1 (· = b')) (h1 : SAt b C s' w2) (m1 : Moved w1 w2 (· = b)) (ho : s'.Ok C) : Both w0 b b' C s' w2 :=
  h.next hb hb' h1 (h2.moved m1 (by omega)) ho ((m2.weaken fun _ h => .inr h).trans m1 (fun _ _ h => .inl h))
theorem keep_of {w w' : World} {S : Nat → Prop} {c i : Nat} {v : Value} (h : w.cell? ⟨c, i, none⟩ = some v) (hm : Moved w w' S) (hS : ¬ S c) : w'.cell? ⟨c, i, none⟩ = some v :=
  (World.cell?_of_block (w := w) (w' := w') (a := ⟨c, i, none⟩) (hm.block c (World.block_lt_of_cell? w _ h) hS)).trans h
/-- a callee that only reads, within a quiet region -/
theorem reads {f : FuncId} {args : Array Value} {w : World} {n : Nat} {v : Value} (h : Calls Try.prog f args (w.drewN n) fun e w' => e = .returned v ∧ w.drewN n = w') :
    Calls Try.prog f args (w.drewN n) fun e w'' => e = .returned v ∧ ∃ m, w'' = w.drewN m := Calls.quiet_of_same (h.mono fun _ _ h => ⟨h.1, h.2.symm⟩)
theorem Moved.undrew {w w' : World} {S : Nat → Prop} (h : Moved w.drew w' S) : Moved w w' S := ⟨h.os, h.tape, h.output, h.size, h.block⟩

set_option maxRecDepth 100000 in
set_option maxHeartbeats 4000000 in
theorem acts_any (x y z bits : Int) (p : Option Addr) (n cp : Nat) (K X : Nat → Int) (w : World) (hA : ActsAt w p n K X) :
    Calls Try.prog 12 #[.agg #[.int .i64 x, .int .i64 y, .int .i64 z], .int .u64 bits, .slice p n cp] w fun e w' => e = .returned (.bool true) ∧ Below w.heap.size w w' := by
  obtain ⟨C, hC⟩ : ∃ C, C = conf x y z bits.toNat := ⟨_, rfl⟩
  have hCo : C.Ok := by rw [hC]; exact conf_ok _ _ _ _
  have HA := Lib.hid hA
  have HC := Lib.hid hC
  have HO := Lib.hid hCo
  clear hA hC hCo
  go_enter Try.func12, Try.ntmps12
  go_wp2_with fail
  refine (config_run x y z bits C HC.out _).mono ?_
  rintro e w1 ⟨rfl, m1⟩
  have M1 := Lib.hid (box_below (box_past m1))
  clear m1
  go_wp2_with fail
  refine (snew_ok C 0 _ HO.out (by decide) (by decide)).mono ?_
  rintro e w2 ⟨b, rfl, hb, h2, m2⟩
  have q2 := box_past m2
  have d0 : w2.cell? ⟨w1.heap.size, 0, none⟩ = some (.int .i64 C.mf) := keep_box q2 rfl
  have d1 : w2.cell? ⟨w1.heap.size, 1, none⟩ = some (.int .i64 C.b) := keep_box q2 rfl
  have d2 : w2.cell? ⟨w1.heap.size, 2, none⟩ = some (.int .i64 C.c) := keep_box q2 rfl
  have d3 : w2.cell? ⟨w1.heap.size, 3, none⟩ = some (.int .i64 C.t) := keep_box q2 rfl
  have d4 : w2.cell? ⟨w1.heap.size, 4, none⟩ = some (.float .f64 C.F) := keep_box q2 rfl
  have hb1 : w.heap.size < b := by have := M1.out.size; simp at hb; omega
  have M2 : Hid (SAt b C (Sn.new 0) w2 ∧ Below w.heap.size w w2) := Lib.hid ⟨h2, M1.out.trans ((box_below q2).mono M1.out.size)⟩
  clear hb h2 m2 q2
  go_wp2_with fail
  refine (rnew_ok C 0 _ HO.out (by decide) (by decide)).mono ?_
  rintro e w3 ⟨b', rfl, hb', h3, m3⟩
  have hbb : b < b' := by have := M2.out.1.lt; omega
  have M3 : Hid (SAt b C (Sn.new 0) w3 ∧ RAt b' C (Sn.new 0) w3 ∧ Below w.heap.size w w3) := Lib.hid ⟨M2.out.1.below m3, h3, M2.out.2.trans (m3.mono M2.out.2.size)⟩
  clear d0 d1 d2 d3 d4 hb' h3 m3
  go_wp2_with fail
  refine (salive_any _).mono ?_
  rintro e w4 ⟨rfl, m4⟩
  have M4 : Hid (SAt b C (Sn.new 0) w4 ∧ RAt b' C (Sn.new 0) w4 ∧ Below w.heap.size w w4) := Lib.hid ⟨M3.out.1.below m4, M3.out.2.1.below m4, M3.out.2.2.trans (m4.mono M3.out.2.2.size)⟩
  clear m4
  by_cases hn : n ≤ 300
  · have hnb : decide ((300 : Int) < (n : Int)) = false := by simp; omega
    go_wp2_with fail
    go_loopw [64] (fun i wr => ∃ (j : Nat) (s : Sn), i = .int .i64 j ∧ j ≤ n ∧ Both w b b' C s wr) (fun i _ => n - (intOf i).toNat)
    case atStart => exact ⟨0, Sn.new 0, rfl, by omega, M4.out.1, M4.out.2.1, new_sn_ok C 0 (by decide) (by decide), M4.out.2.2⟩
    case round =>
      obtain ⟨j, s, rfl, hj, h5⟩ := hrel
      have M5 := Lib.hid h5
      clear h5
      by_cases hlt : j < n
      · obtain ⟨ab, off, hp, c0, c1, hxb⟩ := (HA.out.moved M5.out.below) j hlt
        subst hp
        obtain ⟨k, hk⟩ : ∃ k, k = K j := ⟨_, rfl⟩
        obtain ⟨v, hv⟩ : ∃ v, v = X j := ⟨_, rfl⟩
        rw [← hk] at c0
        rw [← hv] at c1 hxb
        clear hk hv
        have hcase : k = 0 ∨ k = 1 ∨ k = 2 ∨ k = 3 ∨ k = 4 ∨ k = 5 ∨ (k ≠ 0 ∧ k ≠ 1 ∧ k ≠ 2 ∧ k ≠ 3 ∧ k ≠ 4 ∧ k ≠ 5) := by omega
        obtain ⟨wA, hwA⟩ : ∃ wA : World, wA = wr.alloc (Obj.cells #[Value.int IntKind.i64 k, Value.int IntKind.i64 v] 64) := ⟨_, rfl⟩
        have MA : Hid (Both w b b' C s wA) := Lib.hid (by rw [hwA]; exact M5.out.box _)
        have e0 : wA.cell? ⟨wr.heap.size, 0, none⟩ = some (.int .i64 k) := by rw [hwA]; exact cell_of (heap_alloc_new wr _) rfl
        have e1 : wA.cell? ⟨wr.heap.size, 1, none⟩ = some (.int .i64 v) := by rw [hwA]; exact cell_of (heap_alloc_new wr _) rfl
        have hbw : b < wr.heap.size ∧ b' < wr.heap.size := ⟨M5.out.one.lt, M5.out.two.lt⟩
        have hb2 : wr.heap.size ≠ b := by omega
        have hb2' : wr.heap.size ≠ b' := by omega
        have HWA := Lib.hid hwA
        have HBW := Lib.hid (And.intro hb2 hb2')
        clear hwA hbw hb2 hb2'
        rcases hcase with rfl | rfl | rfl | rfl | rfl | rfl | ⟨k0, k1, k2, k3, k4, k5⟩
        focus
          go_wp2_with fail
          rw [← HWA.out]
          clear c0 c1
          go_region_held3 (fun w' => w'.cell? ⟨wr.heap.size, 1, none⟩ = some (.int .i64 v)) (first | go_keep | exact keep_of (by assumption) mS HBW.out.1 | exact keep_of (by assumption) mR HBW.out.2)
            (first
              | (go_at_call 30; refine (offer_any b C s _ v ?_).mono ?_; (first | exact MA.out.one | exact MA.out.one.moved mR.undrew (by omega)); rintro e wS ⟨rfl, hS, mS⟩)
              | (go_at_call 40; refine (roffer_any b' C s _ v ?_).mono ?_; (first | exact MA.out.two | exact MA.out.two.moved mS.undrew (by omega)); rintro e wR ⟨rfl, hR, mR⟩))
          have T := MA.out.onetwo hb1 hbb hS mS.undrew hR mR (offS_ok v MA.out.ok)
          obtain ⟨s1, hs1⟩ : ∃ s1, s1 = offS s v := ⟨_, rfl⟩
          rw [← hs1] at T
          clear hR mR hS mS hs1
        rotate_left 1
        focus
          go_wp2_with fail
          rw [← HWA.out]
          clear c0 c1
          refine (poll_any b C s _ MA.out.ok MA.out.one).mono ?_
          rintro e wS ⟨rfl, hS, mS⟩
          have hR0 := MA.out.two.moved mS (by omega)
          have H1 := Lib.hid (And.intro hS (And.intro mS hR0))
          clear hS mS hR0
          go_wp2_with fail
          refine (rpoll_any b' C s _ MA.out.ok H1.out.2.2).mono ?_
          rintro e wR ⟨rfl, hR, mR⟩
          have hS := H1.out.1
          have mS := H1.out.2.1
          have T := MA.out.onetwo hb1 hbb hS mS hR mR (polS_ok HO.out MA.out.ok)
          obtain ⟨s1, hs1⟩ : ∃ s1, s1 = polS C s := ⟨_, rfl⟩
          rw [← hs1] at T
          clear hR mR hS mS hs1
        rotate_left 1
        focus
          go_wp2_with fail
          rw [← HWA.out]
          clear c0 c1
          go_region_held3 (fun w' => w'.cell? ⟨wr.heap.size, 0, none⟩ = some (.int .i64 2)) (first | go_keep | exact keep_of (by assumption) mS HBW.out.1 | exact keep_of (by assumption) mR HBW.out.2)
            (first
              | (go_at_call 31; refine (answer_any b C s _ true HO.out MA.out.ok ?_).mono ?_; (first | exact MA.out.one | exact MA.out.one.moved mR.undrew (by omega)); rintro e wS ⟨rfl, hS, mS⟩)
              | (go_at_call 42; refine (ranswer_any b' C s _ true HO.out MA.out.ok ?_).mono ?_; (first | exact MA.out.two | exact MA.out.two.moved mS.undrew (by omega)); rintro e wR ⟨rfl, hR, mR⟩))
          have T := MA.out.onetwo hb1 hbb hS mS.undrew hR mR (ansS_ok true HO.out MA.out.ok)
          obtain ⟨s1, hs1⟩ : ∃ s1, s1 = ansS C s true := ⟨_, rfl⟩
          rw [← hs1] at T
          clear hR mR hS mS hs1
        rotate_left 1
        focus
          go_wp2_with fail
          rw [← HWA.out]
          clear c0 c1
          go_region_held3 (fun w' => w'.cell? ⟨wr.heap.size, 0, none⟩ = some (.int .i64 3)) (first | go_keep | exact keep_of (by assumption) mS HBW.out.1 | exact keep_of (by assumption) mR HBW.out.2)
            (first
              | (go_at_call 31; refine (answer_any b C s _ false HO.out MA.out.ok ?_).mono ?_; (first | exact MA.out.one | exact MA.out.one.moved mR.undrew (by omega)); rintro e wS ⟨rfl, hS, mS⟩)
              | (go_at_call 42; refine (ranswer_any b' C s _ false HO.out MA.out.ok ?_).mono ?_; (first | exact MA.out.two | exact MA.out.two.moved mS.undrew (by omega)); rintro e wR ⟨rfl, hR, mR⟩))
          have T := MA.out.onetwo hb1 hbb hS mS.undrew hR mR (ansS_ok false HO.out MA.out.ok)
          obtain ⟨s1, hs1⟩ : ∃ s1, s1 = ansS C s false := ⟨_, rfl⟩
          rw [← hs1] at T
          clear hR mR hS mS hs1
        rotate_left 1
        focus
          go_wp2_with fail
          rw [← HWA.out]
          clear c0 c1
          go_region_held3 (fun w' => w'.cell? ⟨wr.heap.size, 1, none⟩ = some (.int .i64 v)) (first | go_keep | exact keep_of (by assumption) mS HBW.out.1 | exact keep_of (by assumption) mR HBW.out.2)
            (first
              | (go_at_call 34; refine (tick_all b C s _ v HO.out MA.out.ok hxb ?_).mono ?_; (first | exact MA.out.one | exact MA.out.one.moved mR.undrew (by omega)); rintro e wS ⟨rfl, hS, mS⟩)
              | (go_at_call 43; refine (rtick_all b' C s _ v HO.out MA.out.ok hxb ?_).mono ?_; (first | exact MA.out.two | exact MA.out.two.moved mS.undrew (by omega)); rintro e wR ⟨rfl, hR, mR⟩))
          have T := MA.out.onetwo hb1 hbb hS mS.undrew hR mR (ticS_ok v HO.out MA.out.ok)
          obtain ⟨s1, hs1⟩ : ∃ s1, s1 = ticS C s v := ⟨_, rfl⟩
          rw [← hs1] at T
          clear hR mR hS mS hs1
        rotate_left 1
        focus
          go_wp2_with fail
          rw [← HWA.out]
          clear c0 c1
          refine (drop_any b C s _ HO.out MA.out.ok MA.out.one).mono ?_
          rintro e wS ⟨rfl, hS, mS⟩
          have hR0 := MA.out.two.moved mS (by omega)
          have H1 := Lib.hid (And.intro hS (And.intro mS hR0))
          clear hS mS hR0
          go_wp2_with fail
          refine (rdrop_any b' C s _ HO.out MA.out.ok H1.out.2.2).mono ?_
          rintro e wR ⟨rfl, hR, mR⟩
          have hS := H1.out.1
          have mS := H1.out.2.1
          have T := MA.out.onetwo hb1 hbb hS mS hR mR (droS_ok HO.out MA.out.ok)
          obtain ⟨s1, hs1⟩ : ∃ s1, s1 = droS C s := ⟨_, rfl⟩
          rw [← hs1] at T
          clear hR mR hS mS hs1
        rotate_left 1
        focus
          have b0 : (k == 0) = false := by simpa using k0
          have b1 : (k == 1) = false := by simpa using k1
          have b2 : (k == 2) = false := by simpa using k2
          have b3 : (k == 3) = false := by simpa using k3
          have b4 : (k == 4) = false := by simpa using k4
          have b5 : (k == 5) = false := by simpa using k5
          clear k0 k1 k2 k3 k4 k5
          go_wp2_with fail
          rw [← HWA.out]
          clear c0 c1 b0 b1 b2 b3 b4 b5
          have T := MA.out
          obtain ⟨s1, hs1⟩ : ∃ s1, s1 = s := ⟨_, rfl⟩
          obtain ⟨wR, hwR⟩ : ∃ wR, wR = wA := ⟨_, rfl⟩
          rw [← hs1, ← hwR] at T
          rw [← hwR]
          clear hs1 hwR
        rotate_left 1
        all_goals
          have f0 : wR.cell? ⟨b', 5, none⟩ = some (.int .i64 s1.pos) := cell_of (i := 5) T.two rfl
          have f1 : wR.cell? ⟨b', 7, none⟩ = some (.bool (flyB s1)) := cell_of (i := 7) T.two rfl
          have f2 : wR.cell? ⟨b', 9, none⟩ = some (.int .i64 s1.left) := cell_of (i := 9) T.two rfl
          have f3 : wR.cell? ⟨b', 10, none⟩ = some (.int .i64 s1.tries) := cell_of (i := 10) T.two rfl
          have g0 : (s1.pos != s1.pos) = false := by simp
          have g1 : (flyB s1 != flyB s1) = false := by simp
          have g2 : (s1.left != s1.left) = false := by simp
          have g3 : (s1.tries != s1.tries) = false := by simp
          have HT := Lib.hid T
          clear T e0 e1
          go_wp2_with fail
          go_quiet (first
            | (go_at_call 32; exact reads (at_run b C s1 _ HT.out.one))
            | (go_at_call 35; exact reads (fly_any b C s1 _ HT.out.one))
            | (go_at_call 36; exact reads (left_run b C s1 _ HT.out.one))
            | (go_at_call 37; exact reads (tries_run b C s1 _ HT.out.one)))
          go_wp2_with fail
          go_roundw
          case rel => exact ⟨j + 1, s1, by go_num, by omega, HT.out.one, HT.out.two, HT.out.ok, below_drewN HT.out.below nq⟩
          case measure => simp [intOf]; omega
      · go_wp2_with fail
        go_ret
        exact ⟨rfl, M5.out.below⟩
  · have hnb : decide ((300 : Int) < (n : Int)) = true := by simp; omega
    go_wp2_with fail
    refine (salive_any _).mono ?_
    rintro e w5 ⟨rfl, m5⟩
    go_wp2_with fail
    go_ret
    exact ⟨rfl, M4.out.2.2.trans (m5.mono M4.out.2.2.size)⟩
end Go.Proofs.Ytlhpmnnbjkbahaa
