/- The walk of SenderOrder. -/
import Derived.Test.YtlhpmnnbjkbahaaAc
namespace Go.Proofs.Ytlhpmnnbjkbahaa
open Go.RowKit

/-- one sender -/
structure One (w0 : World) (b : Nat) (C : Cf) (s : Sn) (w : World) : Prop where
  one : SAt b C s w
  ok : s.Ok C
  below : Below w0.heap.size w0 w
theorem One.next {w0 : World} {b : Nat} {C : Cf} {s s' : Sn} {w w' : World} (h : One w0 b C s w) (hb : w0.heap.size < b) (h1 : SAt b C s' w') (hm : Moved w w' (· = b)) (ho : s'.Ok C) : One w0 b C s' w' :=
  ⟨h1, ho, Moved.below h.below hm (fun i hi => by omega)⟩
theorem One.box {w0 : World} {b : Nat} {C : Cf} {s : Sn} {w : World} (h : One w0 b C s w) (o : Obj) : One w0 b C s (w.alloc o) :=
  ⟨h.one.below ((Below.refl _ _).alloc (Nat.le_refl _) _), h.ok, h.below.alloc h.below.size _⟩

theorem at_eq (b : Nat) (C : Cf) (s : Sn) (w : World) (p : Int) (ho : SAt b C s w) (hp : s.pos = p) : Calls Try.prog 32 #[.pointer (some ⟨b, 0, none⟩)] w fun e w' => e = .returned (.int .i64 p) ∧ w = w' := by
  rw [← hp]; exact at_run b C s w ho

/-- the place, and how many are known -/
def AtK (s : Sn) (p k : Int) : Prop := s.pos = p ∧ s.known = k
theorem AtK.rest {s : Sn} {p k n : Int} (h : AtK s p k) : AtK (s.rest n) p k := by
  unfold Sn.rest; split
  · exact h
  · exact h
theorem AtK.fail {C : Cf} {s : Sn} {p k : Int} (h : AtK s p k) : AtK (s.fail C) p k := AtK.rest (s := { s with tries := up s.tries }) h
theorem AtK.wait {s : Sn} {p k n : Int} (h : AtK s p k) : AtK (s.wait n) p k := by
  unfold Sn.wait; split
  · exact h.rest
  · exact h
theorem AtK.tick {C : Cf} {s : Sn} {p k n : Int} (h : AtK s p k) : AtK (ticS C s n) p k := by
  unfold ticS Sn.tick
  split
  · exact h
  split
  · split
    · exact h
    · exact h.fail.wait
  · exact h.wait
theorem AtK.drop {C : Cf} {s : Sn} {p k : Int} (h : AtK s p k) : AtK (droS C s) p k := by
  unfold droS; split
  · exact h.fail
  · exact h
theorem One.le {w0 : World} {b : Nat} {C : Cf} {s : Sn} {w : World} {p k : Int} (h : One w0 b C s w) (ha : AtK s p k) : decide (k < p) = false := by
  have := h.ok.p1
  have h1 := ha.1
  have h2 := ha.2
  simp; omega

set_option maxRecDepth 100000 in
set_option maxHeartbeats 4000000 in
theorem order_any (x y z bits : Int) (p : Option Addr) (n cp : Nat) (K X : Nat → Int) (w : World) (hA : ActsAt w p n K X) :
    Calls Try.prog 13 #[.agg #[.int .i64 x, .int .i64 y, .int .i64 z], .int .u64 bits, .slice p n cp] w fun e w' => e = .returned (.bool true) ∧ Below w.heap.size w w' := by
  obtain ⟨C, hC⟩ : ∃ C, C = conf x y z bits.toNat := ⟨_, rfl⟩
  have hCo : C.Ok := by rw [hC]; exact conf_ok _ _ _ _
  have HA := Lib.hid hA
  have HC := Lib.hid hC
  have HO := Lib.hid hCo
  clear hA hC hCo
  go_enter Try.func13, Try.ntmps13
  go_wp2_with fail
  refine (config_run x y z bits C HC.out _).mono ?_
  rintro e w1 ⟨rfl, m1⟩
  have M1 := Lib.hid (And.intro (box_below (box_past m1)) (box_past m1).size)
  clear m1
  go_wp2_with fail
  refine (snew_ok C 0 _ HO.out (by decide) (by decide)).mono ?_
  rintro e w2 ⟨b, rfl, hb, h2, m2⟩
  have hb1 : w.heap.size < b := by have := M1.out.2; simp at this; omega
  have M2 : Hid (SAt b C (Sn.new 0) w2 ∧ Below w.heap.size w w2) := Lib.hid ⟨h2, M1.out.1.trans (m2.mono M1.out.1.size)⟩
  clear hb h2 m2
  go_wp2_with fail
  refine (salive_any _).mono ?_
  rintro e w4 ⟨rfl, m4⟩
  have M4 : Hid (SAt b C (Sn.new 0) w4 ∧ Below w.heap.size w w4) := Lib.hid ⟨M2.out.1.below m4, M2.out.2.trans (m4.mono M2.out.2.size)⟩
  clear m4
  by_cases hn : n ≤ 300
  · have hnb : decide ((300 : Int) < (n : Int)) = false := by simp; omega
    go_wp2_with fail
    go_loopw [9, 10, 42] (fun c9 k10 i wr => ∃ (j : Nat) (s : Sn) (p9 k10' : Int), i = .int .i64 j ∧ j ≤ n ∧ c9 = .int .i64 p9 ∧ k10 = .int .i64 k10' ∧ AtK s p9 k10' ∧ One w b C s wr) (fun _ _ i _ => n - (intOf i).toNat)
    case atStart => exact ⟨0, Sn.new 0, 0, 0, rfl, by omega, rfl, rfl, ⟨rfl, rfl⟩, M4.out.1, new_sn_ok C 0 (by decide) (by decide), M4.out.2⟩
    case round =>
      obtain ⟨j, s, p9, k10, rfl, hj, rfl, rfl, hP, h5⟩ := hrel
      have M5 := Lib.hid h5
      have HP := Lib.hid hP
      have hp0 : 0 ≤ p9 ∧ p9 ≤ 1099511627776 := by have := h5.ok.p0; have := h5.ok.p1; have := h5.ok.k1; have := hP.1; omega
      have hp2 := h5.le hP
      clear h5 hP
      by_cases hlt : j < n
      · obtain ⟨ab, off, hp, c0, c1, hxb⟩ := (HA.out.moved M5.out.below) j hlt
        subst hp
        obtain ⟨k, hk⟩ : ∃ k, k = K j := ⟨_, rfl⟩
        obtain ⟨v, hv⟩ : ∃ v, v = X j := ⟨_, rfl⟩
        rw [← hk] at c0
        rw [← hv] at c1 hxb
        clear hk hv
        have hcase : k = 0 ∨ k = 1 ∨ k = 2 ∨ k = 3 ∨ k = 4 ∨ k = 5 ∨ (k ≠ 0 ∧ k ≠ 1 ∧ k ≠ 2 ∧ k ≠ 3 ∧ k ≠ 4 ∧ k ≠ 5) := by omega
        obtain ⟨wA, hwA⟩ : ∃ wA : World, wA = wr.alloc (Obj.cells #[Value.int IntKind.i64 k, Value.int IntKind.i64 v] 64) := ⟨_, rfl⟩
        have MA : Hid (One w b C s wA) := Lib.hid (by rw [hwA]; exact M5.out.box _)
        have e0 : wA.cell? ⟨wr.heap.size, 0, none⟩ = some (.int .i64 k) := by rw [hwA]; exact cell_of (heap_alloc_new wr _) rfl
        have e1 : wA.cell? ⟨wr.heap.size, 1, none⟩ = some (.int .i64 v) := by rw [hwA]; exact cell_of (heap_alloc_new wr _) rfl
        have hb2 : wr.heap.size ≠ b := by have := M5.out.one.lt; omega
        have HWA := Lib.hid hwA
        have HBW := Lib.hid hb2
        clear hwA hb2
        have hk5 : ∀ i : Int, k ≠ i → (k == i) = false := fun i h => by simpa using h
        rcases hcase with rfl | rfl | rfl | rfl | rfl | rfl | ⟨k0, k1, k2, k3, k4, k5⟩
        focus
          clear hk5
          go_wp2_with fail
          rw [← HWA.out]
          clear c0 c1
          by_cases hof : s.known ≤ v ∧ v ≤ 1099511627776
          focus
            refine (offer_ok b C s v _ hof.1 hof.2 MA.out.one).mono ?_
            rintro e wR ⟨rfl, hS, mS⟩
            have e2 := keep_of e1 mS HBW.out
            have T := MA.out.next hb1 hS mS (known_ok C s v hof.1 hof.2 MA.out.ok)
            have hP : AtK { s with known := v } p9 v := ⟨HP.out.1, rfl⟩
            obtain ⟨s1, hs1⟩ : ∃ s1, s1 = { s with known := v } := ⟨_, rfl⟩
            rw [← hs1] at T hP
            have HT := Lib.hid (And.intro T hP)
            clear T hP hS mS hof hs1 e0 e1 hp2
            go_wp2_with fail
            clear e2
          rotate_left 1
          focus
            refine (offer_bad b C s v _ (by omega) MA.out.one).mono ?_
            rintro e wR ⟨rfl, rfl⟩
            obtain ⟨s1, hs1⟩ : ∃ s1, s1 = s := ⟨_, rfl⟩
            have HT := Lib.hid (And.intro MA.out HP.out)
            rw [← hs1] at HT
            clear e0 e1 hof hs1 hp2
            go_wp2_with fail
          rotate_left 1
        rotate_left 2
        focus
          clear hk5
          go_wp2_with fail
          rw [← HWA.out]
          clear c0 c1 e0 e1
          by_cases hof : s.kind = 0 ∧ s.pos < s.known
          focus
            have hpk : decide (k10 ≤ p9) = false := by have := HP.out.1; have := HP.out.2; simp; omega
            have hpo := poll_ok b C s wA hof.1 (by rcases MA.out.ok.form with q | q | q <;> omega) hof.2 MA.out.one
            rw [HP.out.1] at hpo
            refine hpo.mono ?_
            rintro e wR ⟨rfl, hS, mS⟩
            have T := MA.out.next hb1 hS mS (sent_ok C s HO.out hof.2 MA.out.ok)
            have hP : AtK (s.sent C) p9 k10 := HP.out
            have hK : (s.sent C).kind = 1 := rfl
            obtain ⟨s1, hs1⟩ : ∃ s1, s1 = s.sent C := ⟨_, rfl⟩
            rw [← hs1] at T hP hK
            have HT := Lib.hid (And.intro T hP)
            have HK := Lib.hid hK
            clear T hP hS mS hof hs1 hp2 hK hpo
            go_wp2_with fail
            refine (fly_is b C s1 _ HT.out.1.one HK.out).mono ?_
            rintro e w' ⟨rfl, rfl⟩
            go_wp2_with fail
            clear hpk
          rotate_left 1
          focus
            refine (poll_no b C s _ (by rcases MA.out.ok.form with q | q | q <;> omega) MA.out.one).mono ?_
            rintro e wR ⟨rfl, hS, mS⟩
            have T := MA.out.next hb1 hS mS MA.out.ok
            obtain ⟨s1, hs1⟩ : ∃ s1, s1 = s := ⟨_, rfl⟩
            have HT := Lib.hid (And.intro T HP.out)
            rw [← hs1] at HT
            clear T hS mS hof hs1 hp2
            go_wp2_with fail
          rotate_left 1
        rotate_left 2
        focus
          clear hk5
          go_wp2_with fail
          rw [← HWA.out]
          clear c0 c1
          by_cases hof : s.kind = 1
          focus
            have HF := Lib.hid hof
            clear hof
            refine (fly_is b C s _ MA.out.one HF.out).mono ?_
            rintro e w' ⟨rfl, rfl⟩
            go_wp2_with fail
            refine (answer_ok b C s _ MA.out.ok HF.out MA.out.one).mono ?_
            rintro e wR ⟨rfl, hS, mS⟩
            have e2 := keep_of e0 mS HBW.out
            have T := MA.out.next hb1 hS mS (passed_ok C s HF.out MA.out.ok)
            have hP : AtK s.passed (p9 + 1) k10 := ⟨by show s.pos + 1 = p9 + 1; rw [HP.out.1], HP.out.2⟩
            obtain ⟨s1, hs1⟩ : ∃ s1, s1 = s.passed := ⟨_, rfl⟩
            rw [← hs1] at T hP
            have HT := Lib.hid (And.intro T hP)
            clear T hP hS mS hs1 hp2 HF e0 e1
            go_wp2_with fail
            clear e2
          rotate_left 1
          focus
            have HF := Lib.hid hof
            clear hof
            refine (fly_not b C s _ MA.out.one HF.out).mono ?_
            rintro e w' ⟨rfl, rfl⟩
            go_wp2_with fail
            refine (answer_idle b C s true _ HF.out MA.out.one).mono ?_
            rintro e wR ⟨rfl, rfl⟩
            obtain ⟨s1, hs1⟩ : ∃ s1, s1 = s := ⟨_, rfl⟩
            have HT := Lib.hid (And.intro MA.out HP.out)
            rw [← hs1] at HT
            clear hs1 hp2 HF e1
            go_wp2_with fail
            clear e0
          rotate_left 1
        rotate_left 2
        focus
          clear hk5
          go_wp2_with fail
          rw [← HWA.out]
          clear c0 c1
          by_cases hof : s.kind = 1
          focus
            have HF := Lib.hid hof
            clear hof
            refine (fly_is b C s _ MA.out.one HF.out).mono ?_
            rintro e w' ⟨rfl, rfl⟩
            go_wp2_with fail
            refine (answer_fail b C s _ HO.out MA.out.ok HF.out MA.out.one).mono ?_
            rintro e wR ⟨rfl, hS, mS⟩
            have e2 := keep_of e0 mS HBW.out
            have T := MA.out.next hb1 hS mS (fail_ok C s HO.out MA.out.ok)
            have hP : AtK (s.fail C) p9 k10 := AtK.fail HP.out
            obtain ⟨s1, hs1⟩ : ∃ s1, s1 = s.fail C := ⟨_, rfl⟩
            rw [← hs1] at T hP
            have HT := Lib.hid (And.intro T hP)
            clear T hP hS mS hs1 hp2 HF e0 e1
            go_wp2_with fail
            clear e2
          rotate_left 1
          focus
            have HF := Lib.hid hof
            clear hof
            refine (fly_not b C s _ MA.out.one HF.out).mono ?_
            rintro e w' ⟨rfl, rfl⟩
            go_wp2_with fail
            refine (answer_idle b C s false _ HF.out MA.out.one).mono ?_
            rintro e wR ⟨rfl, rfl⟩
            obtain ⟨s1, hs1⟩ : ∃ s1, s1 = s := ⟨_, rfl⟩
            have HT := Lib.hid (And.intro MA.out HP.out)
            rw [← hs1] at HT
            clear hs1 hp2 HF e1
            go_wp2_with fail
            clear e0
          rotate_left 1
        rotate_left 2
        focus
          clear hk5
          go_wp2_with fail
          rw [← HWA.out]
          clear c0 c1
          refine (tick_all b C s _ v HO.out MA.out.ok hxb MA.out.one).mono ?_
          rintro e wR ⟨rfl, hS, mS⟩
          have T := MA.out.next hb1 hS mS (ticS_ok v HO.out MA.out.ok)
          have hP : AtK (ticS C s v) p9 k10 := AtK.tick HP.out
          obtain ⟨s1, hs1⟩ : ∃ s1, s1 = ticS C s v := ⟨_, rfl⟩
          rw [← hs1] at T hP
          have HT := Lib.hid (And.intro T hP)
          clear T hP hS mS hs1 hp2 e0 e1
          go_wp2_with fail
        rotate_left 1
        focus
          clear hk5
          go_wp2_with fail
          rw [← HWA.out]
          clear c0 c1
          refine (drop_any b C s _ HO.out MA.out.ok MA.out.one).mono ?_
          rintro e wR ⟨rfl, hS, mS⟩
          have T := MA.out.next hb1 hS mS (droS_ok HO.out MA.out.ok)
          have hP : AtK (droS C s) p9 k10 := AtK.drop HP.out
          obtain ⟨s1, hs1⟩ : ∃ s1, s1 = droS C s := ⟨_, rfl⟩
          rw [← hs1] at T hP
          have HT := Lib.hid (And.intro T hP)
          clear T hP hS mS hs1 hp2 e0 e1
          go_wp2_with fail
        rotate_left 1
        focus
          have b0 := hk5 0 k0
          have b1 := hk5 1 k1
          have b2 := hk5 2 k2
          have b3 := hk5 3 k3
          have b4 := hk5 4 k4
          have b5 := hk5 5 k5
          obtain ⟨s1, hs1⟩ : ∃ s1, s1 = s := ⟨_, rfl⟩
          have HT := Lib.hid (And.intro MA.out HP.out)
          rw [← hs1] at HT
          clear hk5 k0 k1 k2 k3 k4 k5 hs1 hp2 e0 e1
          go_wp2_with fail
          rw [← HWA.out]
          clear c0 c1 b0 b1 b2 b3 b4 b5
        rotate_left 1
        all_goals
          refine (at_eq b C s1 _ _ HT.out.1.one HT.out.2.1).mono ?_
          rintro e w' ⟨rfl, rfl⟩
          have hp3 := HT.out.1.le HT.out.2
          go_wp2_with fail
          refine (at_eq b C s1 _ _ HT.out.1.one HT.out.2.1).mono ?_
          rintro e w' ⟨rfl, rfl⟩
          go_wp2_with fail
          go_roundw
          case rel => exact ⟨j + 1, s1, _, _, by go_num, by omega, rfl, rfl, HT.out.2, HT.out.1⟩
          case measure => simp [intOf]; omega
      · go_wp2_with fail
        go_ret
        exact ⟨rfl, M5.out.below⟩
  · have hnb : decide ((300 : Int) < (n : Int)) = true := by simp; omega
    go_wp2_with fail
    refine (salive_any _).mono ?_
    rintro e w5 ⟨rfl, m5⟩
    go_wp2_with fail
    go_ret
    exact ⟨rfl, M4.out.2.trans (m5.mono M4.out.2.size)⟩
end Go.Proofs.Ytlhpmnnbjkbahaa
