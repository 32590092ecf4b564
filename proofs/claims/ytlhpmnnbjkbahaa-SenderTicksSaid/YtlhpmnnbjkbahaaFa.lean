/- The walk of SenderFails. -/
import Derived.Test.YtlhpmnnbjkbahaaOr
namespace Go.Proofs.Ytlhpmnnbjkbahaa
open Go.ChangeShapes Go.WideShapes Go.ChangeAt Go.RowKit

/-- a slice of bytes, in memory -/
structure ArgB (w : World) (p : Option Addr) (n : Nat) (bs : List Int) : Prop where
  len : bs.length = n
  at_ : ∀ j x, bs[j]? = some x → ∃ b off, p = some ⟨b, off, none⟩ ∧ w.cell? ⟨b, off + j, none⟩ = some (.int .u8 x)
  byte : ∀ x ∈ bs, 0 ≤ x ∧ x ≤ 255
theorem ArgB.below {w w' : World} {p : Option Addr} {n : Nat} {bs : List Int} (h : ArgB w p n bs) (hb : Below w.heap.size w w') : ArgB w' p n bs :=
  ⟨h.len, fun j x hj => by obtain ⟨b, off, h1, h2⟩ := h.at_ j x hj; exact ⟨b, off, h1, (hb.cell (World.block_lt_of_cell? w _ h2)).trans h2⟩, h.byte⟩

theorem open_bytes {H : Type} {enc : TypeId × Value → H} {w : World} {spare : Nat → Bool} {held : Bool} {r : Reach} {b0 : Nat} {v : Value} {d : DataW H} {p : List MemPlace}
    (hv : Value.okWide Try.prog w r b0 70 v) (h : DataW.Trod enc Try.prog w 0 spare held 70 v d p) : ∃ (pa : Option Addr) (n cp : Nat) (bs : List Int), v = .slice pa n cp ∧ ArgB w pa n bs := by
  obtain ⟨a0, len, cap, rfl⟩ := okWide_slice Try.underlying70 hv
  obtain ⟨fuel, hf⟩ := h
  rcases open_ints Try.underlying70 Try.underlying5 (by kernel_rfl) hf with ⟨hcs, hx⟩ | ⟨a, len', cap', zs, hcs, _, hl, hm, hz, hx, hcell, hwz⟩
  · have hc : Value.cells (.slice a0 len cap) = #[.slice a0 len cap] := rfl
    simp [hc] at hcs
    obtain ⟨rfl, rfl, rfl⟩ := hcs
    exact ⟨none, 0, 0, [], rfl, rfl, fun j x hj => by simp at hj, fun x hx => by simp at hx⟩
  · have hc : Value.cells (.slice a0 len cap) = #[.slice a0 len cap] := rfl
    simp [hc] at hcs
    obtain ⟨rfl, rfl, rfl⟩ := hcs
    have hlz : len ≤ zs.length := by rw [hz]; split <;> omega
    refine ⟨some a, len, cap, zs.take len, rfl, by rw [List.length_take]; omega, fun j x hj => ?_, fun x hx => ?_⟩
    · have hjl : j < len := by have := (List.getElem?_eq_some_iff.1 hj).1; rw [List.length_take] at this; omega
      rw [List.getElem?_take_of_lt hjl] at hj
      have hc0 := hcell j (by omega)
      obtain ⟨b, off, spot⟩ := a
      have hspot : spot = none := by
        have h00 := hcell 0 (by omega)
        simpa [Addr.add] using World.cell?_spot h00
      subst hspot
      rw [Addr.add_lit] at hc0
      refine ⟨b, off, rfl, ?_⟩
      rw [hc0, List.getD_eq_getElem?_getD, hj]
      rfl
    · exact Kit.u8_of (hwz x (List.mem_of_mem_take hx))

theorem fail_left (C : Cf) (s : Sn) : (s.fail C).left = C.dl s.tries ∧ (s.fail C).tries = up s.tries ∧ (s.fail C).kind ≠ 1 := by
  unfold Sn.fail Sn.rest
  split
  next h => exact ⟨h.symm, rfl, by show (0 : Int) ≠ 1; decide⟩
  · exact ⟨rfl, rfl, by show (2 : Int) ≠ 1; decide⟩
theorem fail_wait0 (C : Cf) (s : Sn) (hC : C.Ok) : (s.fail C).wait 0 = s.fail C := by
  have h := hC.dl s.tries
  unfold Sn.fail Sn.wait Sn.rest
  by_cases h0 : C.dl s.tries = 0
  · rw [if_pos h0]
    rfl
  · rw [if_neg h0, if_pos rfl]
    have h1 : (if 0 < C.dl s.tries - 0 then C.dl s.tries - 0 else 0) = C.dl s.tries := by rw [if_pos (by omega)]; omega
    show (if (if 0 < C.dl s.tries - 0 then C.dl s.tries - 0 else 0) = 0 then _ else _) = _
    rw [h1, if_neg h0]
/-- its delay over, it is idle -/
theorem fail_over (C : Cf) (s : Sn) (hC : C.Ok) : (s.fail C).tick C (C.dl s.tries) = { s with kind := 0, left := 0, tries := up s.tries } := by
  have h := hC.dl s.tries
  have h3 := (fail_left C s).2.2
  rw [Sn.tick, if_neg h3]
  unfold Sn.fail Sn.wait Sn.rest
  by_cases h0 : C.dl s.tries = 0
  · rw [if_pos h0]
    rfl
  · rw [if_neg h0, if_pos rfl]
    show (if (if 0 < C.dl s.tries - C.dl s.tries then C.dl s.tries - C.dl s.tries else 0) = 0 then _ else _) = _
    rw [if_neg (by omega : ¬ 0 < C.dl s.tries - C.dl s.tries), if_pos rfl]
    rfl
theorem tick_whole (C : Cf) (s : Sn) (hC : C.Ok) (hk : s.kind = 1) : s.tick C s.left = s.fail C := by
  rw [Sn.tick, if_pos hk, if_neg (by omega), Int.sub_self, fail_wait0 C s hC]
theorem zero_lt_one : (0 : Int) < 1 := by decide
theorem left_eq (b : Nat) (C : Cf) (s : Sn) (w : World) (p : Int) (ho : SAt b C s w) (hp : s.left = p) : Calls Try.prog 36 #[.pointer (some ⟨b, 0, none⟩)] w fun e w' => e = .returned (.int .i64 p) ∧ w = w' := by
  rw [← hp]; exact left_run b C s w ho
theorem tries_eq (b : Nat) (C : Cf) (s : Sn) (w : World) (p : Int) (ho : SAt b C s w) (hp : s.tries = p) : Calls Try.prog 37 #[.pointer (some ⟨b, 0, none⟩)] w fun e w' => e = .returned (.int .i64 p) ∧ w = w' := by
  rw [← hp]; exact tries_run b C s w ho
theorem One.drewN {w0 : World} {b : Nat} {C : Cf} {s : Sn} {w : World} (h : One w0 b C s w) (n : Nat) : One w0 b C s (w.drewN n) := ⟨h.one, h.ok, below_drewN h.below n⟩
theorem up_nat (k : Nat) (h : k ≤ 1000000) : up (k : Int) = ((k + 1 : Nat) : Int) := by
  unfold up; rw [if_pos (by omega)]; omega
theorem cells5 {w w' : World} {b : Nat} {v0 v1 v2 v3 v4 : Value} {S : Nat → Prop} (hs : w.cell? ⟨b, 0, none⟩ = some v0 ∧ w.cell? ⟨b, 1, none⟩ = some v1 ∧ w.cell? ⟨b, 2, none⟩ = some v2 ∧ w.cell? ⟨b, 3, none⟩ = some v3 ∧ w.cell? ⟨b, 4, none⟩ = some v4) (hm : Moved w w' S) (hS : ¬ S b) :
    w'.cell? ⟨b, 0, none⟩ = some v0 ∧ w'.cell? ⟨b, 1, none⟩ = some v1 ∧ w'.cell? ⟨b, 2, none⟩ = some v2 ∧ w'.cell? ⟨b, 3, none⟩ = some v3 ∧ w'.cell? ⟨b, 4, none⟩ = some v4 :=
  ⟨keep_of hs.1 hm hS, keep_of hs.2.1 hm hS, keep_of hs.2.2.1 hm hS, keep_of hs.2.2.2.1 hm hS, keep_of hs.2.2.2.2 hm hS⟩
/-- the config's box -/
def CBox (c : Nat) (C : Cf) (w : World) : Prop := w.cell? ⟨c, 0, none⟩ = some (.int .i64 C.mf) ∧ w.cell? ⟨c, 1, none⟩ = some (.int .i64 C.b) ∧ w.cell? ⟨c, 2, none⟩ = some (.int .i64 C.c) ∧ w.cell? ⟨c, 3, none⟩ = some (.int .i64 C.t) ∧ w.cell? ⟨c, 4, none⟩ = some (.float .f64 C.F)
theorem CBox.moved {c : Nat} {C : Cf} {w w' : World} {S : Nat → Prop} (h : CBox c C w) (hm : Moved w w' S) (hS : ¬ S c) : CBox c C w' := cells5 h hm hS
theorem CBox.below {c : Nat} {C : Cf} {w w' : World} (h : CBox c C w) (hm : Below w.heap.size w w') : CBox c C w' := h.moved (S := fun _ => False) (Moved.of_below hm) (fun h => h)
theorem CBox.new {C : Cf} {w w1 : World} (h : Below (w.heap.size + 1) (w.alloc (.cells #[.int .i64 C.mf, .int .i64 C.b, .int .i64 C.c, .int .i64 C.t, .float .f64 C.F] 28)) w1) : CBox w.heap.size C w1 :=
  ⟨keep_box h rfl, keep_box h rfl, keep_box h rfl, keep_box h rfl, keep_box h rfl⟩

set_option maxRecDepth 100000 in
set_option maxHeartbeats 4000000 in
theorem fails_any (x y z bits : Int) (p : Option Addr) (n cp : Nat) (bs : List Int) (w : World) (hA : ArgB w p n bs) :
    Calls Try.prog 15 #[.agg #[.int .i64 x, .int .i64 y, .int .i64 z], .int .u64 bits, .slice p n cp] w fun e w' => e = .returned (.bool true) ∧ Below w.heap.size w w' := by
  obtain ⟨C, hC⟩ : ∃ C, C = conf x y z bits.toNat := ⟨_, rfl⟩
  have hCo : C.Ok := by rw [hC]; exact conf_ok _ _ _ _
  have HA := Lib.hid hA
  have HC := Lib.hid hC
  have HO := Lib.hid hCo
  clear hA hC hCo
  go_enter Try.func15, Try.ntmps15
  go_wp2_with fail
  refine (config_run x y z bits C HC.out _).mono ?_
  rintro e w1 ⟨rfl, m1⟩
  have M1 := Lib.hid (And.intro (box_below (box_past m1)) (box_past m1).size)
  clear m1
  go_wp2_with fail
  refine (snew_ok C 0 _ HO.out (by decide) (by decide)).mono ?_
  rintro e w2 ⟨b, rfl, hb, h2, m2⟩
  have q2 := box_past m2
  have hb1 : w.heap.size < b := by have := M1.out.2; simp at this hb; omega
  have hc1 : w1.heap.size ≠ b := by simp at hb; omega
  have M2 : Hid (SAt b C (Sn.new 0) w2 ∧ CBox w1.heap.size C w2 ∧ Below w.heap.size w w2) := Lib.hid ⟨h2, CBox.new q2, M1.out.1.trans ((box_below q2).mono M1.out.1.size)⟩
  clear hb h2 m2 q2
  go_wp2_with fail
  refine (salive_any _).mono ?_
  rintro e w4 ⟨rfl, m4⟩
  have M4 : Hid (SAt b C (Sn.new 0) w4 ∧ CBox w1.heap.size C w4 ∧ Below w.heap.size w w4) := Lib.hid ⟨M2.out.1.below m4, M2.out.2.1.below m4, M2.out.2.2.trans (m4.mono M2.out.2.2.size)⟩
  clear m4
  by_cases hn : n ≤ 50
  · have hnb : decide ((50 : Int) < (n : Int)) = false := by simp; omega
    go_wp2_with fail
    refine (offer_ok b C (Sn.new 0) 1 _ (by decide) (by decide) M4.out.1).mono ?_
    rintro e w5 ⟨rfl, h5, m5⟩
    have M5 : Hid (One w b C ⟨0, 1, 0, 0, 0⟩ w5 ∧ CBox w1.heap.size C w5) := Lib.hid ⟨⟨h5, Sn.ok_idle (by decide) (by decide) (by decide) (by decide) (by decide), Moved.below M4.out.2.2 m5 (fun i hi => by omega)⟩, M4.out.2.1.moved m5 hc1⟩
    clear h5 m5
    go_wp2_with fail
    go_loopw [44] (fun i wr => ∃ (j : Nat), i = .int .i64 j ∧ j ≤ n ∧ One w b C ⟨0, 1, 0, 0, j⟩ wr ∧ CBox w1.heap.size C wr) (fun i _ => n - (intOf i).toNat)
    case atStart => exact ⟨0, rfl, by omega, M5.out.1, M5.out.2⟩
    case round =>
      obtain ⟨j, rfl, hj, h6, b6⟩ := hrel
      have M6 := Lib.hid (And.intro h6 b6)
      clear h6 b6
      by_cases hlt : j < n
      · obtain ⟨h, hh⟩ : ∃ h, bs[j]? = some h := ⟨_, List.getElem?_eq_getElem (by have := HA.out.len; omega)⟩
        obtain ⟨ab, off, hp, c0⟩ := (HA.out.below M6.out.1.below).at_ j h hh
        have hb8 := HA.out.byte h (List.mem_of_getElem? hh)
        subst hp
        clear hh
        go_wp2_with fail
        refine (poll_ok b C ⟨0, 1, 0, 0, j⟩ _ rfl rfl zero_lt_one M6.out.1.one).mono ?_
        rintro e w7 ⟨rfl, h7, m7⟩
        have M7 : Hid (One w b C ⟨0, 1, 1, C.t, j⟩ w7 ∧ CBox w1.heap.size C w7) := Lib.hid ⟨M6.out.1.next hb1 h7 m7 (sent_ok C _ HO.out zero_lt_one M6.out.1.ok), M6.out.2.moved m7 hc1⟩
        clear h7 m7
        have t3 : w7.cell? ⟨w1.heap.size, 3, none⟩ = some (.int .i64 C.t) := M7.out.2.2.2.2.1
        clear c0
        go_wp2_with fail
        go_quiet ((go_at_call 36; exact reads (left_run b C ⟨0, 1, 1, C.t, j⟩ _ M7.out.1.one)))
        have M8 : Hid (One w b C ⟨0, 1, 1, C.t, j⟩ (w7.drewN nq) ∧ CBox w1.heap.size C (w7.drewN nq)) := Lib.hid ⟨M7.out.1.drewN nq, M7.out.2⟩
        have hcase : h % 3 = 0 ∨ h % 3 = 1 ∨ h % 3 = 2 := by omega
        rcases hcase with hc | hc | hc
        focus
          clear t3
          go_wp2_with fail
          clear hc
          refine (answer_fail b C ⟨0, 1, 1, C.t, j⟩ _ HO.out M8.out.1.ok rfl M8.out.1.one).mono ?_
          rintro e w9 ⟨rfl, h9, m9⟩
          have M9 : Hid (One w b C (Sn.fail C ⟨0, 1, 1, C.t, j⟩) w9 ∧ CBox w1.heap.size C w9) := Lib.hid ⟨M8.out.1.next hb1 h9 m9 (fail_ok C _ HO.out M8.out.1.ok), M8.out.2.moved m9 hc1⟩
          clear h9 m9
        rotate_left 1
        focus
          go_wp2_with fail
          clear hc t3
          refine (tick_any b C ⟨0, 1, 1, C.t, j⟩ C.t _ HO.out M8.out.1.ok (by have := HO.out.t0; omega) (by have := HO.out.t1; omega) M8.out.1.one).mono ?_
          rintro e w9 ⟨rfl, h9, m9⟩
          have hw := tick_whole C ⟨0, 1, 1, C.t, j⟩ HO.out rfl
          simp only at hw
          rw [hw] at h9
          have M9 : Hid (One w b C (Sn.fail C ⟨0, 1, 1, C.t, j⟩) w9 ∧ CBox w1.heap.size C w9) := Lib.hid ⟨M8.out.1.next hb1 h9 m9 (fail_ok C _ HO.out M8.out.1.ok), M8.out.2.moved m9 hc1⟩
          clear h9 m9 hw
        rotate_left 1
        focus
          clear t3
          go_wp2_with fail
          clear hc
          refine (drop_fail b C ⟨0, 1, 1, C.t, j⟩ _ HO.out M8.out.1.ok rfl M8.out.1.one).mono ?_
          rintro e w9 ⟨rfl, h9, m9⟩
          have M9 : Hid (One w b C (Sn.fail C ⟨0, 1, 1, C.t, j⟩) w9 ∧ CBox w1.heap.size C w9) := Lib.hid ⟨M8.out.1.next hb1 h9 m9 (fail_ok C _ HO.out M8.out.1.ok), M8.out.2.moved m9 hc1⟩
          clear h9 m9
        rotate_left 1
        all_goals
          obtain ⟨g0, g1, g2, g3, g4⟩ := M9.out.2
          have hov := fail_over C ⟨0, 1, 1, C.t, j⟩ HO.out
          obtain ⟨f1, f2, f3⟩ := fail_left C ⟨0, 1, 1, C.t, j⟩
          have hD := HO.out.dl (j : Int)
          have hok := fail_ok C ⟨0, 1, 1, C.t, j⟩ HO.out M8.out.1.ok
          obtain ⟨D, hDe⟩ : ∃ D, D = C.dl (j : Int) := ⟨_, rfl⟩
          obtain ⟨s1, hs1⟩ : ∃ s1, s1 = Sn.fail C ⟨0, 1, 1, C.t, j⟩ := ⟨_, rfl⟩
          simp only [up_nat j (by omega)] at hov f2
          simp only [← hDe, ← hs1] at f1 f2 f3 hov hD hok
          have HF : Hid (s1.left = D ∧ s1.tries = ((j + 1 : Nat) : Int) ∧ s1.kind ≠ 1 ∧ s1.tick C D = ⟨0, 1, 0, 0, ((j + 1 : Nat) : Int)⟩ ∧ s1.Ok C) := Lib.hid ⟨f1, f2, f3, hov, hok⟩
          rw [← hs1] at M9
          have HN : Hid (∀ w, Calls Try.prog 17 #[cfg C.mf C.b C.c C.t C.F, .int .i64 (j : Int)] w fun e w' => e = .returned (.tuple #[.int .i64 D, .int .i64 0]) ∧ Below w.heap.size w w') := Lib.hid (fun w => by rw [hDe]; exact fl_next C HO.out j (by omega) (by omega) w)
          clear hov f1 f2 f3 hDe hs1 hok
          go_wp2_with fail
          refine (HN.out _).mono ?_
          rintro e w10 ⟨rfl, m10⟩
          have M10 : Hid (One w b C s1 w10 ∧ CBox w1.heap.size C w10) := Lib.hid ⟨⟨M9.out.1.one.below m10, HF.out.2.2.2.2, M9.out.1.below.trans (m10.mono M9.out.1.below.size)⟩, M9.out.2.below m10⟩
          clear m10 g0 g1 g2 g3 g4
          go_wp2_with fail
          refine (fly_not b C s1 _ M10.out.1.one HF.out.2.2.1).mono ?_
          rintro e w' ⟨rfl, rfl⟩
          go_wp2_with fail
          refine (left_eq b C s1 _ D M10.out.1.one HF.out.1).mono ?_
          rintro e w' ⟨rfl, rfl⟩
          go_wp2_with fail
          refine (tries_eq b C s1 _ ((j : Int) + 1) M10.out.1.one (by rw [HF.out.2.1]; omega)).mono ?_
          rintro e w' ⟨rfl, rfl⟩
          go_wp2_with fail
          refine (tick_any b C s1 D _ HO.out HF.out.2.2.2.2 hD.1 (by omega) M10.out.1.one).mono ?_
          rintro e w11 ⟨rfl, h11, m11⟩
          rw [HF.out.2.2.2.1] at h11
          have M11 : Hid (One w b C ⟨0, 1, 0, 0, ((j + 1 : Nat) : Int)⟩ w11 ∧ CBox w1.heap.size C w11) := Lib.hid ⟨M10.out.1.next hb1 h11 m11 (Sn.ok_idle (by omega) (by omega) (by omega) (by omega) (by omega)), M10.out.2.moved m11 hc1⟩
          clear h11 m11
          go_wp2_with fail
          go_roundw
          case rel => exact ⟨j + 1, by go_num, by omega, M11.out.1, M11.out.2⟩
          case measure => simp [intOf]; omega
      · go_wp2_with fail
        refine (at_run b C ⟨0, 1, 0, 0, j⟩ _ M6.out.1.one).mono ?_
        rintro e w' ⟨rfl, rfl⟩
        go_wp2_with fail
        refine (left_run b C ⟨0, 1, 0, 0, j⟩ _ M6.out.1.one).mono ?_
        rintro e w' ⟨rfl, rfl⟩
        go_wp2_with fail
        go_ret
        exact ⟨rfl, M6.out.1.below⟩
  · have hnb : decide ((50 : Int) < (n : Int)) = true := by simp; omega
    go_wp2_with fail
    refine (salive_any _).mono ?_
    rintro e w5 ⟨rfl, m5⟩
    go_wp2_with fail
    go_ret
    exact ⟨rfl, M4.out.2.2.trans (m5.mono M4.out.2.2.size)⟩
end Go.Proofs.Ytlhpmnnbjkbahaa
