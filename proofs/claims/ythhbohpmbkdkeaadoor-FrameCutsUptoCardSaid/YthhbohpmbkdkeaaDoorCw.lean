/- The walk of law04.FrameCuts (its middle printed by wip/kit/gen31.py). -/
import Derived.Test.YthhbohpmbkdkeaaDoorFm
import Derived.Test.YthhbohpmbkdkeaaDoorCp
import Derived.Test.YthhbohpmbkdkeaaDoorCs
namespace Go.Proofs.YthhbohpmbkdkeaaDoor
open Go.RowKit

set_option maxRecDepth 100000 in
set_option maxHeartbeats 8000000 in
theorem cuts_any (p : Option Addr) (n c : Nat) (bs : List Int) (x : Int) (w : World) (ha : ArgC w p n c bs) (hs : n < 4294967281) (hx : 0 ≤ x ∧ x ≤ 255) (he : Ends w) :
    Calls Tryd.prog 10 #[.slice p n c, .int .u8 x] w fun e w' => e = .returned (.bool true) ∧ Below w.heap.size w w' := by
  have HA := Lib.hid ha
  have HF := Lib.hid (From.refl he)
  clear ha he
  cases hg : goodL bs
  · go_enter Tryd.func10, Tryd.ntmps10
    go_wp2_with fail
    refine (wrap_no_at HF.out HA.out hs hg).mono ?_
    rintro e w1 ⟨rfl, hf, -⟩
    have HF1 := Lib.hid hf
    clear hf
    go_wp2_with fail
    refine (alive_at HF1.out).mono ?_
    rintro e w2 ⟨rfl, hf, -⟩
    have HF2 := Lib.hid hf
    clear hf
    go_wp2_with fail
    go_ret
    exact ⟨rfl, HF2.out.grew⟩
  · by_cases hn : n ≤ 1000
    · have hnb : decide ((1000 : Int) < (n : Int)) = false := by simp; omega
      have hz0 : ((n : Int) + 3 == 0) = false := by simp; omega
      go_enter Tryd.func10, Tryd.ntmps10
      go_wp2_with fail
      refine (wrap_yes_at HF.out HA.out hs hg).mono ?_
      rintro e w1 ⟨pf, cf, rfl, hv, hf, hb⟩
      have HV := Lib.hid hv
      have HF1 := Lib.hid hf
      clear hv hf hb
      go_wp2_with fail
      obtain ⟨bf, of, y0, hpf, _⟩ := HV.out.toArgB.look (j := 0) (by omega)
      subst hpf
      have hcf := HV.out.cap
      have hc1 : ¬ cf = 1 := by omega
      have hc2 : (1 : Int) ≤ (n : Int) + 3 := by omega
      have hw2 : IntKind.i64.wrap ((n : Int) + 3 - 1) = (n : Int) + 2 := by rw [show (n : Int) + 3 - 1 = (n : Int) + 2 by omega]; exact IntWalk.i64_in _ (by omega)
      have hc3 : (0 : Int) ≤ (n : Int) + 2 := by omega
      have hc4 : (n : Int) + 2 ≤ (cf : Int) := by omega
      have HVd : ArgC w1.drew (some ⟨bf, of, none⟩) (n + 3) cf (wrapL bs) := HV.out.below (Below.refl _ _).drew
      refine Code.wp_mono (Q := CutsPost w1.drew (some ⟨bf, of, none⟩) (n + 3) cf x (wrapL bs) (some ⟨bf, of + 1, none⟩) (some ⟨bf, of, none⟩) (n + 2) (cf - 1) (n + 2) cf (.int .i64 ((n : Int) + 3)) (.int .i64 ((n : Int) + 2)) (Value.slice p n c) (Value.int IntKind.u8 x) undef undef (Value.bool false) (.slice (some ⟨bf, of, none⟩) (n + 3) cf) (Value.int IntKind.i64 0) undef undef undef undef (Value.tuple #[Value.slice (some ⟨bf, of, none⟩) (n + 3) cf, Value.int IntKind.i64 0]) (Value.slice p n c) (Value.tuple #[Value.slice (some ⟨bf, of, none⟩) (n + 3) cf, Value.int IntKind.i64 0]) (Value.slice (some ⟨bf, of, none⟩) (n + 3) cf) (Value.int IntKind.i64 0) (Value.int IntKind.i64 0) (Value.bool false) (Value.bool false) (Value.slice p n c) (Value.int IntKind.i64 (n : Int)) (Value.bool false) (Value.bool false) (Value.bool false) (Value.slice (some ⟨bf, of, none⟩) (n + 3) cf) (Value.int IntKind.i64 ((n : Int) + 3)) (Value.bool false) (Value.bool false) undef undef undef undef undef undef undef undef undef undef undef undef undef undef undef undef undef undef undef undef undef undef undef undef undef undef undef HVd (by omega) (by omega) hx) (fun e a w h => ?_) (wp_region_any (by kernel_rfl) ?_)
      rotate_left 1
      refine wpAny_take (i := 0) (oi := { dst := some 38, op := Op.move (Operand.tmp 5), type := 23, pos := "law.go:87", after := #[], guard := none }) (v := ?_) rfl (by kernel_rfl) (by kernel_rfl) (by kernel_rfl) (fun _ _ _ h => absurd h.1 (by simp)) (Or.inl ⟨by rfl, ?_⟩) ?_
      rotate_left 1
      · intro w
        first | (go_simp; done) | (go_simp; with_reducible rfl)
      try simp only [Act.put, List.setIfInBounds_toArray, List.set_cons_zero, List.set_cons_succ]
      refine wpAny_take (i := 1) (oi := { dst := some 39, op := Op.slice 23 (Operand.tmp 38) (some (Operand.const (Value.int IntKind.i64 1))) none none, type := 23, pos := "law.go:87", after := #[{ on := 0, ground := Ground.data }], guard := none }) (v := ?_) rfl (by kernel_rfl) (by kernel_rfl) (by kernel_rfl) (fun _ _ _ h => absurd h.1 (by simp)) (Or.inl ⟨by rfl, ?_⟩) ?_
      rotate_left 1
      · intro w
        first | (go_simp; done) | (go_simp; with_reducible rfl)
      try simp only [Act.put, List.setIfInBounds_toArray, List.set_cons_zero, List.set_cons_succ]
      refine wpAny_take (i := 2) (oi := { dst := some 40, op := Op.move (Operand.tmp 5), type := 23, pos := "law.go:87", after := #[], guard := none }) (v := ?_) rfl (by kernel_rfl) (by kernel_rfl) (by kernel_rfl) (fun _ _ _ h => absurd h.1 (by simp)) (Or.inl ⟨by rfl, ?_⟩) ?_
      rotate_left 1
      · intro w
        first | (go_simp; done) | (go_simp; with_reducible rfl)
      try simp only [Act.put, List.setIfInBounds_toArray, List.set_cons_zero, List.set_cons_succ]
      refine wpAny_take (i := 3) (oi := { dst := some 41, op := Op.move (Operand.tmp 5), type := 23, pos := "law.go:87", after := #[], guard := none }) (v := ?_) rfl (by kernel_rfl) (by kernel_rfl) (by kernel_rfl) (fun _ _ _ h => absurd h.1 (by simp)) (Or.inl ⟨by rfl, ?_⟩) ?_
      rotate_left 1
      · intro w
        first | (go_simp; done) | (go_simp; with_reducible rfl)
      try simp only [Act.put, List.setIfInBounds_toArray, List.set_cons_zero, List.set_cons_succ]
      refine wpAny_take (i := 4) (oi := { dst := some 42, op := Op.call { callee := Callee.builtin Builtin.len, args := #[Operand.tmp 41], argTypes := #[23] }, type := 3, pos := "law.go:87", after := #[{ on := 3, ground := Ground.data }], guard := none }) (v := ?_) rfl (by kernel_rfl) (by kernel_rfl) (by kernel_rfl) (fun _ _ _ h => absurd h.1 (by simp)) (Or.inl ⟨by rfl, ?_⟩) ?_
      rotate_left 1
      · intro w
        first | (go_simp; done) | (go_simp; with_reducible rfl)
      try simp only [Act.put, List.setIfInBounds_toArray, List.set_cons_zero, List.set_cons_succ]
      refine wpAny_take (i := 5) (oi := { dst := some 43, op := Op.binOp BinOp.sub 3 (Operand.tmp 42) (Operand.const (Value.int IntKind.i64 1)) 3, type := 3, pos := "law.go:87", after := #[{ on := 4, ground := Ground.data }], guard := none }) (v := ?_) rfl (by kernel_rfl) (by kernel_rfl) (by kernel_rfl) (fun _ _ _ h => absurd h.1 (by simp)) (Or.inl ⟨by rfl, ?_⟩) ?_
      rotate_left 1
      · intro w
        first | (go_simp; done) | (go_simp; with_reducible rfl)
      try simp only [Act.put, List.setIfInBounds_toArray, List.set_cons_zero, List.set_cons_succ]
      refine wpAny_take (i := 6) (oi := { dst := some 44, op := Op.slice 23 (Operand.tmp 40) none (some (Operand.tmp 43)) none, type := 23, pos := "law.go:87", after := #[{ on := 2, ground := Ground.data }, { on := 5, ground := Ground.data }], guard := none }) (v := ?_) rfl (by kernel_rfl) (by kernel_rfl) (by kernel_rfl) (fun _ _ _ h => absurd h.1 (by simp)) (Or.inl ⟨by rfl, ?_⟩) ?_
      rotate_left 1
      · intro w
        first | (go_simp; done) | (go_simp; with_reducible rfl)
      try simp only [Act.put, List.setIfInBounds_toArray, List.set_cons_zero, List.set_cons_succ]
      refine wpAny_take (i := 7) (oi := { dst := some 45, op := Op.move (Operand.tmp 1), type := 5, pos := "law.go:87", after := #[], guard := none }) (v := ?_) rfl (by kernel_rfl) (by kernel_rfl) (by kernel_rfl) (fun _ _ _ h => absurd h.1 (by simp)) (Or.inl ⟨by rfl, ?_⟩) ?_
      rotate_left 1
      · intro w
        first | (go_simp; done) | (go_simp; with_reducible rfl)
      try simp only [Act.put, List.setIfInBounds_toArray, List.set_cons_zero, List.set_cons_succ]
      refine wpAny_take (i := 9) (oi := { dst := some 47, op := Op.move (Operand.tmp 5), type := 23, pos := "law.go:87", after := #[], guard := none }) (v := ?_) rfl (by kernel_rfl) (by kernel_rfl) (by kernel_rfl) (fun _ _ _ h => absurd h.1 (by simp)) (Or.inl ⟨by rfl, ?_⟩) ?_
      rotate_left 1
      · intro w
        first | (go_simp; done) | (go_simp; with_reducible rfl)
      try simp only [Act.put, List.setIfInBounds_toArray, List.set_cons_zero, List.set_cons_succ]
      refine wpAny_take (i := 12) (oi := { dst := some 50, op := Op.move (Operand.tmp 5), type := 23, pos := "law.go:87", after := #[], guard := none }) (v := ?_) rfl (by kernel_rfl) (by kernel_rfl) (by kernel_rfl) (fun _ _ _ h => absurd h.1 (by simp)) (Or.inl ⟨by rfl, ?_⟩) ?_
      rotate_left 1
      · intro w
        first | (go_simp; done) | (go_simp; with_reducible rfl)
      try simp only [Act.put, List.setIfInBounds_toArray, List.set_cons_zero, List.set_cons_succ]
      refine wpAny_take (i := 14) (oi := { dst := some 52, op := Op.move (Operand.tmp 1), type := 5, pos := "law.go:87", after := #[], guard := none }) (v := ?_) rfl (by kernel_rfl) (by kernel_rfl) (by kernel_rfl) (fun _ _ _ h => absurd h.1 (by simp)) (Or.inl ⟨by rfl, ?_⟩) ?_
      rotate_left 1
      · intro w
        first | (go_simp; done) | (go_simp; with_reducible rfl)
      try simp only [Act.put, List.setIfInBounds_toArray, List.set_cons_zero, List.set_cons_succ]
      refine wpAny_take (i := 18) (oi := { dst := some 56, op := Op.move (Operand.tmp 5), type := 23, pos := "law.go:87", after := #[], guard := none }) (v := ?_) rfl (by kernel_rfl) (by kernel_rfl) (by kernel_rfl) (fun _ _ _ h => absurd h.1 (by simp)) (Or.inl ⟨by rfl, ?_⟩) ?_
      rotate_left 1
      · intro w
        first | (go_simp; done) | (go_simp; with_reducible rfl)
      try simp only [Act.put, List.setIfInBounds_toArray, List.set_cons_zero, List.set_cons_succ]
      refine wpAny_take (i := 20) (oi := { dst := some 58, op := Op.move (Operand.tmp 5), type := 23, pos := "law.go:87", after := #[], guard := none }) (v := ?_) rfl (by kernel_rfl) (by kernel_rfl) (by kernel_rfl) (fun _ _ _ h => absurd h.1 (by simp)) (Or.inl ⟨by rfl, ?_⟩) ?_
      rotate_left 1
      · intro w
        first | (go_simp; done) | (go_simp; with_reducible rfl)
      try simp only [Act.put, List.setIfInBounds_toArray, List.set_cons_zero, List.set_cons_succ]
      refine wpAny_take (i := 24) (oi := { dst := some 62, op := Op.move (Operand.const (Value.int IntKind.i64 0)), type := 3, pos := "law.go:87", after := #[], guard := none }) (v := ?_) rfl (by kernel_rfl) (by kernel_rfl) (by kernel_rfl) (fun _ _ _ h => absurd h.1 (by simp)) (Or.inl ⟨by rfl, ?_⟩) ?_
      rotate_left 1
      · intro w
        first | (go_simp; done) | (go_simp; with_reducible rfl)
      try simp only [Act.put, List.setIfInBounds_toArray, List.set_cons_zero, List.set_cons_succ]
      exact st_0_0 w1.drew (some ⟨bf, of, none⟩) (n + 3) cf x (wrapL bs) (some ⟨bf, of + 1, none⟩) (some ⟨bf, of, none⟩) (n + 2) (cf - 1) (n + 2) cf (.int .i64 ((n : Int) + 3)) (.int .i64 ((n : Int) + 2)) (Value.slice p n c) (Value.int IntKind.u8 x) undef undef (Value.bool false) (.slice (some ⟨bf, of, none⟩) (n + 3) cf) (Value.int IntKind.i64 0) undef undef undef undef (Value.tuple #[Value.slice (some ⟨bf, of, none⟩) (n + 3) cf, Value.int IntKind.i64 0]) (Value.slice p n c) (Value.tuple #[Value.slice (some ⟨bf, of, none⟩) (n + 3) cf, Value.int IntKind.i64 0]) (Value.slice (some ⟨bf, of, none⟩) (n + 3) cf) (Value.int IntKind.i64 0) (Value.int IntKind.i64 0) (Value.bool false) (Value.bool false) (Value.slice p n c) (Value.int IntKind.i64 (n : Int)) (Value.bool false) (Value.bool false) (Value.bool false) (Value.slice (some ⟨bf, of, none⟩) (n + 3) cf) (Value.int IntKind.i64 ((n : Int) + 3)) (Value.bool false) (Value.bool false) undef undef undef undef undef undef undef undef undef undef undef undef undef undef undef undef undef undef undef undef undef undef undef undef undef undef undef HVd (by omega) (by omega) hx w1.drew ⟨Below.refl _ _, by simp, List.Pairwise.nil⟩
      obtain ⟨rfl, w5, s60, v46, v48, v49, v51, v53, v54, v55, v57, v59, rfl, rfl, rfl, hI⟩ := h
      have hfb := HV.out.byte
      have hlw : (wrapL bs).length = n + 3 := by rw [wrap_len, HA.out.len]
      obtain ⟨p48, c48, rfl, a48⟩ := hI.arg (v := v48) (bs := x :: wrapL bs) (by simp) (by intro y hy; rcases List.mem_cons.1 hy with rfl | hy; exact hx; exact hfb y hy)
      obtain ⟨p54, c54, rfl, a54⟩ := hI.arg (v := v54) (bs := wrapL bs ++ [x]) (by simp) (by intro y hy; rcases List.mem_append.1 hy with hy | hy; exact hfb y hy; simp at hy; subst hy; exact hx)
      obtain ⟨p59, c59, rfl, a59⟩ := hI.arg (v := v59) (bs := wrapL bs ++ wrapL bs) (by simp) (by intro y hy; rcases List.mem_append.1 hy with hy | hy; exact hfb y hy; exact hfb y hy)
      have hgrew := hI.grew
      clear hI
      have hl48 : (x :: wrapL bs).length ≤ 5000 := by simp; omega
      have hl54 : (wrapL bs ++ [x]).length ≤ 5000 := by simp; omega
      have hl59 : (wrapL bs ++ wrapL bs).length ≤ 5000 := by simp; omega
      generalize (x :: wrapL bs).length = l48 at a48 hl48 ⊢
      generalize (wrapL bs ++ [x]).length = l54 at a54 hl54 ⊢
      generalize (wrapL bs ++ wrapL bs).length = l59 at a59 hl59 ⊢
      have hb6 : Below w5.heap.size w5 (w5.alloc (.cells #[.slice (some ⟨bf, of + 1, none⟩) (n + 2) (cf - 1), .slice (some ⟨bf, of, none⟩) (n + 2) cf, .slice p48 l48 c48, .slice p54 l54 c54, .slice p59 l59 c59] 23 (0, 0))) := (Below.refl _ _).alloc (Nat.le_refl _) _
      have hnew := heap_alloc_new w5 (.cells #[.slice (some ⟨bf, of + 1, none⟩) (n + 2) (cf - 1), .slice (some ⟨bf, of, none⟩) (n + 2) cf, .slice p48 l48 c48, .slice p54 l54 c54, .slice p59 l59 c59] 23 (0, 0))
      generalize hw6 : w5.alloc (.cells #[.slice (some ⟨bf, of + 1, none⟩) (n + 2) (cf - 1), .slice (some ⟨bf, of, none⟩) (n + 2) cf, .slice p48 l48 c48, .slice p54 l54 c54, .slice p59 l59 c59] 23 (0, 0)) = w6 at hb6 hnew ⊢
      have hg5 : Below w1.heap.size w1 w5 := (Below.refl w1.heap.size w1).drew.trans (hgrew.mono (Nat.le_refl _))
      have hg6 : Below w1.heap.size w1 w6 := hg5.trans (hb6.mono hg5.size)
      have hf6 : From w w6 := HF1.out.next hg6
      have hV6 : ArgC w6 (some ⟨bf, of, none⟩) (n + 3) cf (wrapL bs) := HV.out.below hg6
      have hel : ∀ i, i < 5 → ∃ pe ne ce ys, w6.cell? ⟨w5.heap.size, i, none⟩ = some (.slice pe ne ce) ∧ ArgC w6 pe ne ce ys ∧ ne ≤ 5000 ∧ (unwrapL ys).2 ≠ 0 := by
        intro i hi
        match i, hi with
        | 0, _ =>
          refine ⟨_, _, _, (wrapL bs).drop 1, cell_of (i := 0) hnew rfl, ?_, by omega, cut_first hg⟩
          have := hV6.part 1 (n + 3) (by omega) (Nat.le_refl _)
          rw [List.take_of_length_le (by rw [List.length_drop]; omega)] at this
          exact this
        | 1, _ =>
          refine ⟨_, _, _, (wrapL bs).take (bs.length + 2), cell_of (i := 1) hnew rfl, ?_, by omega, cut_last hg⟩
          have := hV6.part 0 (n + 2) (by omega) (by omega)
          rw [HA.out.len]
          simpa using this
        | 2, _ => exact ⟨_, _, _, x :: wrapL bs, cell_of (i := 2) hnew rfl, a48.below hb6, hl48, cut_ahead hg x⟩
        | 3, _ => exact ⟨_, _, _, wrapL bs ++ [x], cell_of (i := 3) hnew rfl, a54.below hb6, hl54, cut_behind hg x⟩
        | 4, _ => exact ⟨_, _, _, wrapL bs ++ wrapL bs, cell_of (i := 4) hnew rfl, a59.below hb6, hl59, cut_twice hg⟩
      have HEL := Lib.hid hel
      have HF6 := Lib.hid hf6
      clear hel hf6 hV6 hg6 hg5 hnew hb6 a48 a54 a59 hgrew hw6 hfb HVd hw2 hc3 hc4 hc1 hc2
      generalize w5.heap.size = g6 at HEL ⊢
      go_wp2_with fail
      go_loopw [62] (fun i wr => ∃ j : Nat, i = .int .i64 j ∧ j ≤ 5 ∧ From w wr ∧ Below w6.heap.size w6 wr) (fun i _ => 5 - (intOf i).toNat)
      case atStart => exact ⟨0, rfl, by omega, HF6.out, Below.refl _ _⟩
      case round =>
        obtain ⟨j, rfl, hj, hfr, hbr⟩ := hrel
        have HFr := Lib.hid hfr
        have HBr := Lib.hid hbr
        clear hfr hbr
        by_cases hlt : j < 5
        · have hjb : decide ((j : Int) < 5) = true := by simp; omega
          obtain ⟨pe, ne, ce, ys, hcell, hay, hne, hbad⟩ := HEL.out j hlt
          replace hcell := below_keeps HBr.out hcell
          have HY := Lib.hid hay
          have h1 : (unwrapL ys).1 = [] := by
            rcases unwrap_err ys with h1 | h1
            · exact absurd h1 hbad
            · exact h1
          clear hay
          go_wp2_with fail
          refine (unwrap_at HFr.out (HY.out.below HBr.out) (by omega)).mono ?_
          rintro e w7 ⟨p7, n7, c7, rfl, ha7, hf7, hb7⟩
          rw [h1] at ha7
          have hn7 : n7 = 0 := ha7.len.symm
          subst hn7
          generalize (unwrapL ys).2 = z at hbad
          have hzb : (z == 0) = false := by simpa using hbad
          have HF7 := Lib.hid hf7
          have HB7 := Lib.hid (HBr.out.trans (hb7.mono HBr.out.size))
          clear ha7 hf7 hb7 hcell
          go_wp2_with fail
          go_roundw
          case rel => exact ⟨j + 1, by go_num, by omega, HF7.out, HB7.out⟩
          case measure => simp [intOf]; omega
        · have hjb : decide ((j : Int) < 5) = false := by simp; omega
          go_wp2_with fail
          refine (alive_at HFr.out).mono ?_
          rintro e w7 ⟨rfl, hf7, -⟩
          have HF7 := Lib.hid hf7
          clear hf7
          go_wp2_with fail
          go_ret
          exact ⟨rfl, HF7.out.grew⟩
    · have hnb : decide ((1000 : Int) < (n : Int)) = true := by simp; omega
      go_enter Tryd.func10, Tryd.ntmps10
      go_wp2_with fail
      refine (wrap_yes_at HF.out HA.out hs hg).mono ?_
      rintro e w1 ⟨pf, cf, rfl, hv, hf, hb⟩
      have HF1 := Lib.hid hf
      clear hv hf hb
      go_wp2_with fail
      refine (alive_at HF1.out).mono ?_
      rintro e w2 ⟨rfl, hf, -⟩
      have HF2 := Lib.hid hf
      clear hf
      go_wp2_with fail
      go_ret
      exact ⟨rfl, HF2.out.grew⟩
end Go.Proofs.YthhbohpmbkdkeaaDoor
