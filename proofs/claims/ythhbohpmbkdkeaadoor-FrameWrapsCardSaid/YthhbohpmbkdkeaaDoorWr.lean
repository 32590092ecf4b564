/- The walk of law04.FrameWraps. -/
import Derived.Test.YthhbohpmbkdkeaaDoorFm
import Derived.Deep.RegionHeld3
namespace Go.Proofs.YthhbohpmbkdkeaaDoor
open Go.RowKit

theorem wpAnyH_weak {P : Program} {ops : Array Oper} {Q : Exit → Act → World → Prop} {md : Region.Mode} {S S' : World → Prop} (hs : ∀ w, S' w → S w) : ∀ (fuel : Nat) (listed : Array Bool) (a : Act) (w : World), wpAnyH P md ops Q S' fuel listed a w → wpAnyH P md ops Q S fuel listed a w
  | 0, _, _, _, h => h
  | fuel + 1, _, _, _, h => ⟨h.1, fun i hi => wpOp_mono (fun a' w' h' => ⟨hs w' h'.1, wpAnyH_weak hs fuel _ a' w' h'.2⟩) (h.2 i hi)⟩

theorem count_neg {m : Int} (h : m < 0) : countL m = 0 := by rw [countL, if_pos h]
theorem count_mid {m : Int} (h : 0 ≤ m) (h2 : m < 4611686018427387904) : countL m = m + 3 := by
  have e : wrap64 (m + 3) = m + 3 := by unfold wrap64; omega
  rw [countL, if_neg (by omega), e]

set_option maxRecDepth 100000 in
set_option maxHeartbeats 4000000 in
theorem wraps_any (p : Option Addr) (n c : Nat) (bs : List Int) (m : Int) (w : World) (ha : ArgC w p n c bs) (hm : -9223372036854775808 ≤ m ∧ m ≤ 9223372036854775807) (he : Ends w) :
    Calls Tryd.prog 5 #[.slice p n c, .int .i64 m] w fun e w' => e = .returned (.bool true) ∧ Below w.heap.size w w' := by
  have HA := Lib.hid ha
  have HF := Lib.hid (From.refl he)
  clear ha he
  by_cases hn : n ≤ 3000
  · have hnb : decide ((3000 : Int) < (n : Int)) = false := by simp; omega
    cases hg : goodL bs
    · go_enter Tryd.func5, Tryd.ntmps5
      go_wp2_with fail
      refine (wrap_no_at HF.out HA.out (by omega) hg).mono ?_
      rintro e w1 ⟨rfl, hf, hb⟩
      have HF1 := Lib.hid hf
      have HB1 := Lib.hid hb
      clear hf hb
      go_wp2_with fail
      refine (rgood_run p n c bs w1 (HA.out.below HB1.out) (by omega)).mono ?_
      rintro e w2 ⟨rfl, rfl⟩
      rw [hg]
      go_wp2_with fail
      rotate_left 1
      rotate_left 1
      · refine (count_run m _).mono ?_
        rintro e w3 ⟨rfl, rfl⟩
        rw [count_neg ‹_›]
        go_wp2_with fail
        refine (alive_at HF1.out).mono ?_
        rintro e w4 ⟨rfl, hf, -⟩
        have HF4 := Lib.hid hf
        clear hf
        go_wp2_with fail
        refine (good_at HF4.out (HF4.out.arg HA.out) (by omega)).mono ?_
        rintro e w5 ⟨rfl, hf, -⟩
        have HF5 := Lib.hid hf
        clear hf
        rw [hg]
        go_wp2_with fail
        go_ret
        exact ⟨rfl, HF5.out.grew⟩
      · refine (count_run m _).mono ?_
        rintro e w3 ⟨rfl, rfl⟩
        rw [count_mid ‹_› ‹_›]
        go_wp2_with fail
        refine (alive_at HF1.out).mono ?_
        rintro e w4 ⟨rfl, hf, -⟩
        have HF4 := Lib.hid hf
        clear hf
        go_wp2_with fail
        refine (good_at HF4.out (HF4.out.arg HA.out) (by omega)).mono ?_
        rintro e w5 ⟨rfl, hf, -⟩
        have HF5 := Lib.hid hf
        clear hf
        rw [hg]
        go_wp2_with fail
        go_ret
        exact ⟨rfl, HF5.out.grew⟩
      · refine (alive_at HF1.out).mono ?_
        rintro e w4 ⟨rfl, hf, -⟩
        have HF4 := Lib.hid hf
        clear hf
        go_wp2_with fail
        refine (good_at HF4.out (HF4.out.arg HA.out) (by omega)).mono ?_
        rintro e w5 ⟨rfl, hf, -⟩
        have HF5 := Lib.hid hf
        clear hf
        rw [hg]
        go_wp2_with fail
        go_ret
        exact ⟨rfl, HF5.out.grew⟩
    · go_enter Tryd.func5, Tryd.ntmps5
      go_wp2_with fail
      refine (wrap_yes_at HF.out HA.out (by omega) hg).mono ?_
      rintro e w1 ⟨pf, cf, rfl, haf, hf, hb⟩
      have HF1 := Lib.hid hf
      have HB1 := Lib.hid hb
      have hk : ∀ w', Below w1.heap.size w1 w' → (convert 23 9 (.slice pf (n + 3) cf)).run Tryd.prog w' = .ok (.string (strOfNums (wrapL bs))) w' := fun w' hb => (haf.below hb).conv
      have hall : ∀ w' q c', ArgC w' q (n + 3) c' (wrapL bs) → (convert 23 9 (.slice q (n + 3) c')).run Tryd.prog w' = .ok (.string (strOfNums (wrapL bs))) w' := fun w' q c' h => h.conv
      have hss := str_eq (strOfNums (wrapL bs))
      generalize strOfNums (wrapL bs) = S at hk hall hss
      have HK := Lib.hid hk
      have HL := Lib.hid hall
      have k0 : (convert 23 9 (.slice pf (n + 3) cf)).run Tryd.prog w1.drew = .ok (.string S) w1.drew := hk w1.drew (Below.refl _ _).drew
      clear hf hb haf hk hall
      go_wp2_with fail
      refine (rgood_run p n c bs w1 (HA.out.below HB1.out) (by omega)).mono ?_
      rintro e w2 ⟨rfl, rfl⟩
      rw [hg]
      go_wp2_with fail
      rotate_left 1
      rotate_left 1
      · refine (count_run m _).mono ?_
        rintro e w3 ⟨rfl, rfl⟩
        rw [count_neg ‹_›]
        go_wp2_with fail
        refine wp_region_held_drew (S := fun w' => (convert 23 9 (.slice pf (n + 3) cf)).run Tryd.prog w' = .ok (.string S) w') (by kernel_rfl) k0 (fun hH0 => ?_)
        refine wpAnyH_ready (rs := [0]) (by kernel_rfl) (by simp) ?_
        refine AllReadyH.cons (o := { dst := some 53, op := Op.call { callee := Callee.value (Operand.func 22), args := #[], argTypes := #[] }, type := 4, pos := "law.go:33", after := #[], guard := none }) rfl (fun K hK => ?_) AllReadyH.nil
        go_simp
        go_at_call 22
        refine (alive_at HF1.out.drew).mono ?_
        rintro e wa ⟨rfl, hfa, hba⟩
        try go_wp2_with fail
        refine hK.out _ _ (HK.out _ ((Below.refl _ _).drew.trans hba)) (fun hH1 => ?_)
        clear hK K
        try simp only [Act.put, List.setIfInBounds_toArray, List.set_cons_zero, List.set_cons_succ]
        refine wpAnyH_take (i := 1) (oi := { dst := some 54, op := Op.move (Operand.tmp 53), type := 4, pos := "law.go:33", after := #[{ on := 0, ground := Ground.data }, { on := 0, ground := Ground.chain }], guard := none }) (v := ?_) rfl (by kernel_rfl) (by kernel_rfl) (by kernel_rfl) (fun _ _ _ h => h) (Or.inl ⟨by rfl, ?_⟩) hH1 ?_
        rotate_left 1
        · intro w hSw
          (try dsimp only at hSw)
          first | (go_simp; done) | (go_simp; with_reducible rfl)
        try simp only [Act.put, List.setIfInBounds_toArray, List.set_cons_zero, List.set_cons_succ]
        refine wpAnyH_take (i := 2) (oi := { dst := some 55, op := Op.move (Operand.tmp 0), type := 23, pos := "law.go:33", after := #[{ on := 1, ground := Ground.guard }], guard := some (1, true) }) (v := ?_) rfl (by kernel_rfl) (by kernel_rfl) (by kernel_rfl) (fun _ _ _ h => h) (Or.inl ⟨by rfl, ?_⟩) hH1 ?_
        rotate_left 1
        · intro w hSw
          (try dsimp only at hSw)
          first | (go_simp; done) | (go_simp; with_reducible rfl)
        try simp only [Act.put, List.setIfInBounds_toArray, List.set_cons_zero, List.set_cons_succ]
        refine wpAnyH_ready (rs := [3]) (by kernel_rfl) (by simp) ?_
        refine AllReadyH.cons (o := { dst := some 56, op := Op.call { callee := Callee.value (Operand.func 25), args := #[Operand.tmp 55], argTypes := #[23] }, type := 4, pos := "law.go:33", after := #[{ on := 2, ground := Ground.data }, { on := 1, ground := Ground.chain }, { on := 1, ground := Ground.guard }], guard := some (1, true) }) rfl (fun K hK => ?_) AllReadyH.nil
        go_simp
        go_at_call 25
        refine (good_yes hfa hg (hfa.arg HA.out) (by omega)).mono ?_
        rintro e wb ⟨rfl, hfb, hbb⟩
        try go_wp2_with fail
        refine hK.out _ _ (HK.out _ ((Below.refl _ _).drew.trans (hba.trans (hbb.mono hba.size)))) (fun hH2 => ?_)
        clear hK K
        try simp only [Act.put, List.setIfInBounds_toArray, List.set_cons_zero, List.set_cons_succ]
        refine wpAnyH_take (i := 4) (oi := { dst := some 57, op := Op.pick (Operand.tmp 54) (Operand.tmp 56) (Operand.const (Value.bool false)), type := 4, pos := "law.go:33", after := #[{ on := 1, ground := Ground.data }, { on := 3, ground := Ground.data }], guard := none }) (v := ?_) rfl (by kernel_rfl) (by kernel_rfl) (by kernel_rfl) (fun _ _ _ h => h) (Or.inl ⟨by rfl, ?_⟩) hH2 ?_
        rotate_left 1
        · intro w hSw
          (try dsimp only at hSw)
          first | (go_simp; done) | (go_simp; with_reducible rfl)
        try simp only [Act.put, List.setIfInBounds_toArray, List.set_cons_zero, List.set_cons_succ]
        refine wpAnyH_take (i := 5) (oi := { dst := some 58, op := Op.move (Operand.tmp 57), type := 4, pos := "law.go:33", after := #[{ on := 4, ground := Ground.data }, { on := 3, ground := Ground.chain }], guard := none }) (v := ?_) rfl (by kernel_rfl) (by kernel_rfl) (by kernel_rfl) (fun _ _ _ h => h) (Or.inl ⟨by rfl, ?_⟩) hH2 ?_
        rotate_left 1
        · intro w hSw
          (try dsimp only at hSw)
          first | (go_simp; done) | (go_simp; with_reducible rfl)
        try simp only [Act.put, List.setIfInBounds_toArray, List.set_cons_zero, List.set_cons_succ]
        refine wpAnyH_take (i := 6) (oi := { dst := some 59, op := Op.move (Operand.tmp 6), type := 27, pos := "law.go:33", after := #[{ on := 5, ground := Ground.guard }], guard := some (5, true) }) (v := ?_) rfl (by kernel_rfl) (by kernel_rfl) (by kernel_rfl) (fun _ _ _ h => h) (Or.inl ⟨by rfl, ?_⟩) hH2 ?_
        rotate_left 1
        · intro w hSw
          (try dsimp only at hSw)
          first | (go_simp; done) | (go_simp; with_reducible rfl)
        try simp only [Act.put, List.setIfInBounds_toArray, List.set_cons_zero, List.set_cons_succ]
        refine wpAnyH_take (i := 7) (oi := { dst := some 60, op := Op.binOp BinOp.eql 27 (Operand.tmp 59) (Operand.const (Value.int IntKind.i64 0)) 27, type := 4, pos := "law.go:33", after := #[{ on := 6, ground := Ground.data }, { on := 5, ground := Ground.guard }], guard := some (5, true) }) (v := ?_) rfl (by kernel_rfl) (by kernel_rfl) (by kernel_rfl) (fun _ _ _ h => h) (Or.inl ⟨by rfl, ?_⟩) hH2 ?_
        rotate_left 1
        · intro w hSw
          (try dsimp only at hSw)
          first | (go_simp; done) | (go_simp; with_reducible rfl)
        try simp only [Act.put, List.setIfInBounds_toArray, List.set_cons_zero, List.set_cons_succ]
        refine wpAnyH_take (i := 8) (oi := { dst := some 61, op := Op.pick (Operand.tmp 58) (Operand.tmp 60) (Operand.const (Value.bool false)), type := 4, pos := "law.go:33", after := #[{ on := 5, ground := Ground.data }, { on := 7, ground := Ground.data }], guard := none }) (v := ?_) rfl (by kernel_rfl) (by kernel_rfl) (by kernel_rfl) (fun _ _ _ h => h) (Or.inl ⟨by rfl, ?_⟩) hH2 ?_
        rotate_left 1
        · intro w hSw
          (try dsimp only at hSw)
          first | (go_simp; done) | (go_simp; with_reducible rfl)
        try simp only [Act.put, List.setIfInBounds_toArray, List.set_cons_zero, List.set_cons_succ]
        refine wpAnyH_take (i := 9) (oi := { dst := some 62, op := Op.move (Operand.tmp 61), type := 4, pos := "law.go:33", after := #[{ on := 8, ground := Ground.data }, { on := 5, ground := Ground.chain }], guard := none }) (v := ?_) rfl (by kernel_rfl) (by kernel_rfl) (by kernel_rfl) (fun _ _ _ h => h) (Or.inl ⟨by rfl, ?_⟩) hH2 ?_
        rotate_left 1
        · intro w hSw
          (try dsimp only at hSw)
          first | (go_simp; done) | (go_simp; with_reducible rfl)
        try simp only [Act.put, List.setIfInBounds_toArray, List.set_cons_zero, List.set_cons_succ]
        refine wpAnyH_take (i := 10) (oi := { dst := some 63, op := Op.move (Operand.tmp 5), type := 23, pos := "law.go:33", after := #[{ on := 9, ground := Ground.guard }], guard := some (9, true) }) (v := ?_) rfl (by kernel_rfl) (by kernel_rfl) (by kernel_rfl) (fun _ _ _ h => h) (Or.inl ⟨by rfl, ?_⟩) hH2 ?_
        rotate_left 1
        · intro w hSw
          (try dsimp only at hSw)
          first | (go_simp; done) | (go_simp; with_reducible rfl)
        try simp only [Act.put, List.setIfInBounds_toArray, List.set_cons_zero, List.set_cons_succ]
        refine wpAnyH_take (i := 11) (oi := { dst := some 64, op := Op.convert 23 9 (Operand.tmp 63), type := 9, pos := "law.go:33", after := #[{ on := 10, ground := Ground.data }, { on := 9, ground := Ground.guard }], guard := some (9, true) }) (v := ?_) rfl (by kernel_rfl) (by kernel_rfl) (by kernel_rfl) (fun _ _ _ h => h) (Or.inl ⟨by rfl, ?_⟩) hH2 ?_
        rotate_left 1
        · intro w hSw
          (try dsimp only at hSw)
          first | (go_simp; done) | (go_simp; with_reducible rfl)
        try simp only [Act.put, List.setIfInBounds_toArray, List.set_cons_zero, List.set_cons_succ]
        refine wpAnyH_take (i := 12) (oi := { dst := some 65, op := Op.move (Operand.tmp 0), type := 23, pos := "law.go:33", after := #[{ on := 9, ground := Ground.guard }], guard := some (9, true) }) (v := ?_) rfl (by kernel_rfl) (by kernel_rfl) (by kernel_rfl) (fun _ _ _ h => h) (Or.inl ⟨by rfl, ?_⟩) hH2 ?_
        rotate_left 1
        · intro w hSw
          (try dsimp only at hSw)
          first | (go_simp; done) | (go_simp; with_reducible rfl)
        try simp only [Act.put, List.setIfInBounds_toArray, List.set_cons_zero, List.set_cons_succ]
        refine wpAnyH_ready (rs := [13]) (by kernel_rfl) (by simp) ?_
        refine AllReadyH.cons (o := { dst := some 66, op := Op.call { callee := Callee.value (Operand.func 26), args := #[Operand.tmp 65], argTypes := #[23] }, type := 23, pos := "law.go:33", after := #[{ on := 12, ground := Ground.data }, { on := 9, ground := Ground.chain }, { on := 9, ground := Ground.guard }], guard := some (9, true) }) rfl (fun K hK => ?_) AllReadyH.nil
        go_simp
        go_at_call 26
        refine (rwrap_at hfb (hfb.arg HA.out) (by omega)).mono ?_
        rintro e wc ⟨p2, c2, rfl, ha2, hfc, hbc⟩
        have hcv2 := HL.out _ _ _ ha2
        try go_wp2_with fail
        refine hK.out _ _ (HK.out _ ((Below.refl _ _).drew.trans (hba.trans ((hbb.trans (hbc.mono hbb.size)).mono hba.size)))) (fun hH3 => ?_)
        clear hK K
        try simp only [Act.put, List.setIfInBounds_toArray, List.set_cons_zero, List.set_cons_succ]
        have hH4 : (convert 23 9 (.slice pf (n + 3) cf)).run Tryd.prog wc = .ok (.string S) wc ∧ (convert 23 9 (.slice p2 (n + 3) c2)).run Tryd.prog wc = .ok (.string S) wc := ⟨hH3, hcv2⟩
        refine wpAnyH_weak (S' := fun w' => (convert 23 9 (.slice pf (n + 3) cf)).run Tryd.prog w' = .ok (.string S) w' ∧ (convert 23 9 (.slice p2 (n + 3) c2)).run Tryd.prog w' = .ok (.string S) w') (fun _ h => h.1) _ _ _ _ ?_
        refine wpAnyH_take (i := 14) (oi := { dst := some 67, op := Op.convert 23 9 (Operand.tmp 66), type := 9, pos := "law.go:33", after := #[{ on := 13, ground := Ground.data }, { on := 9, ground := Ground.guard }], guard := some (9, true) }) (v := ?_) rfl (by kernel_rfl) (by kernel_rfl) (by kernel_rfl) (fun _ _ _ h => h) (Or.inl ⟨by rfl, ?_⟩) hH4 ?_
        rotate_left 1
        · intro w hSw
          obtain ⟨hSa, hSb⟩ := hSw
          first | (go_simp; done) | (go_simp; with_reducible rfl)
        try simp only [Act.put, List.setIfInBounds_toArray, List.set_cons_zero, List.set_cons_succ]
        refine wpAnyH_take (i := 15) (oi := { dst := some 68, op := Op.binOp BinOp.eql 9 (Operand.tmp 64) (Operand.tmp 67) 9, type := 4, pos := "law.go:33", after := #[{ on := 11, ground := Ground.data }, { on := 14, ground := Ground.data }, { on := 9, ground := Ground.guard }], guard := some (9, true) }) (v := ?_) rfl (by kernel_rfl) (by kernel_rfl) (by kernel_rfl) (fun _ _ _ h => h) (Or.inl ⟨by rfl, ?_⟩) hH4 ?_
        rotate_left 1
        · intro w hSw
          obtain ⟨hSa, hSb⟩ := hSw
          first | (go_simp; done) | (go_simp; with_reducible rfl)
        try simp only [Act.put, List.setIfInBounds_toArray, List.set_cons_zero, List.set_cons_succ]
        refine wpAnyH_take (i := 16) (oi := { dst := some 69, op := Op.pick (Operand.tmp 62) (Operand.tmp 68) (Operand.const (Value.bool false)), type := 4, pos := "law.go:33", after := #[{ on := 9, ground := Ground.data }, { on := 15, ground := Ground.data }], guard := none }) (v := ?_) rfl (by kernel_rfl) (by kernel_rfl) (by kernel_rfl) (fun _ _ _ h => h) (Or.inl ⟨by rfl, ?_⟩) hH4 ?_
        rotate_left 1
        · intro w hSw
          obtain ⟨hSa, hSb⟩ := hSw
          first | (go_simp; done) | (go_simp; with_reducible rfl)
        try simp only [Act.put, List.setIfInBounds_toArray, List.set_cons_zero, List.set_cons_succ]
        refine wpAnyH_take (i := 17) (oi := { dst := some 4, op := Op.assign (Operand.tmp 69), type := 4, pos := "law.go:33", after := #[{ on := 16, ground := Ground.data }, { on := 13, ground := Ground.chain }, { on := 0, ground := Ground.phase }, { on := 1, ground := Ground.phase }, { on := 2, ground := Ground.phase }, { on := 3, ground := Ground.phase }, { on := 4, ground := Ground.phase }, { on := 5, ground := Ground.phase }, { on := 6, ground := Ground.phase }, { on := 7, ground := Ground.phase }, { on := 8, ground := Ground.phase }, { on := 9, ground := Ground.phase }, { on := 10, ground := Ground.phase }, { on := 11, ground := Ground.phase }, { on := 12, ground := Ground.phase }, { on := 13, ground := Ground.phase }, { on := 14, ground := Ground.phase }, { on := 15, ground := Ground.phase }, { on := 16, ground := Ground.phase }], guard := none }) (v := ?_) rfl (by kernel_rfl) (by kernel_rfl) (by kernel_rfl) (fun _ _ _ h => h) (Or.inl ⟨by rfl, ?_⟩) hH4 ?_
        rotate_left 1
        · intro w hSw
          obtain ⟨hSa, hSb⟩ := hSw
          first | (go_simp; done) | (go_simp; with_reducible rfl)
        try simp only [Act.put, List.setIfInBounds_toArray, List.set_cons_zero, List.set_cons_succ]
        refine wpAnyH_done (by kernel_rfl) ?_ _
        go_wp2_with fail
        go_ret
        exact ⟨rfl, hfc.grew⟩
      · refine (count_run m _).mono ?_
        rintro e w3 ⟨rfl, rfl⟩
        rw [count_mid ‹_› ‹_›]
        go_wp2_with fail
        refine wp_region_held_drew (S := fun w' => (convert 23 9 (.slice pf (n + 3) cf)).run Tryd.prog w' = .ok (.string S) w') (by kernel_rfl) k0 (fun hH0 => ?_)
        refine wpAnyH_ready (rs := [0]) (by kernel_rfl) (by simp) ?_
        refine AllReadyH.cons (o := { dst := some 53, op := Op.call { callee := Callee.value (Operand.func 22), args := #[], argTypes := #[] }, type := 4, pos := "law.go:33", after := #[], guard := none }) rfl (fun K hK => ?_) AllReadyH.nil
        go_simp
        go_at_call 22
        refine (alive_at HF1.out.drew).mono ?_
        rintro e wa ⟨rfl, hfa, hba⟩
        try go_wp2_with fail
        refine hK.out _ _ (HK.out _ ((Below.refl _ _).drew.trans hba)) (fun hH1 => ?_)
        clear hK K
        try simp only [Act.put, List.setIfInBounds_toArray, List.set_cons_zero, List.set_cons_succ]
        refine wpAnyH_take (i := 1) (oi := { dst := some 54, op := Op.move (Operand.tmp 53), type := 4, pos := "law.go:33", after := #[{ on := 0, ground := Ground.data }, { on := 0, ground := Ground.chain }], guard := none }) (v := ?_) rfl (by kernel_rfl) (by kernel_rfl) (by kernel_rfl) (fun _ _ _ h => h) (Or.inl ⟨by rfl, ?_⟩) hH1 ?_
        rotate_left 1
        · intro w hSw
          (try dsimp only at hSw)
          first | (go_simp; done) | (go_simp; with_reducible rfl)
        try simp only [Act.put, List.setIfInBounds_toArray, List.set_cons_zero, List.set_cons_succ]
        refine wpAnyH_take (i := 2) (oi := { dst := some 55, op := Op.move (Operand.tmp 0), type := 23, pos := "law.go:33", after := #[{ on := 1, ground := Ground.guard }], guard := some (1, true) }) (v := ?_) rfl (by kernel_rfl) (by kernel_rfl) (by kernel_rfl) (fun _ _ _ h => h) (Or.inl ⟨by rfl, ?_⟩) hH1 ?_
        rotate_left 1
        · intro w hSw
          (try dsimp only at hSw)
          first | (go_simp; done) | (go_simp; with_reducible rfl)
        try simp only [Act.put, List.setIfInBounds_toArray, List.set_cons_zero, List.set_cons_succ]
        refine wpAnyH_ready (rs := [3]) (by kernel_rfl) (by simp) ?_
        refine AllReadyH.cons (o := { dst := some 56, op := Op.call { callee := Callee.value (Operand.func 25), args := #[Operand.tmp 55], argTypes := #[23] }, type := 4, pos := "law.go:33", after := #[{ on := 2, ground := Ground.data }, { on := 1, ground := Ground.chain }, { on := 1, ground := Ground.guard }], guard := some (1, true) }) rfl (fun K hK => ?_) AllReadyH.nil
        go_simp
        go_at_call 25
        refine (good_yes hfa hg (hfa.arg HA.out) (by omega)).mono ?_
        rintro e wb ⟨rfl, hfb, hbb⟩
        try go_wp2_with fail
        refine hK.out _ _ (HK.out _ ((Below.refl _ _).drew.trans (hba.trans (hbb.mono hba.size)))) (fun hH2 => ?_)
        clear hK K
        try simp only [Act.put, List.setIfInBounds_toArray, List.set_cons_zero, List.set_cons_succ]
        refine wpAnyH_take (i := 4) (oi := { dst := some 57, op := Op.pick (Operand.tmp 54) (Operand.tmp 56) (Operand.const (Value.bool false)), type := 4, pos := "law.go:33", after := #[{ on := 1, ground := Ground.data }, { on := 3, ground := Ground.data }], guard := none }) (v := ?_) rfl (by kernel_rfl) (by kernel_rfl) (by kernel_rfl) (fun _ _ _ h => h) (Or.inl ⟨by rfl, ?_⟩) hH2 ?_
        rotate_left 1
        · intro w hSw
          (try dsimp only at hSw)
          first | (go_simp; done) | (go_simp; with_reducible rfl)
        try simp only [Act.put, List.setIfInBounds_toArray, List.set_cons_zero, List.set_cons_succ]
        refine wpAnyH_take (i := 5) (oi := { dst := some 58, op := Op.move (Operand.tmp 57), type := 4, pos := "law.go:33", after := #[{ on := 4, ground := Ground.data }, { on := 3, ground := Ground.chain }], guard := none }) (v := ?_) rfl (by kernel_rfl) (by kernel_rfl) (by kernel_rfl) (fun _ _ _ h => h) (Or.inl ⟨by rfl, ?_⟩) hH2 ?_
        rotate_left 1
        · intro w hSw
          (try dsimp only at hSw)
          first | (go_simp; done) | (go_simp; with_reducible rfl)
        try simp only [Act.put, List.setIfInBounds_toArray, List.set_cons_zero, List.set_cons_succ]
        refine wpAnyH_take (i := 6) (oi := { dst := some 59, op := Op.move (Operand.tmp 6), type := 27, pos := "law.go:33", after := #[{ on := 5, ground := Ground.guard }], guard := some (5, true) }) (v := ?_) rfl (by kernel_rfl) (by kernel_rfl) (by kernel_rfl) (fun _ _ _ h => h) (Or.inl ⟨by rfl, ?_⟩) hH2 ?_
        rotate_left 1
        · intro w hSw
          (try dsimp only at hSw)
          first | (go_simp; done) | (go_simp; with_reducible rfl)
        try simp only [Act.put, List.setIfInBounds_toArray, List.set_cons_zero, List.set_cons_succ]
        refine wpAnyH_take (i := 7) (oi := { dst := some 60, op := Op.binOp BinOp.eql 27 (Operand.tmp 59) (Operand.const (Value.int IntKind.i64 0)) 27, type := 4, pos := "law.go:33", after := #[{ on := 6, ground := Ground.data }, { on := 5, ground := Ground.guard }], guard := some (5, true) }) (v := ?_) rfl (by kernel_rfl) (by kernel_rfl) (by kernel_rfl) (fun _ _ _ h => h) (Or.inl ⟨by rfl, ?_⟩) hH2 ?_
        rotate_left 1
        · intro w hSw
          (try dsimp only at hSw)
          first | (go_simp; done) | (go_simp; with_reducible rfl)
        try simp only [Act.put, List.setIfInBounds_toArray, List.set_cons_zero, List.set_cons_succ]
        refine wpAnyH_take (i := 8) (oi := { dst := some 61, op := Op.pick (Operand.tmp 58) (Operand.tmp 60) (Operand.const (Value.bool false)), type := 4, pos := "law.go:33", after := #[{ on := 5, ground := Ground.data }, { on := 7, ground := Ground.data }], guard := none }) (v := ?_) rfl (by kernel_rfl) (by kernel_rfl) (by kernel_rfl) (fun _ _ _ h => h) (Or.inl ⟨by rfl, ?_⟩) hH2 ?_
        rotate_left 1
        · intro w hSw
          (try dsimp only at hSw)
          first | (go_simp; done) | (go_simp; with_reducible rfl)
        try simp only [Act.put, List.setIfInBounds_toArray, List.set_cons_zero, List.set_cons_succ]
        refine wpAnyH_take (i := 9) (oi := { dst := some 62, op := Op.move (Operand.tmp 61), type := 4, pos := "law.go:33", after := #[{ on := 8, ground := Ground.data }, { on := 5, ground := Ground.chain }], guard := none }) (v := ?_) rfl (by kernel_rfl) (by kernel_rfl) (by kernel_rfl) (fun _ _ _ h => h) (Or.inl ⟨by rfl, ?_⟩) hH2 ?_
        rotate_left 1
        · intro w hSw
          (try dsimp only at hSw)
          first | (go_simp; done) | (go_simp; with_reducible rfl)
        try simp only [Act.put, List.setIfInBounds_toArray, List.set_cons_zero, List.set_cons_succ]
        refine wpAnyH_take (i := 10) (oi := { dst := some 63, op := Op.move (Operand.tmp 5), type := 23, pos := "law.go:33", after := #[{ on := 9, ground := Ground.guard }], guard := some (9, true) }) (v := ?_) rfl (by kernel_rfl) (by kernel_rfl) (by kernel_rfl) (fun _ _ _ h => h) (Or.inl ⟨by rfl, ?_⟩) hH2 ?_
        rotate_left 1
        · intro w hSw
          (try dsimp only at hSw)
          first | (go_simp; done) | (go_simp; with_reducible rfl)
        try simp only [Act.put, List.setIfInBounds_toArray, List.set_cons_zero, List.set_cons_succ]
        refine wpAnyH_take (i := 11) (oi := { dst := some 64, op := Op.convert 23 9 (Operand.tmp 63), type := 9, pos := "law.go:33", after := #[{ on := 10, ground := Ground.data }, { on := 9, ground := Ground.guard }], guard := some (9, true) }) (v := ?_) rfl (by kernel_rfl) (by kernel_rfl) (by kernel_rfl) (fun _ _ _ h => h) (Or.inl ⟨by rfl, ?_⟩) hH2 ?_
        rotate_left 1
        · intro w hSw
          (try dsimp only at hSw)
          first | (go_simp; done) | (go_simp; with_reducible rfl)
        try simp only [Act.put, List.setIfInBounds_toArray, List.set_cons_zero, List.set_cons_succ]
        refine wpAnyH_take (i := 12) (oi := { dst := some 65, op := Op.move (Operand.tmp 0), type := 23, pos := "law.go:33", after := #[{ on := 9, ground := Ground.guard }], guard := some (9, true) }) (v := ?_) rfl (by kernel_rfl) (by kernel_rfl) (by kernel_rfl) (fun _ _ _ h => h) (Or.inl ⟨by rfl, ?_⟩) hH2 ?_
        rotate_left 1
        · intro w hSw
          (try dsimp only at hSw)
          first | (go_simp; done) | (go_simp; with_reducible rfl)
        try simp only [Act.put, List.setIfInBounds_toArray, List.set_cons_zero, List.set_cons_succ]
        refine wpAnyH_ready (rs := [13]) (by kernel_rfl) (by simp) ?_
        refine AllReadyH.cons (o := { dst := some 66, op := Op.call { callee := Callee.value (Operand.func 26), args := #[Operand.tmp 65], argTypes := #[23] }, type := 23, pos := "law.go:33", after := #[{ on := 12, ground := Ground.data }, { on := 9, ground := Ground.chain }, { on := 9, ground := Ground.guard }], guard := some (9, true) }) rfl (fun K hK => ?_) AllReadyH.nil
        go_simp
        go_at_call 26
        refine (rwrap_at hfb (hfb.arg HA.out) (by omega)).mono ?_
        rintro e wc ⟨p2, c2, rfl, ha2, hfc, hbc⟩
        have hcv2 := HL.out _ _ _ ha2
        try go_wp2_with fail
        refine hK.out _ _ (HK.out _ ((Below.refl _ _).drew.trans (hba.trans ((hbb.trans (hbc.mono hbb.size)).mono hba.size)))) (fun hH3 => ?_)
        clear hK K
        try simp only [Act.put, List.setIfInBounds_toArray, List.set_cons_zero, List.set_cons_succ]
        have hH4 : (convert 23 9 (.slice pf (n + 3) cf)).run Tryd.prog wc = .ok (.string S) wc ∧ (convert 23 9 (.slice p2 (n + 3) c2)).run Tryd.prog wc = .ok (.string S) wc := ⟨hH3, hcv2⟩
        refine wpAnyH_weak (S' := fun w' => (convert 23 9 (.slice pf (n + 3) cf)).run Tryd.prog w' = .ok (.string S) w' ∧ (convert 23 9 (.slice p2 (n + 3) c2)).run Tryd.prog w' = .ok (.string S) w') (fun _ h => h.1) _ _ _ _ ?_
        refine wpAnyH_take (i := 14) (oi := { dst := some 67, op := Op.convert 23 9 (Operand.tmp 66), type := 9, pos := "law.go:33", after := #[{ on := 13, ground := Ground.data }, { on := 9, ground := Ground.guard }], guard := some (9, true) }) (v := ?_) rfl (by kernel_rfl) (by kernel_rfl) (by kernel_rfl) (fun _ _ _ h => h) (Or.inl ⟨by rfl, ?_⟩) hH4 ?_
        rotate_left 1
        · intro w hSw
          obtain ⟨hSa, hSb⟩ := hSw
          first | (go_simp; done) | (go_simp; with_reducible rfl)
        try simp only [Act.put, List.setIfInBounds_toArray, List.set_cons_zero, List.set_cons_succ]
        refine wpAnyH_take (i := 15) (oi := { dst := some 68, op := Op.binOp BinOp.eql 9 (Operand.tmp 64) (Operand.tmp 67) 9, type := 4, pos := "law.go:33", after := #[{ on := 11, ground := Ground.data }, { on := 14, ground := Ground.data }, { on := 9, ground := Ground.guard }], guard := some (9, true) }) (v := ?_) rfl (by kernel_rfl) (by kernel_rfl) (by kernel_rfl) (fun _ _ _ h => h) (Or.inl ⟨by rfl, ?_⟩) hH4 ?_
        rotate_left 1
        · intro w hSw
          obtain ⟨hSa, hSb⟩ := hSw
          first | (go_simp; done) | (go_simp; with_reducible rfl)
        try simp only [Act.put, List.setIfInBounds_toArray, List.set_cons_zero, List.set_cons_succ]
        refine wpAnyH_take (i := 16) (oi := { dst := some 69, op := Op.pick (Operand.tmp 62) (Operand.tmp 68) (Operand.const (Value.bool false)), type := 4, pos := "law.go:33", after := #[{ on := 9, ground := Ground.data }, { on := 15, ground := Ground.data }], guard := none }) (v := ?_) rfl (by kernel_rfl) (by kernel_rfl) (by kernel_rfl) (fun _ _ _ h => h) (Or.inl ⟨by rfl, ?_⟩) hH4 ?_
        rotate_left 1
        · intro w hSw
          obtain ⟨hSa, hSb⟩ := hSw
          first | (go_simp; done) | (go_simp; with_reducible rfl)
        try simp only [Act.put, List.setIfInBounds_toArray, List.set_cons_zero, List.set_cons_succ]
        refine wpAnyH_take (i := 17) (oi := { dst := some 4, op := Op.assign (Operand.tmp 69), type := 4, pos := "law.go:33", after := #[{ on := 16, ground := Ground.data }, { on := 13, ground := Ground.chain }, { on := 0, ground := Ground.phase }, { on := 1, ground := Ground.phase }, { on := 2, ground := Ground.phase }, { on := 3, ground := Ground.phase }, { on := 4, ground := Ground.phase }, { on := 5, ground := Ground.phase }, { on := 6, ground := Ground.phase }, { on := 7, ground := Ground.phase }, { on := 8, ground := Ground.phase }, { on := 9, ground := Ground.phase }, { on := 10, ground := Ground.phase }, { on := 11, ground := Ground.phase }, { on := 12, ground := Ground.phase }, { on := 13, ground := Ground.phase }, { on := 14, ground := Ground.phase }, { on := 15, ground := Ground.phase }, { on := 16, ground := Ground.phase }], guard := none }) (v := ?_) rfl (by kernel_rfl) (by kernel_rfl) (by kernel_rfl) (fun _ _ _ h => h) (Or.inl ⟨by rfl, ?_⟩) hH4 ?_
        rotate_left 1
        · intro w hSw
          obtain ⟨hSa, hSb⟩ := hSw
          first | (go_simp; done) | (go_simp; with_reducible rfl)
        try simp only [Act.put, List.setIfInBounds_toArray, List.set_cons_zero, List.set_cons_succ]
        refine wpAnyH_done (by kernel_rfl) ?_ _
        go_wp2_with fail
        go_ret
        exact ⟨rfl, hfc.grew⟩
      · refine wp_region_held_drew (S := fun w' => (convert 23 9 (.slice pf (n + 3) cf)).run Tryd.prog w' = .ok (.string S) w') (by kernel_rfl) k0 (fun hH0 => ?_)
        refine wpAnyH_ready (rs := [0]) (by kernel_rfl) (by simp) ?_
        refine AllReadyH.cons (o := { dst := some 53, op := Op.call { callee := Callee.value (Operand.func 22), args := #[], argTypes := #[] }, type := 4, pos := "law.go:33", after := #[], guard := none }) rfl (fun K hK => ?_) AllReadyH.nil
        go_simp
        go_at_call 22
        refine (alive_at HF1.out.drew).mono ?_
        rintro e wa ⟨rfl, hfa, hba⟩
        try go_wp2_with fail
        refine hK.out _ _ (HK.out _ ((Below.refl _ _).drew.trans hba)) (fun hH1 => ?_)
        clear hK K
        try simp only [Act.put, List.setIfInBounds_toArray, List.set_cons_zero, List.set_cons_succ]
        refine wpAnyH_take (i := 1) (oi := { dst := some 54, op := Op.move (Operand.tmp 53), type := 4, pos := "law.go:33", after := #[{ on := 0, ground := Ground.data }, { on := 0, ground := Ground.chain }], guard := none }) (v := ?_) rfl (by kernel_rfl) (by kernel_rfl) (by kernel_rfl) (fun _ _ _ h => h) (Or.inl ⟨by rfl, ?_⟩) hH1 ?_
        rotate_left 1
        · intro w hSw
          (try dsimp only at hSw)
          first | (go_simp; done) | (go_simp; with_reducible rfl)
        try simp only [Act.put, List.setIfInBounds_toArray, List.set_cons_zero, List.set_cons_succ]
        refine wpAnyH_take (i := 2) (oi := { dst := some 55, op := Op.move (Operand.tmp 0), type := 23, pos := "law.go:33", after := #[{ on := 1, ground := Ground.guard }], guard := some (1, true) }) (v := ?_) rfl (by kernel_rfl) (by kernel_rfl) (by kernel_rfl) (fun _ _ _ h => h) (Or.inl ⟨by rfl, ?_⟩) hH1 ?_
        rotate_left 1
        · intro w hSw
          (try dsimp only at hSw)
          first | (go_simp; done) | (go_simp; with_reducible rfl)
        try simp only [Act.put, List.setIfInBounds_toArray, List.set_cons_zero, List.set_cons_succ]
        refine wpAnyH_ready (rs := [3]) (by kernel_rfl) (by simp) ?_
        refine AllReadyH.cons (o := { dst := some 56, op := Op.call { callee := Callee.value (Operand.func 25), args := #[Operand.tmp 55], argTypes := #[23] }, type := 4, pos := "law.go:33", after := #[{ on := 2, ground := Ground.data }, { on := 1, ground := Ground.chain }, { on := 1, ground := Ground.guard }], guard := some (1, true) }) rfl (fun K hK => ?_) AllReadyH.nil
        go_simp
        go_at_call 25
        refine (good_yes hfa hg (hfa.arg HA.out) (by omega)).mono ?_
        rintro e wb ⟨rfl, hfb, hbb⟩
        try go_wp2_with fail
        refine hK.out _ _ (HK.out _ ((Below.refl _ _).drew.trans (hba.trans (hbb.mono hba.size)))) (fun hH2 => ?_)
        clear hK K
        try simp only [Act.put, List.setIfInBounds_toArray, List.set_cons_zero, List.set_cons_succ]
        refine wpAnyH_take (i := 4) (oi := { dst := some 57, op := Op.pick (Operand.tmp 54) (Operand.tmp 56) (Operand.const (Value.bool false)), type := 4, pos := "law.go:33", after := #[{ on := 1, ground := Ground.data }, { on := 3, ground := Ground.data }], guard := none }) (v := ?_) rfl (by kernel_rfl) (by kernel_rfl) (by kernel_rfl) (fun _ _ _ h => h) (Or.inl ⟨by rfl, ?_⟩) hH2 ?_
        rotate_left 1
        · intro w hSw
          (try dsimp only at hSw)
          first | (go_simp; done) | (go_simp; with_reducible rfl)
        try simp only [Act.put, List.setIfInBounds_toArray, List.set_cons_zero, List.set_cons_succ]
        refine wpAnyH_take (i := 5) (oi := { dst := some 58, op := Op.move (Operand.tmp 57), type := 4, pos := "law.go:33", after := #[{ on := 4, ground := Ground.data }, { on := 3, ground := Ground.chain }], guard := none }) (v := ?_) rfl (by kernel_rfl) (by kernel_rfl) (by kernel_rfl) (fun _ _ _ h => h) (Or.inl ⟨by rfl, ?_⟩) hH2 ?_
        rotate_left 1
        · intro w hSw
          (try dsimp only at hSw)
          first | (go_simp; done) | (go_simp; with_reducible rfl)
        try simp only [Act.put, List.setIfInBounds_toArray, List.set_cons_zero, List.set_cons_succ]
        refine wpAnyH_take (i := 6) (oi := { dst := some 59, op := Op.move (Operand.tmp 6), type := 27, pos := "law.go:33", after := #[{ on := 5, ground := Ground.guard }], guard := some (5, true) }) (v := ?_) rfl (by kernel_rfl) (by kernel_rfl) (by kernel_rfl) (fun _ _ _ h => h) (Or.inl ⟨by rfl, ?_⟩) hH2 ?_
        rotate_left 1
        · intro w hSw
          (try dsimp only at hSw)
          first | (go_simp; done) | (go_simp; with_reducible rfl)
        try simp only [Act.put, List.setIfInBounds_toArray, List.set_cons_zero, List.set_cons_succ]
        refine wpAnyH_take (i := 7) (oi := { dst := some 60, op := Op.binOp BinOp.eql 27 (Operand.tmp 59) (Operand.const (Value.int IntKind.i64 0)) 27, type := 4, pos := "law.go:33", after := #[{ on := 6, ground := Ground.data }, { on := 5, ground := Ground.guard }], guard := some (5, true) }) (v := ?_) rfl (by kernel_rfl) (by kernel_rfl) (by kernel_rfl) (fun _ _ _ h => h) (Or.inl ⟨by rfl, ?_⟩) hH2 ?_
        rotate_left 1
        · intro w hSw
          (try dsimp only at hSw)
          first | (go_simp; done) | (go_simp; with_reducible rfl)
        try simp only [Act.put, List.setIfInBounds_toArray, List.set_cons_zero, List.set_cons_succ]
        refine wpAnyH_take (i := 8) (oi := { dst := some 61, op := Op.pick (Operand.tmp 58) (Operand.tmp 60) (Operand.const (Value.bool false)), type := 4, pos := "law.go:33", after := #[{ on := 5, ground := Ground.data }, { on := 7, ground := Ground.data }], guard := none }) (v := ?_) rfl (by kernel_rfl) (by kernel_rfl) (by kernel_rfl) (fun _ _ _ h => h) (Or.inl ⟨by rfl, ?_⟩) hH2 ?_
        rotate_left 1
        · intro w hSw
          (try dsimp only at hSw)
          first | (go_simp; done) | (go_simp; with_reducible rfl)
        try simp only [Act.put, List.setIfInBounds_toArray, List.set_cons_zero, List.set_cons_succ]
        refine wpAnyH_take (i := 9) (oi := { dst := some 62, op := Op.move (Operand.tmp 61), type := 4, pos := "law.go:33", after := #[{ on := 8, ground := Ground.data }, { on := 5, ground := Ground.chain }], guard := none }) (v := ?_) rfl (by kernel_rfl) (by kernel_rfl) (by kernel_rfl) (fun _ _ _ h => h) (Or.inl ⟨by rfl, ?_⟩) hH2 ?_
        rotate_left 1
        · intro w hSw
          (try dsimp only at hSw)
          first | (go_simp; done) | (go_simp; with_reducible rfl)
        try simp only [Act.put, List.setIfInBounds_toArray, List.set_cons_zero, List.set_cons_succ]
        refine wpAnyH_take (i := 10) (oi := { dst := some 63, op := Op.move (Operand.tmp 5), type := 23, pos := "law.go:33", after := #[{ on := 9, ground := Ground.guard }], guard := some (9, true) }) (v := ?_) rfl (by kernel_rfl) (by kernel_rfl) (by kernel_rfl) (fun _ _ _ h => h) (Or.inl ⟨by rfl, ?_⟩) hH2 ?_
        rotate_left 1
        · intro w hSw
          (try dsimp only at hSw)
          first | (go_simp; done) | (go_simp; with_reducible rfl)
        try simp only [Act.put, List.setIfInBounds_toArray, List.set_cons_zero, List.set_cons_succ]
        refine wpAnyH_take (i := 11) (oi := { dst := some 64, op := Op.convert 23 9 (Operand.tmp 63), type := 9, pos := "law.go:33", after := #[{ on := 10, ground := Ground.data }, { on := 9, ground := Ground.guard }], guard := some (9, true) }) (v := ?_) rfl (by kernel_rfl) (by kernel_rfl) (by kernel_rfl) (fun _ _ _ h => h) (Or.inl ⟨by rfl, ?_⟩) hH2 ?_
        rotate_left 1
        · intro w hSw
          (try dsimp only at hSw)
          first | (go_simp; done) | (go_simp; with_reducible rfl)
        try simp only [Act.put, List.setIfInBounds_toArray, List.set_cons_zero, List.set_cons_succ]
        refine wpAnyH_take (i := 12) (oi := { dst := some 65, op := Op.move (Operand.tmp 0), type := 23, pos := "law.go:33", after := #[{ on := 9, ground := Ground.guard }], guard := some (9, true) }) (v := ?_) rfl (by kernel_rfl) (by kernel_rfl) (by kernel_rfl) (fun _ _ _ h => h) (Or.inl ⟨by rfl, ?_⟩) hH2 ?_
        rotate_left 1
        · intro w hSw
          (try dsimp only at hSw)
          first | (go_simp; done) | (go_simp; with_reducible rfl)
        try simp only [Act.put, List.setIfInBounds_toArray, List.set_cons_zero, List.set_cons_succ]
        refine wpAnyH_ready (rs := [13]) (by kernel_rfl) (by simp) ?_
        refine AllReadyH.cons (o := { dst := some 66, op := Op.call { callee := Callee.value (Operand.func 26), args := #[Operand.tmp 65], argTypes := #[23] }, type := 23, pos := "law.go:33", after := #[{ on := 12, ground := Ground.data }, { on := 9, ground := Ground.chain }, { on := 9, ground := Ground.guard }], guard := some (9, true) }) rfl (fun K hK => ?_) AllReadyH.nil
        go_simp
        go_at_call 26
        refine (rwrap_at hfb (hfb.arg HA.out) (by omega)).mono ?_
        rintro e wc ⟨p2, c2, rfl, ha2, hfc, hbc⟩
        have hcv2 := HL.out _ _ _ ha2
        try go_wp2_with fail
        refine hK.out _ _ (HK.out _ ((Below.refl _ _).drew.trans (hba.trans ((hbb.trans (hbc.mono hbb.size)).mono hba.size)))) (fun hH3 => ?_)
        clear hK K
        try simp only [Act.put, List.setIfInBounds_toArray, List.set_cons_zero, List.set_cons_succ]
        have hH4 : (convert 23 9 (.slice pf (n + 3) cf)).run Tryd.prog wc = .ok (.string S) wc ∧ (convert 23 9 (.slice p2 (n + 3) c2)).run Tryd.prog wc = .ok (.string S) wc := ⟨hH3, hcv2⟩
        refine wpAnyH_weak (S' := fun w' => (convert 23 9 (.slice pf (n + 3) cf)).run Tryd.prog w' = .ok (.string S) w' ∧ (convert 23 9 (.slice p2 (n + 3) c2)).run Tryd.prog w' = .ok (.string S) w') (fun _ h => h.1) _ _ _ _ ?_
        refine wpAnyH_take (i := 14) (oi := { dst := some 67, op := Op.convert 23 9 (Operand.tmp 66), type := 9, pos := "law.go:33", after := #[{ on := 13, ground := Ground.data }, { on := 9, ground := Ground.guard }], guard := some (9, true) }) (v := ?_) rfl (by kernel_rfl) (by kernel_rfl) (by kernel_rfl) (fun _ _ _ h => h) (Or.inl ⟨by rfl, ?_⟩) hH4 ?_
        rotate_left 1
        · intro w hSw
          obtain ⟨hSa, hSb⟩ := hSw
          first | (go_simp; done) | (go_simp; with_reducible rfl)
        try simp only [Act.put, List.setIfInBounds_toArray, List.set_cons_zero, List.set_cons_succ]
        refine wpAnyH_take (i := 15) (oi := { dst := some 68, op := Op.binOp BinOp.eql 9 (Operand.tmp 64) (Operand.tmp 67) 9, type := 4, pos := "law.go:33", after := #[{ on := 11, ground := Ground.data }, { on := 14, ground := Ground.data }, { on := 9, ground := Ground.guard }], guard := some (9, true) }) (v := ?_) rfl (by kernel_rfl) (by kernel_rfl) (by kernel_rfl) (fun _ _ _ h => h) (Or.inl ⟨by rfl, ?_⟩) hH4 ?_
        rotate_left 1
        · intro w hSw
          obtain ⟨hSa, hSb⟩ := hSw
          first | (go_simp; done) | (go_simp; with_reducible rfl)
        try simp only [Act.put, List.setIfInBounds_toArray, List.set_cons_zero, List.set_cons_succ]
        refine wpAnyH_take (i := 16) (oi := { dst := some 69, op := Op.pick (Operand.tmp 62) (Operand.tmp 68) (Operand.const (Value.bool false)), type := 4, pos := "law.go:33", after := #[{ on := 9, ground := Ground.data }, { on := 15, ground := Ground.data }], guard := none }) (v := ?_) rfl (by kernel_rfl) (by kernel_rfl) (by kernel_rfl) (fun _ _ _ h => h) (Or.inl ⟨by rfl, ?_⟩) hH4 ?_
        rotate_left 1
        · intro w hSw
          obtain ⟨hSa, hSb⟩ := hSw
          first | (go_simp; done) | (go_simp; with_reducible rfl)
        try simp only [Act.put, List.setIfInBounds_toArray, List.set_cons_zero, List.set_cons_succ]
        refine wpAnyH_take (i := 17) (oi := { dst := some 4, op := Op.assign (Operand.tmp 69), type := 4, pos := "law.go:33", after := #[{ on := 16, ground := Ground.data }, { on := 13, ground := Ground.chain }, { on := 0, ground := Ground.phase }, { on := 1, ground := Ground.phase }, { on := 2, ground := Ground.phase }, { on := 3, ground := Ground.phase }, { on := 4, ground := Ground.phase }, { on := 5, ground := Ground.phase }, { on := 6, ground := Ground.phase }, { on := 7, ground := Ground.phase }, { on := 8, ground := Ground.phase }, { on := 9, ground := Ground.phase }, { on := 10, ground := Ground.phase }, { on := 11, ground := Ground.phase }, { on := 12, ground := Ground.phase }, { on := 13, ground := Ground.phase }, { on := 14, ground := Ground.phase }, { on := 15, ground := Ground.phase }, { on := 16, ground := Ground.phase }], guard := none }) (v := ?_) rfl (by kernel_rfl) (by kernel_rfl) (by kernel_rfl) (fun _ _ _ h => h) (Or.inl ⟨by rfl, ?_⟩) hH4 ?_
        rotate_left 1
        · intro w hSw
          obtain ⟨hSa, hSb⟩ := hSw
          first | (go_simp; done) | (go_simp; with_reducible rfl)
        try simp only [Act.put, List.setIfInBounds_toArray, List.set_cons_zero, List.set_cons_succ]
        refine wpAnyH_done (by kernel_rfl) ?_ _
        go_wp2_with fail
        go_ret
        exact ⟨rfl, hfc.grew⟩
  · have hnb : decide ((3000 : Int) < (n : Int)) = true := by simp; omega
    go_enter Tryd.func5, Tryd.ntmps5
    go_wp2_with fail
    refine (alive_at HF.out).mono ?_
    rintro e w1 ⟨rfl, hf, -⟩
    have HF1 := Lib.hid hf
    clear hf
    go_wp2_with fail
    go_ret
    exact ⟨rfl, HF1.out.grew⟩
end Go.Proofs.YthhbohpmbkdkeaaDoor
