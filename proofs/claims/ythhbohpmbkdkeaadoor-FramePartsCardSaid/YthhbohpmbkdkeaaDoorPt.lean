/- The walk of law04.FrameParts. -/
import Derived.Test.YthhbohpmbkdkeaaDoorFm
namespace Go.Proofs.YthhbohpmbkdkeaaDoor
open Go.RowKit

/-- a beginning of a row -/
theorem ArgC.init {w : World} {p : Option Addr} {n c : Nat} {bs : List Int} (h : ArgC w p n c bs) (k : Nat) (hk : k ≤ n) : ArgC w p k c (bs.take k) := by
  refine ⟨⟨by rw [List.length_take, h.len]; omega, fun j x hj => ?_, fun x hx => h.byte x (List.mem_of_mem_take hx)⟩, by have := h.cap; omega, fun e => by have := h.nil e; omega⟩
  have hjl := (List.getElem?_eq_some_iff.1 hj).1
  rw [List.length_take] at hjl
  rw [List.getElem?_take_of_lt (by omega)] at hj
  exact h.at_ j x hj

theorem wpList_unguard {P : Program} {ops : Array Oper} {Q : Exit → Act → World → Prop} {a : Act} {w : World} {rest : List Oper} {o : Oper} (hw : Region.wanted o (yielded ops a.tmps) = true)
    (h : wpList P ops Q ({ o with guard := none } :: rest) a w) : wpList P ops Q (o :: rest) a w := by
  unfold wpList at h ⊢
  rw [if_pos hw]
  rw [if_pos (by simp [Region.wanted])] at h
  exact h

theorem take_all {bs : List Int} {n k : Nat} (h : bs.length = n) (hk : k ≤ n) : (bs.drop k).take (n - k) = bs.drop k := List.take_of_length_le (by rw [List.length_drop]; omega)

set_option maxRecDepth 100000 in
set_option maxHeartbeats 8000000 in
theorem parts_any (p : Option Addr) (n c : Nat) (xs : List Int) (q : Option Addr) (m d : Nat) (bs : List Int) (w : World) (ha : ArgC w p n c xs) (hb : ArgC w q m d bs) (he : Ends w) :
    Calls Tryd.prog 6 #[.slice p n c, .slice q m d] w fun e w' => e = .returned (.bool true) ∧ Below w.heap.size w w' := by
  have HA := Lib.hid ha
  have HB := Lib.hid hb
  have HF := Lib.hid (From.refl he)
  clear ha hb he
  by_cases hn : n ≤ 400
  · have hnb : decide ((400 : Int) < (n : Int)) = false := by simp; omega
    by_cases hm : m ≤ 400
    · have hmb : decide ((400 : Int) < (m : Int)) = false := by simp; omega
      cases hga : goodL xs
      · go_enter Tryd.func6, Tryd.ntmps6
        go_wp2_with fail
        refine (good_yes HF.out hga HA.out (by omega)).mono ?_
        rintro e w1 ⟨rfl, hf, -⟩
        have HF1 := Lib.hid hf
        clear hf
        go_wp2_with fail
        refine (alive_at HF1.out).mono ?_
        rintro e w2 ⟨rfl, hf, -⟩
        have HF2 := Lib.hid hf
        clear hf
        go_wp2_with fail
        refine (good_yes HF2.out hga (HF2.out.arg HA.out) (by omega)).mono ?_
        rintro e w3 ⟨rfl, hf, -⟩
        have HF3 := Lib.hid hf
        clear hf
        go_wp2_with fail
        go_ret
        exact ⟨rfl, HF3.out.grew⟩
      · cases hgb : goodL bs
        · go_enter Tryd.func6, Tryd.ntmps6
          go_wp2_with fail
          refine (good_yes HF.out hga HA.out (by omega)).mono ?_
          rintro e w1 ⟨rfl, hf, -⟩
          have HF1 := Lib.hid hf
          clear hf
          go_wp2_with fail
          refine (good_yes HF1.out hgb (HF1.out.arg HB.out) (by omega)).mono ?_
          rintro e w2 ⟨rfl, hf, -⟩
          have HF2 := Lib.hid hf
          clear hf
          go_wp2_with fail
          refine (alive_at HF2.out).mono ?_
          rintro e w3 ⟨rfl, hf, -⟩
          have HF3 := Lib.hid hf
          clear hf
          go_wp2_with fail
          refine (good_yes HF3.out hga (HF3.out.arg HA.out) (by omega)).mono ?_
          rintro e w4 ⟨rfl, hf, -⟩
          have hl : (w4.alloc (.cells #[] 5)).ownsRow w4.heap.size 5 1 (.slice (some ⟨w4.heap.size, 0, none⟩) 0 0) 0 (([] : List Int).map (Value.int .u8)) := World.ownsRow_lit w4 #[] 0 (Nat.le_refl _) (by decide) rfl
          have HF4 := Lib.hid (And.intro hf (And.intro (hf.next ((Below.refl _ _).alloc (Nat.le_refl _) (.cells #[] 5))) hl))
          have hgab : goodL (xs ++ bs) = false := by rw [good_append hga, hgb]
          clear hf hl
          go_wp2_with ((at_builtin; refine wpList_unguard (by rfl) (at_append rfl _ _ rfl w4.heap.size _ 0 [] rfl HF4.out.2.2 p n c xs rfl (HF4.out.2.1.arg HA.out) (by omega) (by simp) ?_)))
          intro v5 w5 hown5 hg5 _
          have hb5 : Below w4.heap.size w4 w5 := ((Below.refl _ _).alloc (Nat.le_refl _) _).grown hg5 (by simp) (by intro k hk; simp [Value.ownBlock] at hk; omega)
          have hs5 : w4.heap.size ≤ w5.heap.size := hb5.size
          have HW5 := Lib.hid (And.intro hown5 (And.intro hb5 (HF4.out.1.next hb5)))
          clear hown5 hg5 hb5
          go_wp2_with ((at_builtin; refine wpList_unguard (by rfl) (at_append rfl _ _ rfl w4.heap.size v5 (0 + n) ([] ++ xs) rfl (by simpa using HW5.out.1) q m d bs rfl (HW5.out.2.2.arg HB.out) (by omega) hs5 ?_)))
          intro v6 w6 hown6 hg6 _
          have hb6 : Below w4.heap.size w4 w6 := HW5.out.2.1.grown hg6 hs5 (fun k hk => (HW5.out.1.lt k hk).1)
          obtain ⟨p6, c6, rfl, ha6⟩ := owned_arg (bs := xs ++ bs) (by simpa using hown6) (by intro y hy; rcases List.mem_append.1 hy with h | h; exact HA.out.byte y h; exact HB.out.byte y h)
          have HW6 := Lib.hid (And.intro ha6 (HF4.out.1.next hb6))
          clear hown6 hg6 hb6 ha6
          go_wp2_with fail
          refine (good_yes HW6.out.2 hgab HW6.out.1 (by omega)).mono ?_
          rintro e w7 ⟨rfl, hf7, -⟩
          have HF7 := Lib.hid hf7
          clear hf7
          go_wp2_with fail
          go_ret
          exact ⟨rfl, HF7.out.grew⟩
        · go_enter Tryd.func6, Tryd.ntmps6
          go_wp2_with fail
          refine (good_yes HF.out hga HA.out (by omega)).mono ?_
          rintro e w1 ⟨rfl, hf, -⟩
          have HF1 := Lib.hid hf
          clear hf
          go_wp2_with fail
          refine (good_yes HF1.out hgb (HF1.out.arg HB.out) (by omega)).mono ?_
          rintro e w2 ⟨rfl, hf, -⟩
          have HF2 := Lib.hid hf
          clear hf
          go_wp2_with fail
          go_loopw [5, 40] (fun i5 i wr => ∃ (j : Nat), i = .int .i64 j ∧ j ≤ n ∧ From w wr) (fun _ i _ => n - (intOf i).toNat)
          case atStart => exact ⟨0, rfl, Nat.zero_le _, HF2.out⟩
          case round =>
            obtain ⟨j, rfl, hj, hf⟩ := hrel
            by_cases hlt : j < n
            · have hjb : decide ((j : Int) < (n : Int)) = true := by simp; omega
              obtain ⟨b, off, x, hp, hx, -⟩ := HA.out.toArgB.look (j := j) hlt
              subst hp
              have hnc := HA.out.cap
              have hcj : ¬ c = j := by omega
              have HR := Lib.hid (And.intro hf (hf.arg HA.out))
              have hdr : ∀ w', From w w' → ArgC w' (some ⟨b, off + j, none⟩) (n - j) (c - j) (xs.drop j) := fun w' hf' => by
                have := (hf'.arg HA.out).part j n (by omega) (Nat.le_refl _)
                rwa [take_all HA.out.len hj] at this
              have HD := Lib.hid hdr
              clear hf hdr hx
              rcases Nat.eq_zero_or_pos j with hj0 | hj0
              · subst hj0
                go_wp2_with fail
                refine (good_yes (g := true) HR.out.1 rfl (HR.out.2.init 0 (Nat.zero_le _)) (by omega)).mono ?_
                rintro e w4 ⟨rfl, hf, -⟩
                have HF4 := Lib.hid hf
                clear hf
                go_wp2_with fail
                refine (good_yes HF4.out hga (HF4.out.arg HA.out) (by omega)).mono ?_
                rintro e w5 ⟨rfl, hf, -⟩
                have HF5 := Lib.hid hf
                clear hf
                go_wp2_with fail
                exact ⟨⟨1, by simp, hlt, HF5.out⟩, round_less hlt⟩
              · obtain ⟨b', off', y, hp, hy, hcy⟩ := HR.out.2.toArgB.look (j := j - 1) (by omega)
                cases hp
                have hj0b : ((j : Int) == 0) = false := by simp; omega
                have ht := good_take hga j (by have := HA.out.len; omega)
                rw [hy] at ht
                have e0 : (j == 0) = false := by simp; omega
                rw [e0, Bool.false_or] at ht
                by_cases y28 : y = 28
                · subst y28
                  have ht' : goodL (xs.take j) = false := by rw [ht]; rfl
                  have HT := Lib.hid ht'
                  clear ht ht' hy
                  go_wp2_with fail
                  refine (good_yes HR.out.1 HT.out (HR.out.2.init j hj) (by omega)).mono ?_
                  rintro e w4 ⟨rfl, hf, hb⟩
                  have HF4 := Lib.hid hf
                  have hcy' := below_keeps hb hcy
                  clear hf hb
                  go_wp2_with fail
                  refine (good_yes HF4.out (good_drop hga j) (HD.out _ HF4.out) (by omega)).mono ?_
                  rintro e w5 ⟨rfl, hf, -⟩
                  have HF5 := Lib.hid hf
                  clear hf
                  go_wp2_with fail
                  exact ⟨⟨j + 1, by simp, hlt, HF5.out⟩, round_less hlt⟩
                · have ht' : goodL (xs.take j) = true := by rw [ht]; simp [y28]
                  have n28 : (y != 28) = true := by simpa using y28
                  have d28 : (y == 28) = false := by simpa using y28
                  have HT := Lib.hid ht'
                  clear ht ht' hy
                  go_wp2_with fail
                  refine (good_yes HR.out.1 HT.out (HR.out.2.init j hj) (by omega)).mono ?_
                  rintro e w4 ⟨rfl, hf, hb⟩
                  have HF4 := Lib.hid hf
                  have hcy' := below_keeps hb hcy
                  clear hf hb
                  go_wp2_with fail
                  refine (good_yes HF4.out (good_drop hga j) (HD.out _ HF4.out) (by omega)).mono ?_
                  rintro e w5 ⟨rfl, hf, -⟩
                  have HF5 := Lib.hid hf
                  clear hf
                  go_wp2_with fail
                  exact ⟨⟨j + 1, by simp, hlt, HF5.out⟩, round_less hlt⟩
            · have hjb : decide ((j : Int) < (n : Int)) = false := by simp; omega
              have HFr := Lib.hid hf
              clear hf
              go_wp2_with fail
              refine (alive_at HFr.out).mono ?_
              rintro e w4 ⟨rfl, hf, -⟩
              have hl : (w4.alloc (.cells #[] 5)).ownsRow w4.heap.size 5 1 (.slice (some ⟨w4.heap.size, 0, none⟩) 0 0) 0 (([] : List Int).map (Value.int .u8)) := World.ownsRow_lit w4 #[] 0 (Nat.le_refl _) (by decide) rfl
              have HF4 := Lib.hid (And.intro hf (And.intro (hf.next ((Below.refl _ _).alloc (Nat.le_refl _) (.cells #[] 5))) hl))
              have hgab : goodL (xs ++ bs) = true := by rw [good_append hga, hgb]
              clear hf hl
              go_wp2_with ((at_builtin; refine wpList_unguard (by rfl) (at_append rfl _ _ rfl w4.heap.size _ 0 [] rfl HF4.out.2.2 p n c xs rfl (HF4.out.2.1.arg HA.out) (by omega) (by simp) ?_)))
              intro v5 w5 hown5 hg5 _
              have hb5 : Below w4.heap.size w4 w5 := ((Below.refl _ _).alloc (Nat.le_refl _) _).grown hg5 (by simp) (by intro k hk; simp [Value.ownBlock] at hk; omega)
              have hs5 : w4.heap.size ≤ w5.heap.size := hb5.size
              have HW5 := Lib.hid (And.intro hown5 (And.intro hb5 (HF4.out.1.next hb5)))
              clear hown5 hg5 hb5
              go_wp2_with ((at_builtin; refine wpList_unguard (by rfl) (at_append rfl _ _ rfl w4.heap.size v5 (0 + n) ([] ++ xs) rfl (by simpa using HW5.out.1) q m d bs rfl (HW5.out.2.2.arg HB.out) (by omega) hs5 ?_)))
              intro v6 w6 hown6 hg6 _
              have hb6 : Below w4.heap.size w4 w6 := HW5.out.2.1.grown hg6 hs5 (fun k hk => (HW5.out.1.lt k hk).1)
              obtain ⟨p6, c6, rfl, ha6⟩ := owned_arg (bs := xs ++ bs) (by simpa using hown6) (by intro y hy; rcases List.mem_append.1 hy with h | h; exact HA.out.byte y h; exact HB.out.byte y h)
              have HW6 := Lib.hid (And.intro ha6 (HF4.out.1.next hb6))
              clear hown6 hg6 hb6 ha6
              go_wp2_with fail
              refine (good_yes HW6.out.2 hgab HW6.out.1 (by omega)).mono ?_
              rintro e w7 ⟨rfl, hf7, -⟩
              have HF7 := Lib.hid hf7
              clear hf7
              go_wp2_with fail
              go_ret
              exact ⟨rfl, HF7.out.grew⟩
    · have hmb : decide ((400 : Int) < (m : Int)) = true := by simp; omega
      go_enter Tryd.func6, Tryd.ntmps6
      go_wp2_with fail
      refine (alive_at HF.out).mono ?_
      rintro e w1 ⟨rfl, hf, -⟩
      have HF1 := Lib.hid hf
      clear hf
      go_wp2_with fail
      go_ret
      exact ⟨rfl, HF1.out.grew⟩
  · have hnb : decide ((400 : Int) < (n : Int)) = true := by simp; omega
    go_enter Tryd.func6, Tryd.ntmps6
    go_wp2_with fail
    refine (alive_at HF.out).mono ?_
    rintro e w1 ⟨rfl, hf, -⟩
    have HF1 := Lib.hid hf
    clear hf
    go_wp2_with fail
    go_ret
    exact ⟨rfl, HF1.out.grew⟩
end Go.Proofs.YthhbohpmbkdkeaaDoor
