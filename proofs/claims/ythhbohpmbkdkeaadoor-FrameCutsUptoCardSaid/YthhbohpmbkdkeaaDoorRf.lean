/- The document's Good, Wrap, Unwrap; a part of a row. -/
import Derived.Test.YthhbohpmbkdkeaaDoorFw
namespace Go.Proofs.YthhbohpmbkdkeaaDoor
open Go.RowKit

theorem goodL_step {x : Int} {l : List Int} (h : (x == 11) = false) (h2 : (x == 28) = false) : goodL (x :: l) = goodL l := by
  cases l with
  | nil => simp [goodL, h, h2]
  | cons d l => simp [goodL, h, h2]
theorem goodL_step2 {x d : Int} {l : List Int} (h : (x == 11) = false) (h2 : (d == 13) = false) : goodL (x :: d :: l) = goodL (d :: l) := by
  simp [goodL, h, h2]

theorem ArgB.look {w : World} {p : Option Addr} {n : Nat} {bs : List Int} (h : ArgB w p n bs) {j : Nat} (hj : j < n) : ∃ b off x, p = some ⟨b, off, none⟩ ∧ bs[j]? = some x ∧ w.cell? ⟨b, off + j, none⟩ = some (.int .u8 x) := by
  have hl := h.len
  obtain ⟨x, hx⟩ : ∃ x, bs[j]? = some x := ⟨_, List.getElem?_eq_getElem (by omega)⟩
  obtain ⟨b, off, h1, h2⟩ := h.at_ j x hx
  exact ⟨b, off, x, h1, hx, h2⟩

theorem drop_at {bs : List Int} {j : Nat} {x : Int} (h : bs[j]? = some x) : bs.drop j = x :: bs.drop (j + 1) := by
  obtain ⟨h1, h2⟩ := List.getElem?_eq_some_iff.1 h
  rw [← h2]
  exact List.drop_eq_getElem_cons h1

theorem round_less {n j : Nat} (h : j < n) : n - (intOf (Value.int .i64 ((j : Int) + 1))).toNat < n - (intOf (Value.int .i64 (j : Int))).toNat := by
  simp only [intOf]
  omega

set_option maxRecDepth 100000 in
set_option maxHeartbeats 4000000 in
/-- the document's Good -/
theorem rgood_run (p : Option Addr) (n c : Nat) (bs : List Int) (w : World) (ha : ArgC w p n c bs) (hs : n < 4294967281) :
    Calls Tryd.prog 23 #[.slice p n c] w fun e w' => e = .returned (.bool (goodL bs)) ∧ w' = w := by
  have HA := Lib.hid ha
  clear ha
  go_enter Tryd.func23, Tryd.ntmps23
  go_wp2_with fail
  go_loopw [3] (fun i wr => ∃ (j : Nat), i = .int .i64 j ∧ j ≤ n ∧ wr = w ∧ goodL bs = goodL (bs.drop j)) (fun i _ => n - (intOf i).toNat)
  case atStart => exact ⟨0, rfl, Nat.zero_le _, rfl, rfl⟩
  case round =>
    obtain ⟨j, rfl, hj, rfl, hg⟩ := hrel
    by_cases hlt : j < n
    · have hjb : decide ((j : Int) < (n : Int)) = true := by simp; omega
      obtain ⟨b, off, x, hp, hx, hc⟩ := HA.out.toArgB.look hlt
      subst hp
      have hd := drop_at hx
      cases h11 : x == 11
      · cases h28 : x == 28
        · have hg' : goodL bs = goodL (bs.drop (j + 1)) := by rw [hg, hd, goodL_step h11 h28]
          have HG := Lib.hid hg'
          clear hg hg' hd hx
          go_wp2_with fail
          exact ⟨⟨j + 1, by simp, hlt, trivial, HG.out⟩, round_less hlt⟩
        · by_cases hlast : j + 1 = n
          · have hjn : decide ((j : Int) + 1 = (n : Int)) = true := by simp; omega
            have hgf : goodL bs = false := by
              rw [hg, hd, List.drop_of_length_le (by have := HA.out.len; omega), goodL, h28]
              simp
            have HG := Lib.hid hgf
            clear hg hgf hd hx
            go_wp2_with fail
            go_ret
            exact ⟨by rw [HG.out]; rfl, rfl⟩
          · have hjn : decide ((j : Int) + 1 = (n : Int)) = false := by simp; omega
            obtain ⟨b', off', y, hp, hy, hc'⟩ := HA.out.toArgB.look (j := j + 1) (by omega)
            cases hp
            have hd' := drop_at hy
            cases h13 : y == 13
            · have hg' : goodL bs = goodL (bs.drop (j + 1)) := by rw [hg, hd, hd', goodL_step2 h11 h13]
              have HG := Lib.hid hg'
              clear hg hg' hd hx hd' hy
              go_wp2_with fail
              exact ⟨⟨j + 1, by simp, hlt, trivial, HG.out⟩, round_less hlt⟩
            · have hgf : goodL bs = false := by
                rw [hg, hd, hd', goodL, h28, h13]
                simp
              have HG := Lib.hid hgf
              clear hg hgf hd hx hd' hy
              go_wp2_with fail
              go_ret
              exact ⟨by rw [HG.out]; rfl, rfl⟩
      · have hgf : goodL bs = false := by
          rw [hg]
          cases e : bs.drop (j + 1) with
          | nil => rw [hd, e, goodL, h11]; rfl
          | cons y l => rw [hd, e, goodL, h11]; rfl
        have HG := Lib.hid hgf
        clear hg hgf hd hx
        go_wp2_with fail
        go_ret
        exact ⟨by rw [HG.out]; rfl, rfl⟩
    · have hjb : decide ((j : Int) < (n : Int)) = false := by simp; omega
      have hgt : goodL bs = true := by
        rw [hg, List.drop_of_length_le (by have := HA.out.len; omega)]
        rfl
      have HG := Lib.hid hgt
      clear hg hgt
      go_wp2_with fail
      go_ret
      exact ⟨by rw [HG.out]; rfl, rfl⟩

set_option maxRecDepth 100000 in
set_option maxHeartbeats 4000000 in
/-- the document's Wrap -/
theorem rwrap_run (p : Option Addr) (n c : Nat) (bs : List Int) (w : World) (ha : ArgC w p n c bs) (hs : n < 4294967281) :
    Calls Tryd.prog 26 #[.slice p n c] w fun e w' => ∃ v, e = .returned v ∧ w'.ownsRow w.heap.size 5 1 v (n + 3) ((wrapL bs).map (Value.int .u8)) ∧ Below w.heap.size w w' := by
  have HA := Lib.hid ha
  clear ha
  go_enter Tryd.func26, Tryd.ntmps26
  have hlit : (w.alloc (.cells #[.int .u8 11] 5)).ownsRow w.heap.size 5 1 (.slice (some ⟨w.heap.size, 0, none⟩) 1 1) 1 (([11] : List Int).map (Value.int .u8)) := World.ownsRow_lit w #[.int .u8 11] 1 (Nat.le_refl _) (by decide) rfl
  have hb1 : Below w.heap.size w (w.alloc (.cells #[.int .u8 11] 5)) := (Below.refl _ _).alloc (Nat.le_refl _) _
  have HL := Lib.hid (And.intro hlit hb1)
  clear hlit hb1
  go_wp2_with ((at_builtin; refine at_append rfl _ _ rfl w.heap.size _ 1 [11] rfl HL.out.1 p n c bs rfl (HA.out.below HL.out.2) (by omega) (by simp) ?_))
  intro v5 w5 hown5 hg5 _
  have hb5 : Below w.heap.size w w5 := HL.out.2.grown hg5 (by simp) (fun k hk => (HL.out.1.lt k hk).1)
  have HZ := Lib.hid (And.intro hown5 hb5)
  have hs5 : w.heap.size ≤ w5.heap.size := hb5.size
  clear hown5 hg5 hb5
  go_wp2_with ((at_builtin; refine at_append rfl _ _ rfl w.heap.size v5 (1 + n) (11 :: bs) rfl (HZ.out.1.alloc _) (some ⟨w5.heap.size, 0, none⟩) 2 2 [28, 13] rfl (new_arg w5 _ [28, 13] _ rfl rfl (by decide) 2 rfl) (by omega) (by simp; omega) ?_))
  intro v6 w6 hown6 hg6 _
  have hb6 : Below w.heap.size w w6 := (HZ.out.2.alloc hs5 _).grown hg6 (by simp; omega) (fun k hk => (HZ.out.1.lt k hk).1)
  have hown7 : w6.ownsRow w.heap.size 5 1 v6 (n + 3) ((wrapL bs).map (Value.int .u8)) := by
    rw [show n + 3 = 1 + n + 2 by omega]
    simpa [wrapL] using hown6
  have HU := Lib.hid (And.intro hown7 hb6)
  clear hown6 hown7 hg6 hb6
  go_wp2_with fail
  go_ret
  exact ⟨v6, rfl, HU.out⟩

/-- a part of a row -/
theorem ArgC.part {w : World} {b off : Nat} {n c : Nat} {bs : List Int} (h : ArgC w (some ⟨b, off, none⟩) n c bs) (lo hi : Nat) (h1 : lo ≤ hi) (h2 : hi ≤ n) : ArgC w (some ⟨b, off + lo, none⟩) (hi - lo) (c - lo) ((bs.drop lo).take (hi - lo)) := by
  have hl := h.len
  have hc := h.cap
  refine ⟨⟨by rw [List.length_take, List.length_drop]; omega, fun j x hj => ⟨b, off + lo, rfl, ?_⟩, fun x hx => h.byte x (List.mem_of_mem_drop (List.mem_of_mem_take hx))⟩, by omega, fun e => by cases e⟩
  have hjl := (List.getElem?_eq_some_iff.1 hj).1
  rw [List.length_take] at hjl
  rw [List.getElem?_take_of_lt (by omega), List.getElem?_drop] at hj
  obtain ⟨b', off', hp, hcell⟩ := h.at_ (lo + j) x hj
  cases hp
  rw [Nat.add_assoc]
  exact hcell

set_option maxRecDepth 100000 in
set_option maxHeartbeats 4000000 in
/-- the document's Unwrap -/
theorem runwrap_run (p : Option Addr) (n c : Nat) (bs : List Int) (w : World) (ha : ArgC w p n c bs) (hs : n < 4294967281) :
    Calls Tryd.prog 28 #[.slice p n c] w fun e w' => ∃ p' n' c', e = .returned (.tuple #[.slice p' n' c', .int .i64 (unwrapL bs).2]) ∧ ArgC w p' n' c' (unwrapL bs).1 ∧ w' = w := by
  have HA := Lib.hid ha
  clear ha
  by_cases h3 : n < 3
  · have hd : decide ((n : Int) < 3) = true := by simp; omega
    have hu : unwrapL bs = ([], 7) := by rw [unwrapL, if_pos (by have := HA.out.len; omega)]
    rw [hu]
    go_enter Tryd.func28, Tryd.ntmps28
    go_wp2_with fail
    go_ret2
    exact ⟨none, 0, 0, rfl, ⟨⟨rfl, fun j x hj => by simp at hj, by decide⟩, Nat.le_refl _, fun _ => ⟨rfl, rfl⟩⟩, rfl⟩
  · have hd : decide ((n : Int) < 3) = false := by simp; omega
    obtain ⟨b, off, x0, hp, hx0, hc0⟩ := HA.out.toArgB.look (j := 0) (by omega)
    subst hp
    obtain ⟨b', off', x1, hp, hx1, hc1⟩ := HA.out.toArgB.look (j := n - 2) (by omega)
    cases hp
    obtain ⟨b', off', x2, hp, hx2, hc2⟩ := HA.out.toArgB.look (j := n - 1) (by omega)
    cases hp
    have hu : unwrapL bs = if x0 = 11 ∧ x1 = 28 ∧ x2 = 13 ∧ goodL ((bs.drop 1).take (n - 3)) = true then ((bs.drop 1).take (n - 3), 0) else ([], 10) := by
      have hl := HA.out.len
      rw [unwrapL, hl, if_neg (by omega), hx0, hx1, hx2]
      simp only [Option.some.injEq]
    have hnc := HA.out.cap
    have hmid := (HA.out.part 1 (n - 2) (by omega) (by omega))
    have hmid' : ArgC w (some ⟨b, off + 1, none⟩) (n - 2 - 1) (c - 1) ((bs.drop 1).take (n - 3)) := hmid
    clear hmid
    generalize (bs.drop 1).take (n - 3) = M at hu hmid'
    have HM := Lib.hid hmid'
    have HU := Lib.hid hu
    clear hu hx0 hx1 hx2 hmid'
    have no : unwrapL bs = ([], 10) → ∃ p' n' c', Ending.returned (.tuple #[.slice none 0 0, .int .i64 10]) = Ending.returned (.tuple #[.slice p' n' c', .int .i64 (unwrapL bs).2]) ∧ ArgC w p' n' c' (unwrapL bs).1 := by
      intro e
      rw [e]
      exact ⟨none, 0, 0, rfl, ⟨⟨rfl, fun j x hj => by simp at hj, by decide⟩, Nat.le_refl _, fun _ => ⟨rfl, rfl⟩⟩⟩
    rw [Nat.add_zero] at hc0
    by_cases e0 : x0 = 11
    · by_cases e1 : x1 = 28
      · by_cases e2 : x2 = 13
        · subst e0; subst e1; subst e2
          cases hg : goodL M
          · have HN := Lib.hid (no (by rw [HU.out, hg, if_neg (by rintro ⟨_, _, _, h⟩; cases h)]))
            clear no
            go_enter Tryd.func28, Tryd.ntmps28
            go_wp2_with fail
            refine (rgood_run _ _ _ M w HM.out (by omega)).mono ?_
            rintro e w' ⟨rfl, rfl⟩
            rw [hg]
            go_wp2_with fail
            go_ret2
            obtain ⟨p', n', c', h1, h2⟩ := HN.out
            exact ⟨p', n', c', h1, h2, rfl⟩
          · have hu : unwrapL bs = (M, 0) := by rw [HU.out, hg, if_pos ⟨rfl, rfl, rfl, rfl⟩]
            have HN := Lib.hid hu
            clear no hu
            go_enter Tryd.func28, Tryd.ntmps28
            go_wp2_with fail
            refine (rgood_run _ _ _ M w HM.out (by omega)).mono ?_
            rintro e w' ⟨rfl, rfl⟩
            rw [hg]
            go_wp2_with fail
            go_ret2
            exact ⟨_, _, _, by rw [HN.out]; rfl, by rw [HN.out]; exact HM.out, rfl⟩
        · have d2 : (x2 == 13) = false := by simpa using e2
          have HN := Lib.hid (no (by rw [HU.out, if_neg (by rintro ⟨_, _, h, _⟩; exact e2 h)]))
          subst e0; subst e1
          clear no
          go_enter Tryd.func28, Tryd.ntmps28
          go_wp2_with fail
          go_ret2
          obtain ⟨p', n', c', h1, h2⟩ := HN.out
          exact ⟨p', n', c', h1, h2, rfl⟩
      · have d1 : (x1 == 28) = false := by simpa using e1
        have HN := Lib.hid (no (by rw [HU.out, if_neg (by rintro ⟨_, h, _⟩; exact e1 h)]))
        subst e0
        clear no
        go_enter Tryd.func28, Tryd.ntmps28
        go_wp2_with fail
        go_ret2
        obtain ⟨p', n', c', h1, h2⟩ := HN.out
        exact ⟨p', n', c', h1, h2, rfl⟩
    · have d0 : (x0 == 11) = false := by simpa using e0
      have HN := Lib.hid (no (by rw [HU.out, if_neg (by rintro ⟨h, _⟩; exact e0 h)]))
      clear no
      go_enter Tryd.func28, Tryd.ntmps28
      go_wp2_with fail
      go_ret2
      obtain ⟨p', n', c', h1, h2⟩ := HN.out
      exact ⟨p', n', c', h1, h2, rfl⟩
end Go.Proofs.YthhbohpmbkdkeaaDoor
