/- The walk of law04.FrameTurns. -/
import Derived.Test.YthhbohpmbkdkeaaDoorFm
namespace Go.Proofs.YthhbohpmbkdkeaaDoor
open Go.RowKit

theorem owned_set {w : World} {B g n cap : Nat} {bs : List Int} (h : w.ownsRow B 5 1 (.slice (some ⟨g, 0, none⟩) n cap) n (bs.map (Value.int .u8))) (j : Nat) (x : Int) :
    (w.setCell ⟨g, j, none⟩ (.int .u8 x)).ownsRow B 5 1 (.slice (some ⟨g, 0, none⟩) n cap) n ((bs.set j x).map (Value.int .u8)) ∧ w.grownBy (w.setCell ⟨g, j, none⟩ (.int .u8 x)) (some g) := by
  have := h.stored j (.int .u8 x)
  rw [List.map_set]
  exact this

theorem owned_some {w : World} {B n : Nat} {v : Value} {xs : List Value} (h : w.ownsRow B 5 1 v n xs) (hn : 0 < n) : ∃ g cap, v = .slice (some ⟨g, 0, none⟩) n cap ∧ B ≤ g := by
  rcases h.2 with ⟨rfl, h0⟩ | ⟨g, cap, cur, rfl, hg, _⟩
  · omega
  · exact ⟨g, cap, rfl, hg⟩

theorem owned_slice {w : World} {B : Nat} {p : Option Addr} {n c : Nat} {bs : List Int} (h : w.ownsRow B 5 1 (.slice p n c) n (bs.map (Value.int .u8))) (hb : ByteL bs) : ArgC w p n c bs := by
  obtain ⟨p', c', e, ha⟩ := owned_arg h hb
  cases e
  exact ha

theorem set_bytes {bs : List Int} (h : ByteL bs) (k : Nat) {x : Int} (hx : 0 ≤ x ∧ x ≤ 255) : ByteL (bs.set k x) := by
  intro y hy
  rcases List.mem_or_eq_of_mem_set hy with hy | rfl
  · exact h y hy
  · exact hx

theorem index_of (at_ : Int) {n : Nat} (hn : 0 < n) (hn2 : n ≤ 1000) : ∃ k : Nat, k < n ∧ wrap64 ((IntKind.u64.wrap at_).tmod n) = (k : Int) := by
  have h0 : 0 ≤ IntKind.u64.wrap at_ := by
    have e : IntKind.u64.wrap at_ = at_ % 18446744073709551616 := rfl
    rw [e]
    exact Int.emod_nonneg _ (by decide)
  generalize IntKind.u64.wrap at_ = z at h0
  rw [Int.tmod_eq_emod_of_nonneg h0]
  have h1 := Int.emod_nonneg z (show (n : Int) ≠ 0 by omega)
  have h2 := Int.emod_lt_of_pos z (show (0 : Int) < n by omega)
  refine ⟨(z % n).toNat, by omega, ?_⟩
  unfold wrap64
  omega

set_option maxRecDepth 100000 in
set_option maxHeartbeats 4000000 in
theorem turns_any (p : Option Addr) (n c : Nat) (bs : List Int) (at_ : Int) (x : Int) (w : World) (ha : ArgC w p n c bs) (hx : 0 ≤ x ∧ x ≤ 255) (he : Ends w) :
    Calls Tryd.prog 7 #[.slice p n c, .int .i64 at_, .int .u8 x] w fun e w' => e = .returned (.bool true) ∧ Below w.heap.size w w' := by
  have HA := Lib.hid ha
  have HF := Lib.hid (From.refl he)
  clear ha he
  by_cases h0 : n = 0
  · have d0 : decide ((n : Int) = 0) = true := by simp; omega
    have e0 : ((n : Int) == 0) = true := by simp; omega
    go_enter Tryd.func7, Tryd.ntmps7
    go_wp2_with fail
    refine (alive_at HF.out).mono ?_
    rintro e w1 ⟨rfl, hf, -⟩
    have HF1 := Lib.hid hf
    clear hf
    go_wp2_with fail
    go_ret
    exact ⟨rfl, HF1.out.grew⟩
  · have d0 : decide ((n : Int) = 0) = false := by simp; omega
    have e0 : ((n : Int) == 0) = false := by simp; omega
    by_cases hn : n ≤ 1000
    · have hnb : decide ((1000 : Int) < (n : Int)) = false := by simp; omega
      obtain ⟨k, hkn, hk⟩ := index_of at_ (Nat.pos_of_ne_zero h0) hn
      go_enter Tryd.func7, Tryd.ntmps7
      go_wp2_with fail
      refine (good_at HF.out HA.out (by omega)).mono ?_
      rintro e w1 ⟨rfl, hf, hb⟩
      have HF1 := Lib.hid hf
      have HB1 := Lib.hid hb
      clear hf hb
      cases hg : goodL bs
      · go_wp2_with fail
        refine (alive_at HF1.out).mono ?_
        rintro e w2 ⟨rfl, hf, -⟩
        have HF2 := Lib.hid hf
        clear hf
        go_wp2_with fail
        go_ret
        exact ⟨rfl, HF2.out.grew⟩
      · have ea : goodL (bs.set k 11) = false := good_eleven (k := k) (by rw [List.getElem?_set_self (by have := HA.out.len; omega)])
        have HE11 := Lib.hid ea
        have HG := Lib.hid hg
        have hl1 : (w1.alloc (.cells #[] 5)).ownsRow w1.heap.size 5 1 (.slice (some ⟨w1.heap.size, 0, none⟩) 0 0) 0 (([] : List Int).map (Value.int .u8)) := World.ownsRow_lit w1 #[] 0 (Nat.le_refl _) (by decide) rfl
        have hA1 : ArgC (w1.alloc (.cells #[] 5)) p n c bs := HA.out.below (HB1.out.trans (((Below.refl _ _).alloc (Nat.le_refl _) _).mono HB1.out.size))
        have HL1 := Lib.hid (And.intro hl1 hA1)
        clear hl1 hA1 ea hg
        go_wp2_with ((at_builtin; refine at_append rfl _ _ rfl w1.heap.size _ 0 [] rfl HL1.out.1 p n c bs rfl HL1.out.2 (by omega) (by simp) ?_))
        intro v2 w2 hown2 hg2 _
        obtain ⟨g, cap, rfl, hgB⟩ := owned_some hown2 (by omega)
        have hb2 : Below w1.heap.size w1 w2 := ((Below.refl _ _).alloc (Nat.le_refl _) _).grown hg2 (by simp) (by intro k hk; simp [Value.ownBlock] at hk; omega)
        have hst := owned_set hown2 k 11
        have hc := hown2.cellAt k (by omega)
        have hz := hown2.frozenAt k
        have hcell : ∃ y, w2.cell? ⟨g, k, none⟩ = some (.int .u8 y) := by
          obtain ⟨y, hy⟩ : ∃ y, bs[k]? = some y := ⟨_, List.getElem?_eq_getElem (by have := HA.out.len; omega)⟩
          exact ⟨y, by rw [hc]; simp [hy]⟩
        obtain ⟨y, hy⟩ := hcell
        have hb3 : Below w1.heap.size w1 (w2.setCell ⟨g, k, none⟩ (.int .u8 11)) := hb2.grown hst.2 hb2.size (by intro k hk; cases hk; exact hgB)
        have hx3 : ArgC (w2.setCell ⟨g, k, none⟩ (.int .u8 11)) (some ⟨g, 0, none⟩) n cap (bs.set k 11) := owned_slice hst.1 (set_bytes HA.out.byte k (by decide))
        have HS := Lib.hid (And.intro hb3 hx3)
        clear hst hc hown2 hg2 hb2 hb3 hx3
        have hsz : (w2.setCell ⟨g, k, none⟩ (.int .u8 11)).heap.size = w2.heap.size := World.size_setCell ..
        have key : ∀ w3, w3 = w2.setCell ⟨g, k, none⟩ (.int .u8 11) → (w3.alloc (.cells #[] 5)).ownsRow w3.heap.size 5 1 (.slice (some ⟨w3.heap.size, 0, none⟩) 0 0) 0 (([] : List Int).map (Value.int .u8)) ∧ ArgC (w3.alloc (.cells #[] 5)) p n c bs ∧ Below w3.heap.size w3 (w3.alloc (.cells #[] 5)) := by
          rintro w3 rfl
          exact ⟨World.ownsRow_lit _ #[] 0 (Nat.le_refl _) (by decide) rfl, HA.out.below (HB1.out.trans ((HS.out.1.alloc HS.out.1.size _).mono HB1.out.size)), (Below.refl _ _).alloc (Nat.le_refl _) _⟩
        have key2 := key _ rfl
        rw [hsz] at key2
        have HL3 := Lib.hid key2
        clear key key2
        go_wp2_with ((at_builtin; refine at_append rfl _ _ rfl w2.heap.size _ 0 [] rfl HL3.out.1 p n c bs rfl HL3.out.2.1 (by omega) (by simp) ?_))
        intro v4 w4 hown4 hg4 _
        obtain ⟨g4, cap4, rfl, hgB4⟩ := owned_some hown4 (by omega)
        have hb4 : Below w2.heap.size (w2.setCell ⟨g, k, none⟩ (.int .u8 11)) w4 := HL3.out.2.2.grown hg4 (by simp) (by intro k hk; simp [Value.ownBlock] at hk; omega)
        have hx4 : ArgC w4 (some ⟨g, 0, none⟩) n cap (bs.set k 11) := HS.out.2.below (by rw [hsz]; exact hb4)
        have hw4 : Below w1.heap.size w1 w4 := HS.out.1.trans (hb4.mono (by rw [← hsz]; exact HS.out.1.size))
        have hst := owned_set hown4 k x
        have hc := hown4.cellAt k (by omega)
        have hz4 := hown4.frozenAt k
        obtain ⟨y4, hy4⟩ : ∃ y, w4.cell? ⟨g4, k, none⟩ = some (.int .u8 y) := by
          obtain ⟨y, hy⟩ : ∃ y, bs[k]? = some y := ⟨_, List.getElem?_eq_getElem (by have := HA.out.len; omega)⟩
          exact ⟨y, by rw [hc]; simp [hy]⟩
        have hgs : w2.heap.size ≤ w4.heap.size := Nat.le_trans (Nat.le_of_eq hsz.symm) hb4.size
        have hb5 : Below w2.heap.size (w2.setCell ⟨g, k, none⟩ (.int .u8 11)) (w4.setCell ⟨g4, k, none⟩ (.int .u8 x)) := hb4.grown hst.2 hgs (by intro k hk; cases hk; exact hgB4)
        have hx5 : ArgC (w4.setCell ⟨g4, k, none⟩ (.int .u8 x)) (some ⟨g, 0, none⟩) n cap (bs.set k 11) := HS.out.2.below (by rw [hsz]; exact hb5)
        have hw5 : Below w1.heap.size w1 (w4.setCell ⟨g4, k, none⟩ (.int .u8 x)) := HS.out.1.trans (hb5.mono (by rw [← hsz]; exact HS.out.1.size))
        have hy5 : ArgC (w4.setCell ⟨g4, k, none⟩ (.int .u8 x)) (some ⟨g4, 0, none⟩) n cap4 (bs.set k x) := owned_slice hst.1 (set_bytes HA.out.byte k hx)
        have hy40 : ArgC w4 (some ⟨g4, 0, none⟩) n cap4 bs := owned_slice hown4 HA.out.byte
        have H4 := Lib.hid (And.intro (HF1.out.next hw4) (And.intro hx4 hy40))
        have H5 := Lib.hid (And.intro (HF1.out.next hw5) (And.intro hx5 hy5))
        clear hb4 hx4 hw4 hst hc hb5 hx5 hw5 hy5 hy40 hown4 hg4 HS HL3 HL1 hy hz hsz
        by_cases x11 : x = 11
        · subst x11
          go_wp2_with fail
          refine (alive_at H4.out.1).mono ?_
          rintro e w6 ⟨rfl, hf6, hb6⟩
          have HF6 := Lib.hid hf6
          have HB6 := Lib.hid hb6
          clear hf6 hb6
          go_wp2_with fail
          refine (good_yes HF6.out HE11.out (H4.out.2.1.below HB6.out) (by omega)).mono ?_
          rintro e w7 ⟨rfl, hf7, hb7⟩
          have HF7 := Lib.hid hf7
          have HB7 := Lib.hid hb7
          clear hf7 hb7
          go_wp2_with fail
          refine (good_yes HF7.out HG.out ((H4.out.2.2.below HB6.out).below HB7.out) (by omega)).mono ?_
          rintro e w8 ⟨rfl, hf8, -⟩
          have HF8 := Lib.hid hf8
          clear hf8
          go_wp2_with fail
          go_ret
          exact ⟨rfl, HF8.out.grew⟩
        · have d11 : (x == 11) = false := by simpa using x11
          by_cases x28 : x = 28
          · subst x28
            go_wp2_with fail
            refine (alive_at H4.out.1).mono ?_
            rintro e w6 ⟨rfl, hf6, hb6⟩
            have HF6 := Lib.hid hf6
            have HB6 := Lib.hid hb6
            clear hf6 hb6
            go_wp2_with fail
            refine (good_yes HF6.out HE11.out (H4.out.2.1.below HB6.out) (by omega)).mono ?_
            rintro e w7 ⟨rfl, hf7, hb7⟩
            have HF7 := Lib.hid hf7
            have HB7 := Lib.hid hb7
            clear hf7 hb7
            go_wp2_with fail
            refine (good_yes HF7.out HG.out ((H4.out.2.2.below HB6.out).below HB7.out) (by omega)).mono ?_
            rintro e w8 ⟨rfl, hf8, -⟩
            have HF8 := Lib.hid hf8
            clear hf8
            go_wp2_with fail
            go_ret
            exact ⟨rfl, HF8.out.grew⟩
          · have d28 : (x == 28) = false := by simpa using x28
            by_cases x13 : x = 13
            · subst x13
              go_wp2_with fail
              refine (alive_at H4.out.1).mono ?_
              rintro e w6 ⟨rfl, hf6, hb6⟩
              have HF6 := Lib.hid hf6
              have HB6 := Lib.hid hb6
              clear hf6 hb6
              go_wp2_with fail
              refine (good_yes HF6.out HE11.out (H4.out.2.1.below HB6.out) (by omega)).mono ?_
              rintro e w7 ⟨rfl, hf7, hb7⟩
              have HF7 := Lib.hid hf7
              have HB7 := Lib.hid hb7
              clear hf7 hb7
              go_wp2_with fail
              refine (good_yes HF7.out HG.out ((H4.out.2.2.below HB6.out).below HB7.out) (by omega)).mono ?_
              rintro e w8 ⟨rfl, hf8, -⟩
              have HF8 := Lib.hid hf8
              clear hf8
              go_wp2_with fail
              go_ret
              exact ⟨rfl, HF8.out.grew⟩
            · have d13 : (x == 13) = false := by simpa using x13
              have n11 : (x != 11) = true := by simpa using x11
              have n28 : (x != 28) = true := by simpa using x28
              have n13 : (x != 13) = true := by simpa using x13
              have HGy := Lib.hid (good_set HG.out k x x11 x28 x13)
              go_wp2_with fail
              refine (alive_at H5.out.1).mono ?_
              rintro e w6 ⟨rfl, hf6, hb6⟩
              have HF6 := Lib.hid hf6
              have HB6 := Lib.hid hb6
              clear hf6 hb6
              go_wp2_with fail
              refine (good_yes HF6.out HE11.out (H5.out.2.1.below HB6.out) (by omega)).mono ?_
              rintro e w7 ⟨rfl, hf7, hb7⟩
              have HF7 := Lib.hid hf7
              have HB7 := Lib.hid hb7
              clear hf7 hb7
              go_wp2_with fail
              refine (good_yes HF7.out HGy.out ((H5.out.2.2.below HB6.out).below HB7.out) (by omega)).mono ?_
              rintro e w8 ⟨rfl, hf8, -⟩
              have HF8 := Lib.hid hf8
              clear hf8
              go_wp2_with fail
              go_ret
              exact ⟨rfl, HF8.out.grew⟩
    · have hnb : decide ((1000 : Int) < (n : Int)) = true := by simp; omega
      go_enter Tryd.func7, Tryd.ntmps7
      go_wp2_with fail
      refine (alive_at HF.out).mono ?_
      rintro e w1 ⟨rfl, hf, -⟩
      have HF1 := Lib.hid hf
      clear hf
      go_wp2_with fail
      go_ret
      exact ⟨rfl, HF1.out.grew⟩
end Go.Proofs.YthhbohpmbkdkeaaDoor
