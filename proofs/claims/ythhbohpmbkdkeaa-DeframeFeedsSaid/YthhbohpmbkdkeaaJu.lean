/- The walk of law05.DeframeJunk. -/
import Derived.Test.YthhbohpmbkdkeaaAl
namespace Go.Proofs.Ythhbohpmbkdkeaa
open Go.RowKit

/-- an argument that is a row of bytes -/
structure ArgB (w : World) (p : Option Addr) (n : Nat) (bs : List Int) : Prop where
  len : bs.length = n
  at_ : ∀ j x, bs[j]? = some x → ∃ b off, p = some ⟨b, off, none⟩ ∧ w.cell? ⟨b, off + j, none⟩ = some (.int .u8 x)
  byte : ∀ x ∈ bs, 0 ≤ x ∧ x ≤ 255

theorem below_keeps {W w' : World} (hq : Below W.heap.size W w') {p : Addr} {v : Value} (h : W.cell? p = some v) : w'.cell? p = some v := (hq.cell (World.block_lt_of_cell? W p h)).trans h
theorem alloc_keeps {W : World} {p : Addr} {v : Value} (h : W.cell? p = some v) (o : Obj) : (W.alloc o).cell? p = some v := (World.cell?_alloc_lt _ _ _ (World.block_lt_of_cell? W p h)).trans h

theorem ArgB.below {w w' : World} {p : Option Addr} {n : Nat} {bs : List Int} (h : ArgB w p n bs) (hb : Below w.heap.size w w') : ArgB w' p n bs :=
  ⟨h.len, fun j x hj => by obtain ⟨b, off, h1, h2⟩ := h.at_ j x hj; exact ⟨b, off, h1, below_keeps hb h2⟩, h.byte⟩

/-- what Moved leaves below -/
theorem Moved.below {w0 w w' : World} {S : Nat → Prop} (h : Below w0.heap.size w0 w) (hm : Moved w w' S) (hS : ∀ k, S k → w0.heap.size ≤ k) : Below w0.heap.size w0 w' :=
  ⟨hm.os.trans h.os, hm.tape.trans h.tape, hm.output.trans h.output, Nat.le_trans h.size hm.size, fun k hk => by
    rw [hm.block k (Nat.lt_of_lt_of_le hk h.size) (fun e => by have := hS k e; omega)]; exact h.block k hk⟩

def junkSt (m k : Nat) : St := { St.fresh m with junk := k }

set_option maxRecDepth 100000 in
set_option maxHeartbeats 4000000 in
theorem junk_any (n : Int) (p : Option Addr) (l cp : Nat) (bs : List Int) (w : World) (ha : ArgB w p l bs) :
    Calls Try.prog 5 #[.int .i64 n, .slice p l cp] w fun e w' => e = .returned (.bool true) ∧ Below w.heap.size w w' := by
  have HA := Lib.hid ha
  clear ha
  have hm := mostOf_in n
  go_enter Try.func5, Try.ntmps5
  go_wp2_with fail
  refine (most_run n w).mono ?_
  rintro e w' ⟨rfl, rfl⟩
  generalize mostOf n = m at hm ⊢
  go_wp2_with fail
  refine (new_run m w' hm.1 (by omega)).mono ?_
  rintro e w1 ⟨rfl, hd, hq⟩
  have HD := Lib.hid hd
  clear hd
  go_wp2_with fail
  refine (alive_any _).mono ?_
  rintro e w2 ⟨rfl, hq2⟩
  by_cases hl : l ≤ 2000
  · have hlb : decide ((2000 : Int) < (l : Int)) = false := by simp; omega
    go_wp2_with fail
    have HD2 := Lib.hid (HD.out.below hq2)
    have HB2 := Lib.hid (hq.trans (hq2.mono hq.size))
    clear HD
    go_loopw [7, 36] (fun a i wr => ∃ (j q : Nat) (nv : Value), i = .int .i64 j ∧ a = .int .i64 q ∧ q ≤ j ∧ j ≤ l ∧ DAt (w'.heap.size + 1) w'.heap.size nv (.slice none 0 0) [] (junkSt m q) wr ∧ Below w'.heap.size w' wr) (fun _ i _ => l - (intOf i).toNat)
    case atStart => exact ⟨0, 0, _, rfl, rfl, Nat.le_refl _, by omega, HD2.out, HB2.out⟩
    case round =>
      obtain ⟨j, q, nv, rfl, rfl, hqj, hj, hd, hbw⟩ := hrel
      have H := Lib.hid hd
      have HB := Lib.hid hbw
      clear hd hbw HD2 HB2
      by_cases hlt : j < l
      · have hjb : decide ((j : Int) < (l : Int)) = true := by simp; omega
        obtain ⟨c, hc⟩ : ∃ c, bs[j]? = some c := ⟨_, List.getElem?_eq_getElem (by have := HA.out.len; omega)⟩
        obtain ⟨b, off, rfl, h3⟩ := (HA.out.below HB.out).at_ j c hc
        by_cases hc11 : c = 11
        · subst hc11
          go_wp2_with fail
          go_roundw
          case rel => exact ⟨j + 1, q, nv, by go_num, rfl, by omega, by omega, H.out, HB.out⟩
          case measure => simp [intOf]; omega
        · have hcb : (c == 11) = false := by simpa using hc11
          go_wp2_with fail
          have hbb : Below wr.heap.size wr (wr.alloc (.cells #[.int .u8 c] 5)) := (Below.refl _ _).alloc (Nat.le_refl _) _
          have hsz := H.out.size
          refine (feed_run (w'.heap.size + 1) w'.heap.size 1 1 (some ⟨wr.heap.size, 0, none⟩) nv (junkSt m q) [c] _ (H.out.below hbb) ⟨by simp [junkSt]; omega, by simp [junkSt, St.fresh], by simp [junkSt, St.fresh], by simp [junkSt, St.fresh]⟩ rfl ?_).mono ?_
          · intro i x hi
            refine ⟨wr.heap.size, 0, rfl, by omega, fun e => by have := (H.out.now.lt _ e.symm).2; omega, ?_⟩
            match i, hi with
            | 0, hi => simp at hi; subst hi; simp [go_sem]
            | i + 1, hi => simp at hi
          rintro e w3 ⟨nv', fo, vs, rfl, hf⟩
          rw [show (junkSt m q).feed [c] = junkSt m (q + 1) from by simp [St.feed, St.step, junkSt, St.fresh, hc11]] at hf
          obtain rfl : vs = [] := List.eq_nil_of_length_eq_zero hf.out.many
          obtain ⟨ao, cap, rfl⟩ := owns_form hf.out.row
          have HS : Hid (DAt (w'.heap.size + 1) w'.heap.size nv' (.slice none 0 0) [] (junkSt m (q + 1)) w3) := Lib.hid hf.st
          have HB3 : Hid (Below w'.heap.size w' w3) := Lib.hid (Moved.below (HB.out.trans (hbb.mono HB.out.size)) hf.moved (fun k hk => by
            rcases hk with hk | hk
            · omega
            · have := (H.out.now.lt k hk.symm).1; omega))
          have hh : Hid (Calls Try.prog 15 #[.pointer (some ⟨w'.heap.size, 0, none⟩)] w3 fun e w' => e = .returned (.int .i64 0) ∧ w' = w3) := Lib.hid (held_run _ _ _ _ _ _ w3 HS.out)
          have hjk : Hid (Calls Try.prog 16 #[.pointer (some ⟨w'.heap.size, 0, none⟩)] w3 fun e w' => e = .returned (.int .i64 ((q + 1 : Nat) : Int)) ∧ w' = w3) := Lib.hid (junk_run _ _ _ _ _ _ w3 HS.out)
          clear hf hbb hsz
          go_wp2_with fail
          refine hh.out.mono ?_
          rintro e w4 ⟨rfl, rfl⟩
          go_wp2_with fail
          refine hjk.out.mono ?_
          rintro e w5 ⟨rfl, rfl⟩
          go_wp2_with fail
          go_roundw
          case rel => exact ⟨j + 1, q + 1, nv', by go_num, by go_num, by omega, by omega, HS.out, HB3.out⟩
          case measure => simp [intOf]; omega
      · have hjb : decide ((j : Int) < (l : Int)) = false := by simp; omega
        have ho := Lib.hid (over_run _ _ _ _ _ _ wr H.out)
        have hb := Lib.hid (broken_run _ _ _ _ _ _ wr H.out)
        go_wp2_with fail
        refine ho.out.mono ?_
        rintro e w3 ⟨rfl, rfl⟩
        rw [show (junkSt m q).over = 0 from rfl]
        go_wp2_with fail
        refine hb.out.mono ?_
        rintro e w4 ⟨rfl, rfl⟩
        rw [show (junkSt m q).broken = 0 from rfl]
        go_wp2_with fail
        exact bodyPost_ret (v := .bool true) (by simp [results, Try.results5, go_sem]) rfl ⟨rfl, HB.out⟩
  · have hlb : decide ((2000 : Int) < (l : Int)) = true := by simp; omega
    go_wp2_with fail
    refine (alive_any _).mono ?_
    rintro e w3 ⟨rfl, hq3⟩
    go_wp2_with fail
    exact bodyPost_ret (v := .bool true) (by simp [results, Try.results5, go_sem]) rfl ⟨rfl, (hq.trans (hq2.mono hq.size)).trans (hq3.mono (Nat.le_trans hq.size hq2.size))⟩
end Go.Proofs.Ythhbohpmbkdkeaa
