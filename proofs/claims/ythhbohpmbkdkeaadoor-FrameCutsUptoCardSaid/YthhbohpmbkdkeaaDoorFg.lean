/- frame.Good, frame.Count: what each hands back. -/
import Derived.Test.YthhbohpmbkdkeaaDoorAr
import Derived.Test.YthhbohpmbkdkeaaDoorGd
import Derived.Test.YthhbohpmbkdkeaaDoorSh
import Derived.WalkSpells
import Derived.Deep.Draws
import Derived.Lib.Hide
namespace Go.Proofs.YthhbohpmbkdkeaaDoor
open Go.RowKit

/-- what the variables hold -/
structure Ends (w : World) : Prop where
  e0 : w.cell? ⟨0, 0, none⟩ = some (.int .u8 28)
  e1 : w.cell? ⟨0, 1, none⟩ = some (.int .u8 13)
  m : ∃ m, w.cell? ⟨1, 0, none⟩ = some (.int .i64 m)

theorem Ends.below {w w' : World} (h : Ends w) (hb : Below w.heap.size w w') : Ends w' :=
  ⟨below_keeps hb h.e0, below_keeps hb h.e1, by obtain ⟨m, hm⟩ := h.m; exact ⟨m, below_keeps hb hm⟩⟩
theorem below_drewN (w : World) (q : Nat) : Below w.heap.size w (w.drewN q) := ⟨rfl, rfl, rfl, Nat.le_refl _, fun _ _ => rfl⟩

theorem ArgB.cells {w : World} {a : Addr} {n : Nat} {bs : List Int} (h : ArgB w (some a) n bs) : ∀ i, i < n → w.cell? (a.add i) = some (.int .u8 (bs.getD i 0)) := by
  intro i hi
  have hl := h.len
  obtain ⟨x, hx⟩ : ∃ x, bs[i]? = some x := ⟨_, List.getElem?_eq_getElem (by omega)⟩
  obtain ⟨b, off, he, hc⟩ := h.at_ i x hx
  cases he
  rw [Addr.add_lit, hc, List.getD_eq_getElem?_getD, hx]
  rfl

theorem Ends.cells2 {w : World} (h : Ends w) : ∀ i, i < 2 → w.cell? ((⟨0, 0, none⟩ : Addr).add i) = some (.int .u8 (([28, 13] : List Int).getD i 0)) := by
  intro i hi
  rw [Addr.add_lit]
  match i, hi with
  | 0, _ => exact h.e0
  | 1, _ => exact h.e1
theorem Ends.cells1 {w : World} (h : Ends w) : ∀ i, i < 1 → w.cell? ((⟨0, 0, none⟩ : Addr).add i) = some (.int .u8 (([28] : List Int).getD i 0)) := by
  intro i hi
  rw [Addr.add_lit]
  match i, hi with
  | 0, _ => exact h.e0

set_option maxRecDepth 100000 in
set_option maxHeartbeats 4000000 in
theorem good_some (a : Addr) (n c : Nat) (bs : List Int) (w : World) (ha : ArgB w (some a) n bs) (hc : n ≤ c) (hs : n < 4294967281) (he : Ends w) :
    Calls Tryd.prog 25 #[.slice (some a) n c] w fun e w' => e = .returned (.bool (goodL bs)) ∧ ∃ q, w' = w.drewN q := by
  obtain ⟨m, hm⟩ := he.m
  have hg := good_lib bs ha.byte
  have h1 := Tryd.bytes_IndexByte_at a n c bs 11 w ha.len ha.cells
  have h2 := Tryd.bytes_Contains_at a ⟨0, 0, none⟩ n c 2 2 bs [28, 13] m w ha.len rfl (fun x hx => by have := ha.byte x hx; omega) (by decide) ha.cells he.cells2 hc hs (by decide) hm
  have h3 := fun q => Tryd.bytes_HasSuffix_all (some a) (some ⟨0, 0, none⟩) n c 1 2 bs [28] (w.drewN q) ha.len rfl hc (by omega) (Lib.BytesIn.of_cells ha.cells) (Lib.BytesIn.of_cells he.cells1)
  have e11 : (11 : Int).toNat.toUInt8 = 11 := rfl
  rw [e11] at h1
  generalize hp : Lib.indexByte (Lib.bytesOf bs) 11 = p at h1 hg
  generalize hq : Lib.contains (Lib.bytesOf bs) (Lib.bytesOf [28, 13]) = qq at h2 hg
  generalize hr : Lib.hasSuffix (Lib.bytesOf bs) (Lib.bytesOf [28]) = r at h3 hg
  generalize goodL bs = g at hg ⊢
  subst hg
  clear hp hq hr
  by_cases hp : p < 0
  · have hp' : decide (p < 0) = true := by simpa using hp
    rw [hp']
    go_enter Tryd.func25, Tryd.ntmps25
    go_wp2_with fail
    refine h1.mono ?_
    rintro e w' ⟨rfl, rfl⟩
    go_wp2_with fail
    refine h2.mono ?_
    rintro e w2 ⟨rfl, q, rfl⟩
    cases qq
    · go_wp2_with fail
      refine (h3 q).mono ?_
      rintro e w3 ⟨rfl, rfl⟩
      go_wp2_with fail
      go_ret
      exact ⟨rfl, q, rfl⟩
    · go_wp2_with fail
      go_ret
      exact ⟨rfl, q, rfl⟩
  · have hp' : decide (p < 0) = false := by simpa using hp
    rw [hp']
    go_enter Tryd.func25, Tryd.ntmps25
    go_wp2_with fail
    refine h1.mono ?_
    rintro e w' ⟨rfl, rfl⟩
    go_wp2_with fail
    go_ret
    exact ⟨rfl, 0, rfl⟩

set_option maxRecDepth 100000 in
set_option maxHeartbeats 4000000 in
theorem good_none (w : World) (he : Ends w) :
    Calls Tryd.prog 25 #[.slice none 0 0] w fun e w' => e = .returned (.bool true) ∧ ∃ q, w' = w.drewN q := by
  have h3 := Tryd.bytes_HasSuffix_all none (some ⟨0, 0, none⟩) 0 0 1 2 [] [28] w rfl rfl (Nat.le_refl _) (by decide) (Lib.BytesIn.nil _ _ _) (Lib.BytesIn.of_cells he.cells1)
  have e3 : Lib.hasSuffix (Lib.bytesOf []) (Lib.bytesOf [28]) = false := rfl
  rw [e3] at h3
  have h2 := Tryd.bytes_Contains_nil (some ⟨0, 0, none⟩) 2 2 w (by decide) (fun h => by omega)
  have e2 : decide (2 = 0) = false := rfl
  rw [e2] at h2
  go_enter Tryd.func25, Tryd.ntmps25
  go_wp2_with fail
  refine (Tryd.bytes_IndexByte_nil 11 w).mono ?_
  rintro e w' ⟨rfl, rfl⟩
  go_wp2_with fail
  refine h2.mono ?_
  rintro e w2 ⟨rfl, rfl⟩
  go_wp2_with fail
  refine h3.mono ?_
  rintro e w3 ⟨rfl, rfl⟩
  go_wp2_with fail
  go_ret
  exact ⟨rfl, 0, rfl⟩

/-- a row of bytes whole: where it lies, or nil -/
structure ArgC (w : World) (p : Option Addr) (n c : Nat) (bs : List Int) : Prop extends ArgB w p n bs where
  cap : n ≤ c
  nil : p = none → n = 0 ∧ c = 0

theorem ArgC.below {w w' : World} {p : Option Addr} {n c : Nat} {bs : List Int} (h : ArgC w p n c bs) (hb : Below w.heap.size w w') : ArgC w' p n c bs :=
  ⟨h.toArgB.below hb, h.cap, h.nil⟩

/-- frame.Good -/
theorem good_run (p : Option Addr) (n c : Nat) (bs : List Int) (w : World) (ha : ArgC w p n c bs) (hs : n < 4294967281) (he : Ends w) :
    Calls Tryd.prog 25 #[.slice p n c] w fun e w' => e = .returned (.bool (goodL bs)) ∧ ∃ q, w' = w.drewN q := by
  cases p with
  | none =>
    obtain ⟨rfl, rfl⟩ := ha.nil rfl
    obtain rfl : bs = [] := List.eq_nil_of_length_eq_zero ha.len
    exact good_none w he
  | some a => exact good_some a n c bs w ha.toArgB ha.cap hs he

/-- frame.Count -/
def countL (n : Int) : Int := if n < 0 then 0 else wrap64 (n + 3)

set_option maxRecDepth 100000 in
set_option maxHeartbeats 4000000 in
theorem count_run (n : Int) (w : World) : Calls Tryd.prog 24 #[.int .i64 n] w fun e w' => e = .returned (.int .i64 (countL n)) ∧ w' = w := by
  by_cases hn : n < 0
  · have hd : decide (n < 0) = true := by simpa using hn
    rw [countL, if_pos hn]
    go_enter Tryd.func24, Tryd.ntmps24
    go_wp2_with fail
    go_ret
    exact ⟨rfl, rfl⟩
  · have hd : decide (n < 0) = false := by simpa using hn
    rw [countL, if_neg hn]
    go_enter Tryd.func24, Tryd.ntmps24
    go_wp2_with fail
    go_ret
    exact ⟨rfl, rfl⟩
end Go.Proofs.YthhbohpmbkdkeaaDoor
