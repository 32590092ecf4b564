/- law04.alive; a frame whole; bytes as a text. -/
import Derived.Test.YthhbohpmbkdkeaaDoorFu
import Derived.Laws.BytesArg
import Derived.Shelf.Bytes.SlSmallAll
namespace Go.Proofs.YthhbohpmbkdkeaaDoor
open Go.RowKit

theorem str_eq (s : ByteArray) : (s == s) = true := by
  show (s.data == s.data) = true
  simp

theorem ArgC.conv {w : World} {p : Option Addr} {n c : Nat} {bs : List Int} (h : ArgC w p n c bs) : (convert 23 9 (.slice p n c)).run Tryd.prog w = .ok (.string (strOfNums bs)) w := by
  by_cases hn : n = 0
  · subst hn
    obtain rfl : bs = [] := List.eq_nil_of_length_eq_zero h.len
    exact run_convert_bytes_zero w 23 5 Tryd.underlying23 Tryd.underlying5 p c 9 Tryd.underlying9
  · obtain ⟨b, off, x, rfl, _⟩ := h.toArgB.look (j := 0) (by omega)
    refine run_convert_bytes_arg w 23 5 Tryd.underlying23 Tryd.underlying5 b off n c bs h.len (fun i hi => ?_) 9 Tryd.underlying9
    have := h.toArgB.cells i hi
    rwa [Addr.add_lit] at this

/-- the frame of bytes that may be in one, whole -/
def Wrapped (w w' : World) (n : Nat) (bs : List Int) (e : Ending) : Prop :=
  ∃ p c, e = .returned (.tuple #[.slice p (n + 3) c, .int .i64 0]) ∧ ArgC w' p (n + 3) c (wrapL bs) ∧ Below w.heap.size w w'

theorem wrap_arg (p : Option Addr) (n c : Nat) (bs : List Int) (w : World) (ha : ArgC w p n c bs) (hs : n < 4294967281) (he : Ends w) (hg : goodL bs = true) :
    Calls Tryd.prog 15 #[.slice p n c] w fun e w' => Wrapped w w' n bs e := by
  refine (wrap_yes p n c bs w ha hs he hg).mono ?_
  rintro e w' ⟨v, rfl, hown, hb⟩
  obtain ⟨p', c', rfl, ha'⟩ := owned_arg hown (wrap_bytes ha.byte)
  exact ⟨p', c', rfl, ha', hb⟩

/-- Good of bytes that were just written out -/
theorem good_new (w0 w1 : World) (g n : Nat) (bs : List Int) (o : Obj) (hg : g = w1.heap.size) (ho : o = .cells (bs.map (Value.int .u8)).toArray 5 (0, 0)) (hB : Below w0.heap.size w0 w1) (he : Ends w0) (hb : ByteL bs) (hn : n = bs.length) (hs : n < 4294967281) :
    Calls Tryd.prog 25 #[.slice (some ⟨g, 0, none⟩) n n] (w1.alloc o) fun e w' => e = .returned (.bool (goodL bs)) ∧ Below w0.heap.size w0 w' := by
  have hB2 : Below w0.heap.size w0 (w1.alloc o) := hB.alloc hB.size _
  refine (good_run _ n n bs _ (new_arg w1 g bs o hg ho hb n hn) hs (he.below hB2)).mono ?_
  rintro e w' ⟨rfl, q, rfl⟩
  exact ⟨rfl, hB2.trans ((below_drewN _ _).mono hB2.size)⟩

set_option maxRecDepth 100000 in
set_option maxHeartbeats 4000000 in
theorem alive_run (w : World) (he : Ends w) : Calls Tryd.prog 22 #[] w fun e w' => e = .returned (.bool true) ∧ Below w.heap.size w w' := by
  have hb1 : Below w.heap.size w (w.alloc (.cells #[.int .u8 65, .int .u8 66] 5)) := (Below.refl _ _).alloc (Nat.le_refl _) _
  have h1 := wrap_arg (some ⟨w.heap.size, 0, none⟩) 2 2 [65, 66] (w.alloc (.cells #[.int .u8 65, .int .u8 66] 5)) (new_arg w _ [65, 66] _ rfl rfl (by decide) 2 rfl) (by decide) (he.below hb1) (by decide)
  have HE := Lib.hid (And.intro he hb1)
  clear he hb1
  go_enter Tryd.func22, Tryd.ntmps22
  go_wp2_with fail
  refine h1.mono ?_
  clear h1
  rintro e w1 ⟨p, c, rfl, ha, hb⟩
  have hcv := ha.conv
  rw [show strOfNums (wrapL [65, 66]) = { data := #[11, 65, 66, 28, 13] } from rfl] at hcv
  have hb' : Below w.heap.size w w1 := HE.out.2.trans (hb.mono (by simp))
  have HB := Lib.hid hb'
  clear hb hb' ha
  go_wp2_with fail
  refine (good_new w w1 _ 2 [28, 13] _ rfl rfl HB.out HE.out.1 (by decide) rfl (by decide)).mono ?_
  clear HB hcv
  rintro e w2 ⟨rfl, hb⟩
  have HB := Lib.hid hb
  clear hb
  rw [show goodL [28, 13] = false from rfl]
  go_wp2_with fail
  refine (good_new w w2 _ 1 [28] _ rfl rfl HB.out HE.out.1 (by decide) rfl (by decide)).mono ?_
  clear HB
  rintro e w3 ⟨rfl, hb⟩
  have HB := Lib.hid hb
  clear hb
  rw [show goodL [28] = false from rfl]
  go_wp2_with fail
  refine (good_new w w3 _ 1 [11] _ rfl rfl HB.out HE.out.1 (by decide) rfl (by decide)).mono ?_
  clear HB
  rintro e w4 ⟨rfl, hb⟩
  have HB := Lib.hid hb
  clear hb
  rw [show goodL [11] = false from rfl]
  go_wp2_with fail
  refine (good_new w w4 _ 2 [28, 65] _ rfl rfl HB.out HE.out.1 (by decide) rfl (by decide)).mono ?_
  clear HB
  rintro e w5 ⟨rfl, hb⟩
  have HB := Lib.hid hb
  clear hb
  rw [show goodL [28, 65] = true from rfl]
  go_wp2_with fail
  go_ret
  exact ⟨rfl, HB.out⟩
end Go.Proofs.YthhbohpmbkdkeaaDoor
