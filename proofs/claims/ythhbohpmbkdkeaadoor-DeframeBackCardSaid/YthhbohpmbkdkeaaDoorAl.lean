/- The walks of law05.most and law05.alive. -/
import Derived.Test.YthhbohpmbkdkeaaDoorGt
import Derived.Laws.BytesArg
namespace Go.Proofs.YthhbohpmbkdkeaaDoor
open Go.RowKit

def mostOf (n : Int) : Nat := 1 + (IntKind.u64.wrap n % 200).toNat

theorem mostOf_in (n : Int) : 1 ≤ mostOf n ∧ mostOf n ≤ 200 := by unfold mostOf; omega

theorem most_run (n : Int) (w : World) : Calls Tryd.prog 14 #[.int .i64 n] w fun e w' => e = .returned (.int .i64 (mostOf n)) ∧ w' = w := by
  have h0 : 0 ≤ IntKind.u64.wrap n ∧ IntKind.u64.wrap n ≤ 18446744073709551615 := by simp [IntKind.wrap, IntKind.signed, IntKind.bits]; omega
  have hm : (mostOf n : Int) = 1 + (IntKind.u64.wrap n) % 200 := by unfold mostOf; omega
  generalize mostOf n = m at hm ⊢
  have HM := Lib.hid hm
  clear hm
  go_enter Tryd.func14, Tryd.ntmps14
  go_wp2_with fail
  go_ret
  refine ⟨?_, rfl⟩
  show Ending.returned (Value.int .i64 (1 + IntKind.u64.wrap n % 200)) = _
  rw [HM.out]

/-- a row with one value -/
theorem owns_one {w : World} {B : Nat} {e : TypeId} {v x : Value} (h : w.ownsRow B e 1 v 1 [x]) : ∃ g cap, v = .slice (some ⟨g, 0, none⟩) 1 cap ∧ w.cell? ⟨g, 0, none⟩ = some x := by
  rcases h.2 with ⟨_, h0⟩ | ⟨g, cap, cur, rfl, _⟩
  · omega
  · refine ⟨g, cap, rfl, ?_⟩
    have := h.cells (g := g) rfl 0 x rfl
    rwa [Addr.add_lit] at this

theorem DAt.below {B bd : Nat} {nv fv : Value} {vs : List Value} {s : St} {w w' : World} (h : DAt B bd nv fv vs s w) (hb : Below w.heap.size w w') : DAt B bd nv fv vs s w' := by
  have hm := Moved.of_below hb (fun _ => False)
  have hlt : bd < w.heap.size := Nat.lt_of_lt_of_le h.low h.size
  exact ⟨h.low, Nat.le_trans h.size hb.size, (hb.block bd hlt).trans h.obj, owns_moved h.now hm (fun _ _ e => e), owns_moved h.row hm (fun _ _ e => e), h.many, fun i v bs hv hb' => owns_moved (h.els i v bs hv hb') hm (fun _ _ e => e), h.apart, h.len⟩

theorem alive_any (w : World) : Calls Tryd.prog 11 #[] w fun e w' => e = .returned (.bool true) ∧ Below w.heap.size w w' := by
  go_enter Tryd.func11, Tryd.ntmps11
  go_wp2_with fail
  refine (new_run 3 w (by decide) (by decide)).mono ?_
  rintro e w1 ⟨rfl, hd, hq⟩
  have HD := Lib.hid hd
  clear hd
  go_wp2_with fail
  have hq2 : Below w1.heap.size w1 (w1.alloc (.cells #[.int .u8 65, .int .u8 11, .int .u8 66, .int .u8 28, .int .u8 13, .int .u8 11, .int .u8 67, .int .u8 11, .int .u8 68] 5)) := (Below.refl _ _).alloc (Nat.le_refl _) _
  have hs1 : w.heap.size + 1 ≤ w1.heap.size := HD.out.size
  refine (feed_run (w.heap.size + 1) w.heap.size 9 9 (some ⟨w1.heap.size, 0, none⟩) (.slice none 0 0) (St.fresh 3) [65, 11, 66, 28, 13, 11, 67, 11, 68] _ (HD.out.below hq2) ⟨by decide, by decide, by decide, by decide⟩ rfl ?_).mono ?_
  · intro j x hj
    refine ⟨w1.heap.size, 0, rfl, by omega, by simp [Value.ownBlock], ?_⟩
    match j, hj with
    | 0, hj => simp at hj; subst hj; simp [go_sem]
    | 1, hj => simp at hj; subst hj; simp [go_sem]
    | 2, hj => simp at hj; subst hj; simp [go_sem]
    | 3, hj => simp at hj; subst hj; simp [go_sem]
    | 4, hj => simp at hj; subst hj; simp [go_sem]
    | 5, hj => simp at hj; subst hj; simp [go_sem]
    | 6, hj => simp at hj; subst hj; simp [go_sem]
    | 7, hj => simp at hj; subst hj; simp [go_sem]
    | 8, hj => simp at hj; subst hj; simp [go_sem]
    | j + 9, hj => simp at hj
  rintro e w2 ⟨nv', fo, vs, rfl, hf⟩
  rw [show (St.fresh 3).feed [65, 11, 66, 28, 13, 11, 67, 11, 68] = ⟨3, true, false, [68], [[66]], 1, 0, 1⟩ from rfl] at hf
  obtain ⟨v, rfl⟩ : ∃ v, vs = [v] := List.length_eq_one_iff.1 hf.out.many
  obtain ⟨g, cap, rfl, hc⟩ := owns_one hf.out.row
  obtain ⟨g2, cap2, rfl, hc2⟩ := owns_one (hf.out.els 0 v [66] rfl rfl)
  have hcv := run_convert_bytes_arg (P := Tryd.prog) w2 23 5 Tryd.underlying23 Tryd.underlying5 g2 0 1 cap2 [66] rfl (fun i hi => by
    have : i = 0 := by omega
    subst this
    exact hc2) 9 Tryd.underlying9
  rw [show strOfNums [66] = ⟨#[66]⟩ from rfl] at hcv
  have hbl : Below w.heap.size w w2 := by
    have hm := hf.moved
    have hb2 := hq.trans (hq2.mono (by omega))
    refine ⟨hm.os.trans hb2.os, hm.tape.trans hb2.tape, hm.output.trans hb2.output, Nat.le_trans hb2.size hm.size, fun k hk => ?_⟩
    rw [hm.block k (by simp; omega) (by rintro (e | e); omega; simp [Value.ownBlock] at e)]
    exact hb2.block k hk
  have HS := Lib.hid hf.st
  have HB := Lib.hid hbl
  have hj := Lib.hid (junk_run _ _ _ _ _ _ w2 hf.st)
  have hb := Lib.hid (broken_run _ _ _ _ _ _ w2 hf.st)
  have hh : Hid (Calls Tryd.prog 20 #[.pointer (some ⟨w.heap.size, 0, none⟩)] w2 fun e w' => e = .returned (.int .i64 2) ∧ w' = w2) := Lib.hid (held_run _ _ _ _ _ _ w2 hf.st)
  have ho := Lib.hid (over_run _ _ _ _ _ _ w2 hf.st)
  clear hf hbl
  go_wp2_with fail
  refine hj.out.mono ?_
  rintro e w' ⟨rfl, rfl⟩
  go_wp2_with fail
  refine hb.out.mono ?_
  rintro e w' ⟨rfl, rfl⟩
  go_wp2_with fail
  refine hh.out.mono ?_
  rintro e w' ⟨rfl, rfl⟩
  go_wp2_with fail
  refine ho.out.mono ?_
  rintro e w' ⟨rfl, rfl⟩
  go_wp2_with fail
  exact bodyPost_ret (v := .bool true) (by simp [results, Tryd.results11, go_sem]) rfl ⟨rfl, HB.out⟩
end Go.Proofs.YthhbohpmbkdkeaaDoor
