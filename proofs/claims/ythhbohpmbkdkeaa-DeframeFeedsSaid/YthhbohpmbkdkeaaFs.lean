/- The walk of law05.DeframeFeeds. -/
import Derived.Test.YthhbohpmbkdkeaaOg
namespace Go.Proofs.Ythhbohpmbkdkeaa
open Go.RowKit

/-- the first pieces, one behind the other -/
def flat (xs : Nat → List Int) : Nat → List Int
  | 0 => []
  | k + 1 => flat xs k ++ xs k
theorem flat_len {xs : Nat → List Int} {L : Nat → Nat} {n : Nat} (h : ∀ j, j < n → (xs j).length = L j) : ∀ k, k ≤ n → (flat xs k).length = sumL L k := by
  intro k
  induction k with
  | zero => intro _; rfl
  | succ k ih => intro hk; simp only [flat, sumL, List.length_append, ih (by omega), h k (by omega)]
theorem flat_byte {xs : Nat → List Int} {n : Nat} (h : ∀ j, j < n → ∀ x ∈ xs j, 0 ≤ x ∧ x ≤ 255) : ∀ k, k ≤ n → ∀ x ∈ flat xs k, 0 ≤ x ∧ x ≤ 255 := by
  intro k
  induction k with
  | zero => intro _ x hx; simp [flat] at hx
  | succ k ih =>
    intro hk x hx
    simp only [flat, List.mem_append] at hx
    rcases hx with hx | hx
    · exact ih (by omega) x hx
    · exact h k (by omega) x hx

theorem owns_form2 {w : World} {B : Nat} {e : TypeId} {v : Value} {n : Nat} {xs : List Value} (h : w.ownsRow B e 1 v n xs) : ∃ ao cap, v = .slice ao n cap ∧ n ≤ cap := by
  rcases h.2 with ⟨h1, h2⟩ | ⟨g, cap, cur, h1, _, _, h3, _⟩
  · exact ⟨none, 0, by rw [h1, h2], by omega⟩
  · exact ⟨_, _, h1, h3⟩

theorem SliceOf.below {w w' : World} {v : Value} {n : Nat} {f : Nat → Value} (h : SliceOf w v n f) (hb : Below w.heap.size w w') : SliceOf w' v n f := by
  obtain ⟨p, cp, hv, hc⟩ := h
  refine ⟨p, cp, hv, fun j hj => ?_⟩
  obtain ⟨b, off, h1, h2⟩ := hc j hj
  exact ⟨b, off, h1, below_keeps hb h2⟩

/-- what stands at the head of a round -/
structure Feeding (w : World) (bd : Nat) (m : Nat) (bs : List Int) (nv av : Value) (wr : World) : Prop where
  st : DAt (bd + 1) bd nv (.slice none 0 0) [] ((St.fresh m).feed bs).nf wr
  row : BytesAt wr (bd + 1) av bs
  apart : av.ownBlock = none ∨ av.ownBlock ≠ nv.ownBlock
  below : Below w.heap.size w wr

theorem Feeding.below' {w : World} {bd m : Nat} {bs : List Int} {nv av : Value} {wr w' : World} (h : Feeding w bd m bs nv av wr) (hb : Below wr.heap.size wr w') : Feeding w bd m bs nv av w' :=
  ⟨h.st.below hb, owns_moved (S := fun _ => False) h.row ⟨hb.os, hb.tape, hb.output, hb.size, fun k hk _ => hb.block k hk⟩ (fun _ _ e => e), h.apart, h.below.trans (hb.mono h.below.size)⟩

set_option maxRecDepth 100000 in
set_option maxHeartbeats 4000000 in
theorem feeds_any (n : Int) (p : Option Addr) (l cp : Nat) (A : Nat → Option Addr) (L C : Nat → Nat) (xs : Nat → List Int) (w : World) (hl0 : (l : Int) ≤ 9223372036854775807) (hr : RowsIn w p l A L C xs) :
    Calls Try.prog 3 #[.int .i64 n, .slice p l cp] w fun e w' => e = .returned (.bool true) ∧ Below w.heap.size w w' := by
  have HR := Lib.hid hr
  clear hr
  have hm := mostOf_in n
  go_enter Try.func3, Try.ntmps3
  go_wp2_with fail
  refine (alive_any _).mono ?_
  rintro e w1 ⟨rfl, hq1⟩
  go_wp2_with fail
  refine (great_run p l cp A L C xs _ hl0 (HR.out.below hq1)).mono ?_
  rintro e w' ⟨rfl, rfl⟩
  have early : Calls Try.prog 8 #[] w1 fun e w' => e = .returned (.bool true) ∧ Below w.heap.size w w' := (alive_any _).mono fun e w' ⟨a, b⟩ => ⟨a, hq1.trans (b.mono hq1.size)⟩
  by_cases hgr : greatB l (sumL L l) = true
  · have HE := Lib.hid early
    clear early
    go_wp2_with fail
    refine HE.out.mono ?_
    rintro e w3 ⟨rfl, hq3⟩
    go_wp2_with fail
    exact bodyPost_ret (v := .bool true) (by simp [results, Try.results3, go_sem]) rfl ⟨rfl, hq3⟩
  · have hgr2 : greatB l (sumL L l) = false := by simpa using hgr
    have hsm : l ≤ 100 ∧ sumL L l ≤ 3000 := by
      have := of_decide_eq_false hgr2
      omega
    clear early hgr
    go_wp2_with fail
    clear hgr2
    have HM : Hid (∀ w, Calls Try.prog 11 #[.int .i64 n] w fun e w' => e = .returned (.int .i64 (mostOf n)) ∧ w = w') := Lib.hid (fun w => (most_run n w).mono fun _ _ h => ⟨h.1, h.2.symm⟩)
    generalize mostOf n = m at hm HM
    refine (HM.out _).mono ?_
    rintro e w' ⟨rfl, rfl⟩
    go_wp2_with fail
    refine (new_run m _ hm.1 (by omega)).mono ?_
    rintro e w2 ⟨rfl, hd2, hq2⟩
    have hwa : w.heap.size ≤ w1.heap.size := hq1.size
    obtain ⟨bd, hbd⟩ : ∃ bd, bd = w1.heap.size := ⟨_, rfl⟩
    rw [← hbd] at hd2 hwa ⊢
    have HD2 : Hid (Feeding w bd m [] (.slice none 0 0) (.slice none 0 0) w2) := Lib.hid ⟨hd2, World.ownsRow_nil _ _ _ _, .inl rfl, hq1.trans (hq2.mono hq1.size)⟩
    clear hd2 hq1 hq2 hbd
    go_wp2_with fail
    go_loopw [7, 8, 35] (fun av told i wr => ∃ (j t0 : Nat) (nv : Value), i = .int .i64 j ∧ j ≤ l ∧ told = .int .i64 t0 ∧ t0 = ((St.fresh m).feed (flat xs j)).found.length ∧ Feeding w bd m (flat xs j) nv av wr) (fun _ _ i _ => l - (intOf i).toNat)
    case atStart => exact ⟨0, 0, _, rfl, by omega, rfl, rfl, HD2.out⟩
    case round =>
      obtain ⟨j, t0, nv, rfl, hj, rfl, ht0, hf⟩ := hrel
      have HF := Lib.hid hf
      have HT0 := Lib.hid ht0
      clear hf ht0
      by_cases hlt : j < l
      · obtain ⟨b, off, hp, c0, hA, hL, hA0⟩ := (HR.out.below HF.out.below) j hlt
        subst hp
        have hlen := hA.len
        have hfl : (flat xs j).length = sumL L j := flat_len (fun i hi => by obtain ⟨_, _, _, _, h, _⟩ := HR.out i hi; exact h.len) j (by omega)
        have hs1 : sumL L j + L j ≤ 3000 := by have := sumL_mono L (show j + 1 ≤ l by omega); simp only [sumL] at this; omega
        have hroom : Room (St.fresh m) ((xs j).length + (flat xs j).length) := Room.fresh m (by omega)
        have hroom1 : Room ((St.fresh m).feed (flat xs j)).nf (xs j).length := (Room.feed hroom).nf
        have hA0w : ArgB w (A j) (L j) (xs j) := by obtain ⟨_, _, _, _, h, _⟩ := HR.out j hlt; exact h
        have hsrc : Src wr bd nv (A j) (xs j) := hA0w.src HF.out.below hwa (fun k hk => by have := (HF.out.st.now.lt k hk).1; omega)
        have hfeed := feed_run (bd + 1) bd (L j) (C j) (A j) nv ((St.fresh m).feed (flat xs j)).nf (xs j) wr HF.out.st hroom1 hlen hsrc
        have hp := feed_piece (St.fresh m) (flat xs j) (xs j)
        have hsmall : Small ((St.fresh m).feed (flat xs j ++ xs j)) := (Room.feed (n := 0) (Room.fresh m (by simp; omega))).small
        have hbyte : ∀ x ∈ flat xs j ++ xs j, 0 ≤ x ∧ x ≤ 255 := flat_byte (fun i hi => by obtain ⟨_, _, _, _, h, _⟩ := HR.out i hi; exact h.byte) (j + 1) (by omega)
        have HFD := Lib.hid hfeed
        have HP := Lib.hid hp
        have HS := Lib.hid hsmall
        have HBY := Lib.hid hbyte
        have HLN := Lib.hid (And.intro hlen hfl)
        clear hroom hroom1 hsrc hfeed hp hsmall hbyte hlen hfl
        go_wp2_with fail
        refine HFD.out.mono ?_
        rintro e w6 ⟨nv6, fo6, vs6, rfl, hf6⟩
        clear hA0w c0
        obtain ⟨ao6, cap6, rfl⟩ := owns_form hf6.out.row
        have hs6 : wr.heap.size ≤ w6.heap.size := hf6.moved.size
        have hrow6 : BytesAt w6 (bd + 1) u7 (flat xs j) := owns_moved HF.out.row hf6.moved (fun k hk e => by
          rcases e with e | e
          · have := (HF.out.row.lt k hk).1; omega
          · rcases HF.out.apart with h | h
            · rw [h] at hk; cases hk
            · exact h (hk.trans e))
        have hap6 : u7.ownBlock = none ∨ u7.ownBlock ≠ nv6.ownBlock := hf6.nf.apart (fun k hk => (HF.out.row.lt k hk).2) HF.out.apart
        have hb6 : Below w.heap.size w w6 := Moved.below HF.out.below hf6.moved (fun k hk => by
          rcases hk with hk | hk
          · omega
          · have := (HF.out.st.now.lt k hk.symm).1; omega)
        have hA6 : ArgB w6 (A j) (L j) (xs j) := by obtain ⟨_, _, _, _, h, _⟩ := (HR.out.below hb6) j hlt; exact h
        obtain ⟨i0, hi0, hz0, hz1, hz2⟩ : ∃ i0, Try.prog.info? 5 = some i0 ∧ i0.zero = some (.int .u8 0) ∧ i0.size = 1 ∧ i0.bytes = 1 := info_parts (by kernel_rfl)
        have HI := Lib.hid (And.intro hi0 (And.intro hz0 (And.intro hz1 hz2)))
        have H6 := Lib.hid (And.intro hf6 (And.intro hrow6 (And.intro hap6 (And.intro hb6 hA6))))
        have hbm : (flat xs j).length + L j ≤ maxLen := by have := HLN.out.2; unfold maxLen; omega
        have HBM := Lib.hid hbm
        have HL3 : Hid (((flat xs j).length + L j) * 1 ≤ 140737488355328) := Lib.hid (by have := HLN.out.2; omega)
        have hbs6 : bd + 1 ≤ w6.heap.size := Nat.le_trans HF.out.st.size hs6
        clear hf6 hrow6 hap6 hb6 hA6 hi0 hz0 hz1 hz2 HFD hbm
        go_wp2_with (first
          | (at_builtin; refine wpList_append_arg rfl _ _ 30 rfl (bd + 1) 5 i0 Try.underlying30 HI.out.1 HI.out.2.1 HI.out.2.2.1 HI.out.2.2.2 _ _ _ rfl H6.out.2.1 (A j) (L j) (C j) (xs j) rfl H6.out.2.2.2.2 hA0 HBM.out HL3.out hbs6 ?_)
          | fail)
        intro v7 w7 hown7 hg7 hn7
        have hrow7 : BytesAt w7 (bd + 1) v7 (flat xs j ++ xs j) := by
          show World.ownsRow _ _ _ _ _ (flat xs j ++ xs j).length ((flat xs j ++ xs j).map (.int .u8))
          rw [List.length_append, List.map_append, HLN.out.1]
          exact hown7
        have hm7 := Moved.of_grown hg7
        have hst7 : DAt (bd + 1) bd nv6 (.slice none 0 0) [] ((St.fresh m).feed (flat xs j ++ xs j)).nf w7 := by
          rw [HP.out.1]
          exact DAt.moved2 H6.out.1.st hm7 (fun e => by have := (H6.out.2.1.lt bd e.symm).1; omega) (fun k hk e => by
            rcases H6.out.2.2.1 with h | h
            · rw [h] at e; cases e
            · exact h (e.symm.trans hk.symm))
        have hrows7 : Rows2 (bd + 1) (.slice ao6 vs6.length cap6) vs6 (((St.fresh m).feed (flat xs j)).nf.feed (xs j)).found w7 := by
          refine ⟨owns_moved H6.out.1.out.row hm7 (fun k hk e => owns_apart H6.out.1.out.row H6.out.2.1 (by decide) k hk e), H6.out.1.out.many, fun i v bs hv hx => owns_moved (H6.out.1.out.els i v bs hv hx) hm7 (fun k hk e => ?_)⟩
          rcases H6.out.1.out.elsNew v (List.mem_of_getElem? hv) with h | ⟨g, h, hg⟩
          · rw [h] at hk; cases hk
          · rw [h] at hk
            injection hk with hk
            have := (HF.out.row.lt k e.symm).2
            omega
        have hap7 : v7.ownBlock = none ∨ v7.ownBlock ≠ nv6.ownBlock := by
          rcases hn7 with h | h | ⟨g, h, hg⟩
          · exact .inl h
          · rw [h]; exact H6.out.2.2.1
          · refine .inr fun e => ?_
            have := (H6.out.1.st.now.lt g (e ▸ h)).2
            omega
        have hb7 : Below w.heap.size w w7 := Moved.below H6.out.2.2.2.1 hm7 (fun k hk => by have := (H6.out.2.1.lt k hk.symm).1; omega)
        obtain ⟨ao7, cap7, hv7, hA7⟩ := ArgB.of_owns hrow7 HBY.out
        have hread := fun (w' : World) (hb : Below w7.heap.size w7 w') => read_tells ao7 _ cap7 m (flat xs j ++ xs j) w' (by omega) (hA7.below hb) (Room.fresh m (by have := HLN.out; simp; omega))
        obtain ⟨N, hN⟩ : ∃ N, N = (flat xs j ++ xs j).length := ⟨_, rfl⟩
        rw [← hN] at hv7 hread
        have HRD := Lib.hid (hread w7 (Below.refl _ _))
        have H7 := Lib.hid (And.intro hrow7 (And.intro hst7 (And.intro hrows7 (And.intro hap7 hb7))))
        obtain ⟨T, hT⟩ : ∃ T, T = (St.fresh m).feed (flat xs j ++ xs j) := ⟨_, rfl⟩
        rw [← hT] at HRD H7 HP HS
        have HTE := Lib.hid hT
        have HNE := Lib.hid hN
        subst hv7
        clear hown7 hg7 hn7 hrow7 hm7 hst7 hrows7 hap7 hb7 hA7 hread hN hT hbs6
        go_wp2_with fail
        refine (HM.out _).mono ?_
        rintro e w' ⟨rfl, rfl⟩
        go_wp2_with fail
        refine HRD.out.mono ?_
        rintro e w8 ⟨fv8, vs8, rfl, hr8, hb8⟩
        obtain ⟨ao8, cap8, rfl, hcap8⟩ := owns_form2 hr8.row
        have H8 : Hid (Feeding w bd m (flat xs j ++ xs j) nv6 (.slice ao7 N cap7) w8 ∧ Rows2 (bd + 1) (.slice ao6 vs6.length cap6) vs6 (((St.fresh m).feed (flat xs j)).nf.feed (xs j)).found w8 ∧ Rows2 (w7.heap.size + 2) (.slice ao8 vs8.length cap8) vs8 T.found w8) :=
          Lib.hid ⟨⟨by rw [← HTE.out]; exact H7.out.2.1.below hb8, owns_moved (S := fun _ => False) H7.out.1 ⟨hb8.os, hb8.tape, hb8.output, hb8.size, fun k hk _ => hb8.block k hk⟩ (fun _ _ e => e), H7.out.2.2.2.1, H7.out.2.2.2.2.trans (hb8.mono H7.out.2.2.2.2.size)⟩, H7.out.2.2.1.below hb8, hr8⟩
        clear hr8 hb8 HRD
        have hv8 : vs8.length = t0 + vs6.length := by
          rw [H8.out.2.2.many, H8.out.2.1.many, HP.out.2, List.length_append, HT0.out]
        have hv6 : vs6.length ≤ 1000000 := by
          have h1 := HS.out.found
          rw [← H8.out.2.2.many] at h1
          omega
        have hle : t0 ≤ vs8.length := by omega
        have HV8 := Lib.hid hv8
        -- the second row, from t0 on
        have hsl : ∀ (cc : Nat), (cap8 = t0 → SliceOf w8 (.slice ao8 (vs8.length - t0) cc) vs6.length (fun i => vs8.getD (t0 + i) undef)) ∧ (cap8 ≠ t0 → SliceOf w8 (.slice (Option.map (fun x => x.add t0) ao8) (vs8.length - t0) cc) vs6.length (fun i => vs8.getD (t0 + i) undef)) := by
          intro cc
          have e : vs8.length - t0 = vs6.length := by omega
          rw [e]
          constructor
          · intro hc
            exact ⟨ao8, cc, rfl, fun i hi => by omega⟩
          · intro _
            refine ⟨_, cc, rfl, fun i hi => ?_⟩
            obtain ⟨pp, cp2, hpp, hcell⟩ := slice_of_owns H8.out.2.2.row
            obtain ⟨bb, oo, hp1, hp2⟩ := hcell (t0 + i) (by omega)
            injection hpp with h1 _ _
            refine ⟨bb, oo + t0, ?_, ?_⟩
            · rw [h1, hp1]
              simp [Addr.add_lit]
            · rw [Nat.add_assoc]
              exact hp2
        have htext : ∀ i, i < vs6.length → TextAt w8 (vs8.getD (t0 + i) undef) ((((St.fresh m).feed (flat xs j)).nf.feed (xs j)).found.getD i []) := by
          intro i hi
          have h1 := H8.out.2.2.text (t0 + i) (by omega)
          rw [HP.out.2] at h1
          have h2 : (((St.fresh m).feed (flat xs j)).found ++ (((St.fresh m).feed (flat xs j)).nf.feed (xs j)).found).getD (t0 + i) [] = (((St.fresh m).feed (flat xs j)).nf.feed (xs j)).found.getD i [] := by
            rw [List.getD_eq_getElem?_getD, List.getD_eq_getElem?_getD, List.getElem?_append_right (by rw [← HT0.out]; omega), ← HT0.out]
            congr 2
            omega
          rw [h2] at h1
          exact h1
        have HSL := Lib.hid hsl
        have HTX := Lib.hid htext
        clear hv8 hsl htext hcap8
        by_cases hct : cap8 = t0
        focus
          go_wp2_with fail
          obtain ⟨wC, hwC⟩ : ∃ wC : World, wC = w8.alloc (Obj.cells #[Value.slice ao8 vs8.length t0, Value.int IntKind.i64 T.held, Value.int IntKind.i64 T.junk, Value.int IntKind.i64 T.over, Value.int IntKind.i64 T.broken] 34) := ⟨_, rfl⟩
          have hal : Below w8.heap.size w8 wC := by rw [hwC]; exact (Below.refl _ _).alloc (Nat.le_refl _) _
          have r0 : wC.cell? ⟨w8.heap.size, 0, none⟩ = some (.slice ao8 vs8.length t0) := by rw [hwC]; exact box_of _ rfl 0 rfl
          have r1 : wC.cell? ⟨w8.heap.size, 1, none⟩ = some (.int .i64 T.held) := by rw [hwC]; exact box_of _ rfl 1 rfl
          have r2 : wC.cell? ⟨w8.heap.size, 2, none⟩ = some (.int .i64 T.junk) := by rw [hwC]; exact box_of _ rfl 2 rfl
          have r3 : wC.cell? ⟨w8.heap.size, 3, none⟩ = some (.int .i64 T.over) := by rw [hwC]; exact box_of _ rfl 3 rfl
          have r4 : wC.cell? ⟨w8.heap.size, 4, none⟩ = some (.int .i64 T.broken) := by rw [hwC]; exact box_of _ rfl 4 rfl
          rw [← hwC]
          have s1 := slice_of_owns (H8.out.2.1.below hal).row
          have s2 := ((HSL.out 0).1 hct).below hal
          refine (same_draws vs6.length _ _ _ _ (fun i => (((St.fresh m).feed (flat xs j)).nf.feed (xs j)).found.getD i []) wC (by omega) s1 s2 (fun i hi => (H8.out.2.1.below hal).text i hi) (fun i hi => (HTX.out i hi).below hal)).mono ?_
          rintro e w9 ⟨rfl, hq9⟩
          obtain ⟨q9, hq9⟩ := hq9
          have hb9 : Below w8.heap.size w8 w9 := by rw [hq9]; exact below_drewN hal q9
          have r0 : w9.cell? ⟨w8.heap.size, 0, none⟩ = some (.slice ao8 vs8.length t0) := by rw [hq9]; exact r0
          have r1 : w9.cell? ⟨w8.heap.size, 1, none⟩ = some (.int .i64 T.held) := by rw [hq9]; exact r1
          have r2 : w9.cell? ⟨w8.heap.size, 2, none⟩ = some (.int .i64 T.junk) := by rw [hq9]; exact r2
          have r3 : w9.cell? ⟨w8.heap.size, 3, none⟩ = some (.int .i64 T.over) := by rw [hq9]; exact r3
          have r4 : w9.cell? ⟨w8.heap.size, 4, none⟩ = some (.int .i64 T.broken) := by rw [hq9]; exact r4
          have H9 := Lib.hid hb9
          clear hb9 hq9 hal hwC s1 s2
        rotate_left 1
        focus
          go_wp2_with fail
          obtain ⟨wC, hwC⟩ : ∃ wC : World, wC = w8.alloc (Obj.cells #[Value.slice ao8 vs8.length cap8, Value.int IntKind.i64 T.held, Value.int IntKind.i64 T.junk, Value.int IntKind.i64 T.over, Value.int IntKind.i64 T.broken] 34) := ⟨_, rfl⟩
          have hal : Below w8.heap.size w8 wC := by rw [hwC]; exact (Below.refl _ _).alloc (Nat.le_refl _) _
          have r0 : wC.cell? ⟨w8.heap.size, 0, none⟩ = some (.slice ao8 vs8.length cap8) := by rw [hwC]; exact box_of _ rfl 0 rfl
          have r1 : wC.cell? ⟨w8.heap.size, 1, none⟩ = some (.int .i64 T.held) := by rw [hwC]; exact box_of _ rfl 1 rfl
          have r2 : wC.cell? ⟨w8.heap.size, 2, none⟩ = some (.int .i64 T.junk) := by rw [hwC]; exact box_of _ rfl 2 rfl
          have r3 : wC.cell? ⟨w8.heap.size, 3, none⟩ = some (.int .i64 T.over) := by rw [hwC]; exact box_of _ rfl 3 rfl
          have r4 : wC.cell? ⟨w8.heap.size, 4, none⟩ = some (.int .i64 T.broken) := by rw [hwC]; exact box_of _ rfl 4 rfl
          rw [← hwC]
          have s1 := slice_of_owns (H8.out.2.1.below hal).row
          have s2 := ((HSL.out (cap8 - t0)).2 hct).below hal
          refine (same_draws vs6.length _ _ _ _ (fun i => (((St.fresh m).feed (flat xs j)).nf.feed (xs j)).found.getD i []) wC (by omega) s1 s2 (fun i hi => (H8.out.2.1.below hal).text i hi) (fun i hi => (HTX.out i hi).below hal)).mono ?_
          rintro e w9 ⟨rfl, hq9⟩
          obtain ⟨q9, hq9⟩ := hq9
          have hb9 : Below w8.heap.size w8 w9 := by rw [hq9]; exact below_drewN hal q9
          have r0 : w9.cell? ⟨w8.heap.size, 0, none⟩ = some (.slice ao8 vs8.length cap8) := by rw [hq9]; exact r0
          have r1 : w9.cell? ⟨w8.heap.size, 1, none⟩ = some (.int .i64 T.held) := by rw [hq9]; exact r1
          have r2 : w9.cell? ⟨w8.heap.size, 2, none⟩ = some (.int .i64 T.junk) := by rw [hq9]; exact r2
          have r3 : w9.cell? ⟨w8.heap.size, 3, none⟩ = some (.int .i64 T.over) := by rw [hq9]; exact r3
          have r4 : w9.cell? ⟨w8.heap.size, 4, none⟩ = some (.int .i64 T.broken) := by rw [hq9]; exact r4
          have H9 := Lib.hid hb9
          clear hb9 hq9 hal hwC s1 s2
        rotate_left 1
        all_goals
          clear hct
          have HD : Hid (DAt (bd + 1) bd nv6 (.slice none 0 0) [] T.nf w9) := Lib.hid (by rw [HTE.out]; exact H8.out.1.st.below H9.out)
          go_wp2_with fail
          go_quiet (first
            | (go_at_call 15; exact held_q HD.out _ T.held rfl)
            | (go_at_call 16; exact junk_q HD.out _ T.junk rfl)
            | (go_at_call 17; exact over_q HD.out _ T.over rfl)
            | (go_at_call 18; exact broken_q HD.out _ T.broken rfl))
          go_wp2_with fail
          have hfin : vs8.length = ((St.fresh m).feed (flat xs (j + 1))).found.length := by rw [H8.out.2.2.many, HTE.out]; rfl
          have HFIN := Lib.hid hfin
          clear hfin
          go_roundw
          case rel => exact ⟨j + 1, vs8.length, nv6, by go_num, by omega, rfl, HFIN.out, (H8.out.1.below' (below_drewN H9.out nq))⟩
          case measure => simp [intOf]; omega
      · go_wp2_with fail
        exact bodyPost_ret (v := .bool true) (by simp [results, Try.results3, go_sem]) rfl ⟨rfl, HF.out.below⟩
end Go.Proofs.Ythhbohpmbkdkeaa
