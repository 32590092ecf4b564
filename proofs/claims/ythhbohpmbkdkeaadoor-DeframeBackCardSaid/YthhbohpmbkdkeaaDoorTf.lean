/- The walk of deframe.take where a frame ends. -/
import Derived.Test.YthhbohpmbkdkeaaDoorTa
import Derived.Deep.AppendLies
import Derived.Deep.RegionLaw
namespace Go.Proofs.YthhbohpmbkdkeaaDoor
open Go.RowKit

theorem Moved.of_below {w w' : World} (h : Below w.heap.size w w') (S : Nat → Prop) : Moved w w' S := ⟨h.os, h.tape, h.output, h.size, fun k hk _ => h.block k hk⟩

/-- a frame was found: what stands behind it -/
theorem found_did (B bd : Nat) (nv fv : Value) (vs : List Value) (s : St) (w w1 w2 w6 : World) (h : DAt B bd nv fv vs s w) (v1 v' x : Value) (hv1 : BytesAt w1 w.heap.size v1 s.now) (hq1 : Below w.heap.size w w1) {o : Obj}
    (hown : w2.ownsRow B 23 1 v' (vs.length + 1) (vs ++ [v1])) (hg : (w1.alloc o).grownBy w2 fv.ownBlock) (hat : fv.ownBlock = v'.ownBlock ∨ v'.ownBlock = some (w1.alloc o).heap.size ∨ v'.ownBlock = some w1.heap.size)
    (ho : w6.heap[bd]? = some (.cells (objOf bd (St.outside { s with found := s.found ++ [s.now] }) (.slice none 0 0) v') 50 (0, 0))) (hm6 : Moved (w2.setCell ⟨bd, 5, none⟩ x) w6 (fun k => k = bd)) :
    Did B bd nv fv vs w (.slice none 0 0) v' (vs ++ [v1]) (St.outside { s with found := s.found ++ [s.now] }) w6 := by
  have hs1 := hq1.size
  have hs := h.size
  have hlow := h.low
  have m1 : Moved w1 w6 (fun k => k = bd ∨ some k = fv.ownBlock) :=
    ((((Moved.refl w1 (fun k => k = bd ∨ some k = fv.ownBlock)).alloc o).trans (Moved.of_grown hg) (fun k _ hk => .inr hk)).set (p := ⟨bd, 5, none⟩) (.inl rfl) x).trans hm6 (fun k _ hk => .inl hk)
  have m0 : Moved w w6 (fun k => k = bd ∨ some k = fv.ownBlock) := (Moved.of_below hq1 _).trans m1 (fun k _ hk => hk)
  have hz1 : w1.heap.size ≤ w6.heap.size := m1.size
  have hfnew : v'.ownBlock = fv.ownBlock ∨ ∃ g, v'.ownBlock = some g ∧ w.heap.size ≤ g := by
    rcases hat with hat | hat | hat
    · exact .inl hat.symm
    · exact .inr ⟨_, hat, by simp; omega⟩
    · exact .inr ⟨_, hat, hs1⟩
  refine ⟨⟨hlow, Nat.le_trans hs m0.size, ho, World.ownsRow_nil _ _ _ _, ?_, ?_, ?_, ?_, ⟨Nat.zero_le _, h.len.2⟩⟩, m0.weaken (fun k hk => by rcases hk with hk | hk; exact .inl hk; exact .inr (.inr hk)), .inl rfl, ?_, ?_⟩
  · rw [List.length_append, List.length_singleton]
    refine owns_moved (owns_moved hown ((Moved.refl w2 (fun k => k = bd)).set (p := ⟨bd, 5, none⟩) rfl x) (fun k hk e => ?_)) hm6 (fun k hk e => ?_)
    · have := (hown.lt k hk).1; omega
    · have := (hown.lt k hk).1; omega
  · show (vs ++ [v1]).length = (s.found ++ [s.now]).length
    rw [List.length_append, List.length_append, h.many]
    rfl
  · intro i v bs hv hb
    replace hb : (s.found ++ [s.now])[i]? = some bs := hb
    by_cases hi : i < vs.length
    · rw [List.getElem?_append_left hi] at hv
      rw [List.getElem?_append_left (by rw [← h.many]; exact hi)] at hb
      have hx := h.els i v bs hv hb
      refine owns_moved hx m0 (fun k hk => ?_)
      rintro (rfl | e)
      · have := (hx.lt k hk).1; omega
      · exact owns_apart hx h.row (by decide) k hk e
    · have hi2 : i = vs.length := by
        have := (List.getElem?_eq_some_iff.1 hv).1
        simp at this
        omega
      subst hi2
      rw [List.getElem?_append_right (Nat.le_refl _)] at hv
      rw [List.getElem?_append_right (by rw [h.many]; exact Nat.le_refl _)] at hb
      simp [h.many] at hv hb
      subst hv hb
      refine owns_base (owns_moved hv1 m1 (fun k hk => ?_)) hs
      have hk1 := hv1.lt k hk
      rintro (rfl | e)
      · omega
      · have := (h.row.lt k e.symm).2; omega
  · intro v _
    cases hx : v.ownBlock with
    | none => exact .inl rfl
    | some k => exact .inr (by simp [Value.ownBlock])
  · rcases hfnew with e | e
    · exact .inr (.inl e)
    · exact .inr (.inr e)
  · intro u hu
    rcases List.mem_append.1 hu with hu | hu
    · exact .inl hu
    · simp at hu
      subst hu
      right
      cases hx : u.ownBlock with
      | none => exact .inl rfl
      | some k => exact .inr ⟨k, rfl, (hv1.lt k hx).1⟩

set_option maxHeartbeats 4000000 in
theorem take_found (B bd : Nat) (nv fv : Value) (vs : List Value) (s : St) (w : World) (h : DAt B bd nv fv vs s w) (hs : Small s) (hf : s.fin = true) :
    Steps 43 B bd nv fv vs (St.outside { s with found := s.found ++ [s.now] }) 13 w := by
  have c3 : w.cell? ⟨bd, 3, none⟩ = some (.bool true) := by rw [← hf]; exact cell_of (i := 3) h.obj rfl
  have c4 : w.cell? ⟨bd, 4, none⟩ = some nv := cell_of (i := 4) h.obj rfl
  have c5 : w.cell? ⟨bd, 5, none⟩ = some fv := cell_of (i := 5) h.obj rfl
  have z5 := free_of (i := 5) h.obj
  obtain ⟨i0, hi, hz0, hz1, hz2⟩ : ∃ i0, Tryd.prog.info? 23 = some i0 ∧ i0.zero = some (.slice none 0 0) ∧ i0.size = 1 ∧ i0.bytes = 24 := info_parts (by kernel_rfl)
  have HI := Lib.hid (And.intro hi (And.intro hz0 (And.intro hz1 hz2)))
  have H := Lib.hid h
  have HS := Lib.hid hs
  have hblt : bd < w.heap.size := Nat.lt_of_lt_of_le h.low h.size
  have hnl : s.now.length ≤ 65536 := by have := h.len; omega
  have HR : Hid (∀ w1, Below w.drew.heap.size w.drew w1 → w1.ownsRow B 23 1 fv vs.length vs) := Lib.hid (fun w1 hb =>
    owns_moved (S := fun _ => False) H.out.row ⟨hb.os, hb.tape, hb.output, hb.size, fun k hk _ => hb.block k hk⟩ (fun _ _ e => e))
  have HNF : Hid (some bd ≠ fv.ownBlock) := Lib.hid (fun e => by have := (H.out.row.lt bd e.symm).1; have := H.out.low; omega)
  have hmany : vs.length ≤ 1000000 := by rw [H.out.many]; exact hs.found
  clear h hs hi hz0 hz1 hz2
  go_enter Tryd.func43, Tryd.ntmps43
  go_wp2_with fail
  have HK : Hid (∀ w1, Below w.drew.heap.size w.drew w1 → w1.cell? ⟨bd, 4, none⟩ = some nv ∧ w1.cell? ⟨bd, 5, none⟩ = some fv ∧ w1.frozen? ⟨bd, 5, none⟩ = false) := Lib.hid (fun w1 hq1 => ⟨(hq1.cell (p := ⟨bd, 4, none⟩) hblt).trans c4, (hq1.cell (p := ⟨bd, 5, none⟩) hblt).trans c5, (hq1.frozen (p := ⟨bd, 5, none⟩) hblt).trans z5⟩)
  have HK2 : Hid (∀ w1 w2 o, Below w.drew.heap.size w.drew w1 → (w1.alloc o).grownBy w2 fv.ownBlock → w2.cell? ⟨bd, 4, none⟩ = some nv ∧ w2.cell? ⟨bd, 5, none⟩ = some fv ∧ w2.frozen? ⟨bd, 5, none⟩ = false) := Lib.hid (fun w1 w2 o hq1 hg => by
    have h1 := HK.out w1 hq1
    have hs : bd < w1.heap.size := Nat.lt_of_lt_of_le hblt hq1.size
    exact ⟨(hg.cell_far ⟨bd, 4, none⟩ (by simp; omega) HNF.out).trans ((World.cell?_alloc_lt _ _ _ hs).trans h1.1), (hg.cell_far ⟨bd, 5, none⟩ (by simp; omega) HNF.out).trans ((World.cell?_alloc_lt _ _ _ hs).trans h1.2.1),
      (hg.frozen_far ⟨bd, 5, none⟩ (by simp; omega) HNF.out).trans ((World.frozen?_of_block (Below.heap_alloc _ _ _ hs)).trans h1.2.2)⟩)
  have HKA : Hid (∀ w1 o, Below w.drew.heap.size w.drew w1 → (w1.alloc o).cell? ⟨bd, 4, none⟩ = some nv ∧ (w1.alloc o).cell? ⟨bd, 5, none⟩ = some fv ∧ (w1.alloc o).frozen? ⟨bd, 5, none⟩ = false) := Lib.hid (fun w1 o hq1 => by
    have h1 := HK.out w1 hq1
    have hs : bd < w1.heap.size := Nat.lt_of_lt_of_le hblt hq1.size
    exact ⟨(World.cell?_alloc_lt _ _ _ hs).trans h1.1, (World.cell?_alloc_lt _ _ _ hs).trans h1.2.1, (World.frozen?_of_block (Below.heap_alloc _ _ _ hs)).trans h1.2.2⟩)
  have HKS : Hid (∀ w1 w2 o v, Below w.drew.heap.size w.drew w1 → (w1.alloc o).grownBy w2 fv.ownBlock → (w2.setCell ⟨bd, 5, none⟩ v).cell? ⟨bd, 4, none⟩ = some nv ∧ (w2.setCell ⟨bd, 5, none⟩ v).frozen? ⟨bd, 5, none⟩ = false) := Lib.hid (fun w1 w2 o v hq1 hg => by
    have h1 := HK2.out w1 w2 o hq1 hg
    exact ⟨(World.cell?_setCell_other _ _ _ _ (fun e => by injection e; omega)).trans h1.1, by simp [h1.2.2]⟩)
  have HZ : Hid (B ≤ w.drew.heap.size) := Lib.hid H.out.size
  have hb1 : vs.length + 1 ≤ maxLen := by unfold maxLen; omega
  have hb2 : (vs.length + 1) * 24 ≤ 140737488355328 := by omega
  have HB12 := Lib.hid (And.intro hb1 hb2)
  clear hb1 hb2
  have c4d : w.drew.cell? ⟨bd, 4, none⟩ = some nv := c4
  have c5d : w.drew.cell? ⟨bd, 5, none⟩ = some fv := c5
  go_region_law
    (first
      | (refine step_append_lies _ (by rfl) _ _ _ (by rfl) B 23 i0 (.slice none 0 0) 1 24 Tryd.underlying22 HI.out.1 HI.out.2.1 HI.out.2.2.1 HI.out.2.2.2 rfl (by decide) fv vs.length vs (by rfl) ((HR.out w1 hq1).alloc _) ⟨w1.heap.size, 0, none⟩ 1 1 [.slice ao n1 n2] (by rfl) rfl (World.news_of_block (heap_alloc_new w1 _)) (by intro u hu; simp at hu; subst hu; rfl) (by decide) HB12.out.1 HB12.out.2 (by have := HZ.out; have := hq1.size; simp; omega) _ rfl ?_; intro g cap w2 hown hg hat hlt; have c5g := (HK2.out _ _ _ hq1 hg).2.1; have z5g := (HK2.out _ _ _ hq1 hg).2.2)
      | (go_simp; go_at_call 34; refine (clone_run B nv s.now w.drew hnl H.out.now.drew).mono ?_; rintro e w1 ⟨ao, n1, n2, rfl, hv1, hq1⟩; have c5w := (HK.out w1 hq1).2.1; have hbw : bd < w1.heap.size := Nat.lt_of_lt_of_le hblt hq1.size))
  all_goals
    have hob : w2.heap[bd]? = some (.cells (objOf bd s nv fv) 50 (0, 0)) :=
      (hg.block bd (by simp only [World.size_alloc]; omega) HNF.out).trans ((Below.heap_alloc _ _ _ hbw).trans ((hq1.block bd hblt).trans H.out.obj))
    have h5 := heap_setCell_same w2 bd 5 _ 50 (.slice (some ⟨g, 0, none⟩) (vs.length + 1) cap) hob
    have H5 := Lib.hid h5
    clear hob h5
    go_wp2_with fail
    refine (outside_run bd { s with found := s.found ++ [s.now] } nv (.slice (some ⟨g, 0, none⟩) (vs.length + 1) cap) _ H5.out).mono ?_
    rintro e w6 ⟨rfl, ho6, hm6⟩
    have HD := Lib.hid (found_did B bd nv fv vs s w w1 w2 w6 H.out (.slice ao n1 n2) (.slice (some ⟨g, 0, none⟩) (vs.length + 1) cap) _ hv1 ⟨hq1.os, hq1.tape, hq1.output, hq1.size, hq1.block⟩ hown hg (by rcases hat with e | e; exact .inl e; exact .inr (.inl (by rw [e]; rfl))) ho6 hm6)
    clear ho6 hm6
    go_wp2_with fail
    exact ⟨rfl, .tuple #[], results_none rfl _ _ _, rfl, _, _, _, HD.out⟩
end Go.Proofs.YthhbohpmbkdkeaaDoor
