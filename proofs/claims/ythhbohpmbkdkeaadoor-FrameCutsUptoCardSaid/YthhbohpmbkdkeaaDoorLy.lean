/- The walk of deframe.lay. -/
import Derived.Test.YthhbohpmbkdkeaaDoorDc
import Derived.Test.YthhbohpmbkdkeaaDoorAp
namespace Go.Proofs.YthhbohpmbkdkeaaDoor
open Go.RowKit

theorem Moved.of_grown {w w' : World} {row : Option Nat} (h : w.grownBy w' row) : Moved w w' (fun k => some k = row) := ⟨h.os, h.tape, h.output, h.size, fun k h1 h2 => h.block k h1 h2⟩
theorem Moved.weaken {w w' : World} {S T : Nat → Prop} (h : Moved w w' S) (hST : ∀ k, S k → T k) : Moved w w' T := ⟨h.os, h.tape, h.output, h.size, fun k h1 h2 => h.block k h1 (fun e => h2 (hST k e))⟩
theorem Moved.alloc {w w' : World} {S : Nat → Prop} (h : Moved w w' S) (o : Obj) : Moved w (w'.alloc o) S :=
  ⟨h.os, h.tape, h.output, by simp; exact Nat.le_succ_of_le h.size, fun k h1 h2 => (Below.heap_alloc _ _ _ (Nat.lt_of_lt_of_le h1 h.size)).trans (h.block k h1 h2)⟩
theorem Moved.drew {w w' : World} {S : Nat → Prop} (h : Moved w w' S) : Moved w w'.drew S := ⟨h.os, h.tape, h.output, h.size, h.block⟩

/-- a row stays where its block stays -/
theorem owns_moved {w w' : World} {S : Nat → Prop} {base : Nat} {e : TypeId} {size : Nat} {v : Value} {n : Nat} {xs : List Value} (h : w.ownsRow base e size v n xs) (hm : Moved w w' S) (hv : ∀ k, v.ownBlock = some k → ¬ S k) : w'.ownsRow base e size v n xs := by
  refine ⟨h.1, ?_⟩
  rcases h.2 with hn | ⟨g, cap, cur, rfl, hb, hg, r⟩
  · exact .inl hn
  · exact .inr ⟨g, cap, cur, rfl, hb, by rw [hm.block g (Array.getElem?_eq_some_iff.1 hg).1 (hv g rfl)]; exact hg, r⟩

set_option maxHeartbeats 2000000 in
theorem lay_run (B bd tb m c : Nat) (s : St) (bs : List Int) (nv fv : Value) (w : World) (hlow : bd < B) (hB : B ≤ w.heap.size) (hm : 0 < m) (hm2 : m ≤ 2) (hbs : bs.length = m) (hlen : s.now.length ≤ 65536) (hov : 0 ≤ s.over ∧ s.over ≤ 1000000)
    (ho : w.heap[bd]? = some (.cells (objOf bd s nv fv) 50 (0, 0))) (hnow : BytesAt w B nv s.now) (hc : ∀ j x, bs[j]? = some x → w.cell? ⟨tb, j, none⟩ = some (.int .u8 x)) :
    Calls Tryd.prog 45 #[.pointer (some ⟨bd, 0, none⟩), .slice (some ⟨tb, 0, none⟩) m c] w fun e w' => e = .returned (.tuple #[]) ∧ ∃ nv', w'.heap[bd]? = some (.cells (objOf bd (s.lay bs) nv' fv) 50 (0, 0)) ∧
      BytesAt w' B nv' (s.lay bs).now ∧ Moved w w' (fun k => k = bd ∨ some k = nv.ownBlock) ∧ (nv'.ownBlock = none ∨ Near w nv nv') := by
  have c4 : w.cell? ⟨bd, 4, none⟩ = some nv := cell_of (i := 4) ho rfl
  have hblt : bd < w.heap.size := by omega
  obtain ⟨i0, hi, hz0, hz1, hz2⟩ : ∃ i0, Tryd.prog.info? 5 = some i0 ∧ i0.zero = some (.int .u8 0) ∧ i0.size = 1 ∧ i0.bytes = 1 := info_parts (by kernel_rfl)
  have HI := Lib.hid (And.intro hi (And.intro hz0 (And.intro hz1 hz2)))
  have HO := Lib.hid ho
  have HN := Lib.hid hnow
  have HC := Lib.hid hc
  clear ho hnow hc hi hz0 hz1 hz2
  have hne : some bd ≠ nv.ownBlock := fun he => by have := (HN.out.lt bd he.symm).1; omega
  have HNE := Lib.hid hne
  clear hne
  go_enter Tryd.func45, Tryd.ntmps45
  go_wp2_with (first
    | (at_builtin; refine wpList_append_near rfl _ _ 23 rfl B 5 i0 (.int .u8 0) 1 1 Tryd.underlying23 HI.out.1 HI.out.2.1 HI.out.2.2.1 HI.out.2.2.2 rfl (by decide) _ _ _ rfl HN.out ⟨tb, 0, none⟩ m c (bs.map (.int .u8)) rfl (by simp [hbs]) ?c1 ?c2 hm ?c3 ?c4 hB ?_)
    | fail)
  case c1 =>
    intro j u hj
    rw [List.getElem?_map] at hj
    obtain ⟨x, hx, rfl⟩ := Option.map_eq_some_iff.1 hj
    rw [Addr.add_lit, Nat.zero_add]
    exact HC.out j x hx
  case c2 => intro u hu; obtain ⟨x, _, rfl⟩ := List.mem_map.1 hu; rfl
  case c3 => unfold maxLen; omega
  case c4 => omega
  intro v' w1 hown hg hnear hform
  obtain ⟨g, cap, rfl⟩ := hform
  have ho1 : w1.heap[bd]? = some (.cells (objOf bd s nv fv) 50 (0, 0)) := (hg.block bd hblt HNE.out).trans HO.out
  have c4' : w1.cell? ⟨bd, 4, none⟩ = some nv := cell_of (i := 4) ho1 rfl
  have z4 := free_of (i := 4) ho1
  have h4 := heap_setCell_same w1 bd 4 _ 50 (.slice (some ⟨g, 0, none⟩) (s.now.length + m) cap) ho1
  have d4 := cell_of (i := 4) h4 rfl
  have d0 := cell_of (i := 0) h4 rfl
  have d7 := cell_of (i := 7) h4 rfl
  have z7 := free_of (i := 7) h4
  have HG := Lib.hid hg
  have HNR := Lib.hid hnear
  have HOW := Lib.hid hown
  have H4 := Lib.hid h4
  have HO1 := Lib.hid ho1
  clear hg hnear hown h4 c4 ho1
  by_cases hbig : s.most < s.now.length + m
  · have hbb : decide ((s.most : Int) < ((s.now.length + m : Nat) : Int)) = true := by simp; omega
    go_wp2_with fail
    go_region
    go_wp2_with fail
    have h7 := heap_setCell_same _ bd 7 _ 50 (.int .i64 (s.over + 1)) H4.out
    have hm1 : Moved w (((w1.setCell ⟨bd, 4, none⟩ (.slice (some ⟨g, 0, none⟩) (s.now.length + m) cap)).setCell ⟨bd, 7, none⟩ (.int .i64 (s.over + 1))).drew) (fun k => k = bd ∨ some k = nv.ownBlock) :=
      ((((Moved.of_grown HG.out).weaken (fun k hk => .inr hk)).set (p := ⟨bd, 4, none⟩) (.inl rfl) _).set (p := ⟨bd, 7, none⟩) (.inl rfl) _).drew
    refine (outside_run bd { s with now := s.now ++ bs, over := s.over + 1 } (.slice (some ⟨g, 0, none⟩) (s.now.length + m) cap) fv (((w1.setCell ⟨bd, 4, none⟩ (.slice (some ⟨g, 0, none⟩) (s.now.length + m) cap)).setCell ⟨bd, 7, none⟩ (.int .i64 (s.over + 1))).drew) h7).mono ?_
    rintro e w3 ⟨rfl, ho3, hm3⟩
    have hl : s.lay bs = St.outside { s with now := s.now ++ bs, over := s.over + 1 } := by rw [St.lay, if_pos (by rw [List.length_append, hbs]; exact hbig)]
    have HE := Lib.hid (And.intro ho3 (hm1.trans hm3 (fun k _ hk => .inl hk)))
    have HL := Lib.hid hl
    clear ho3 hm3 hm1 h7 hl d4 d0 d7 z7 c4' z4
    go_wp2_with fail
    refine ⟨rfl, .tuple #[], results_none rfl _ _ _, rfl, .slice none 0 0, ?_, ?_, HE.out.2, .inl rfl⟩
    · rw [HL.out]; exact HE.out.1
    · rw [HL.out]; exact World.ownsRow_nil _ _ _ _
  · have hbb : decide ((s.most : Int) < ((s.now.length + m : Nat) : Int)) = false := by simp; omega
    go_wp2_with fail
    go_region
    go_wp2_with fail
    have hl : s.lay bs = { s with now := s.now ++ bs } := by rw [St.lay, if_neg (by rw [List.length_append, hbs]; exact hbig)]
    refine ⟨rfl, .tuple #[], results_none rfl _ _ _, rfl, .slice (some ⟨g, 0, none⟩) (s.now.length + m) cap, ?_, ?_, ((((Moved.of_grown HG.out).weaken (fun k hk => .inr hk)).set (p := ⟨bd, 4, none⟩) (.inl rfl) _).drew), .inr HNR.out⟩
    · rw [hl]; exact H4.out
    · rw [hl]
      show World.ownsRow _ _ _ _ _ (s.now ++ bs).length ((s.now ++ bs).map (.int .u8))
      rw [List.length_append, hbs, List.map_append]
      exact ownsRow_setCell_below (a := ⟨bd, 4, none⟩) HOW.out hlow _
end Go.Proofs.YthhbohpmbkdkeaaDoor
