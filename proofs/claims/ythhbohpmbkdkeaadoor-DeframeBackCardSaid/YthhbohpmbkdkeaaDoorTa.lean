/- The walk of deframe.take, one way at a time. -/
import Derived.Test.YthhbohpmbkdkeaaDoorTk
import Derived.Deep.RegionHeld3
namespace Go.Proofs.YthhbohpmbkdkeaaDoor
open Go.RowKit

structure Did (B bd : Nat) (nv fv : Value) (vs : List Value) (w : World) (nv' fv' : Value) (vs' : List Value) (s' : St) (w' : World) : Prop where
  st : DAt B bd nv' fv' vs' s' w'
  moved : Moved w w' (fun k => k = bd ∨ some k = nv.ownBlock ∨ some k = fv.ownBlock)
  nf : Fresh w nv nv'
  ff : Fresh w fv fv'
  vf : ∀ u ∈ vs', u ∈ vs ∨ u.ownBlock = none ∨ ∃ g, u.ownBlock = some g ∧ w.heap.size ≤ g

structure Small (s : St) : Prop where
  junk : 0 ≤ s.junk ∧ s.junk ≤ 1000000
  over : 0 ≤ s.over ∧ s.over ≤ 1000000
  broken : 0 ≤ s.broken ∧ s.broken ≤ 1000000
  found : s.found.length ≤ 1000000

/-- what a call of a byte's function leaves -/
abbrev Steps (f : FuncId) (B bd : Nat) (nv fv : Value) (vs : List Value) (s' : St) (c : Int) (w : World) : Prop :=
  Calls Tryd.prog f #[.pointer (some ⟨bd, 0, none⟩), .int .u8 c] w fun e w' => e = .returned (.tuple #[]) ∧ ∃ nv' fv' vs', Did B bd nv fv vs w nv' fv' vs' s' w'

theorem Did.of_next {B bd : Nat} {nv fv : Value} {vs : List Value} {s : St} {w : World} (h : DAt B bd nv fv vs s w) {s' : St} {nv' : Value} {w' : World} (ho : w'.heap[bd]? = some (.cells (objOf bd s' nv' fv) 50 (0, 0)))
    (hm : Moved w w' (fun k => k = bd ∨ some k = nv.ownBlock)) (hn : BytesAt w' B nv' s'.now) (hf : s'.found = s.found) (hfr : Fresh w nv nv') (hl : s'.now.length ≤ s'.most ∧ s'.most ≤ 65536) : Did B bd nv fv vs w nv' fv vs s' w' :=
  ⟨h.next ho hm hn hf hfr hl, hm.weaken (fun k hk => by rcases hk with hk | hk; exact .inl hk; exact .inr (.inl hk)), hfr, Fresh.same _ _, fun u hu => .inl hu⟩

theorem skip_steps (B bd : Nat) (nv fv : Value) (vs : List Value) (s : St) (c : Int) (w : World) (h : DAt B bd nv fv vs s w) (hs : Small s) (hi : s.inn = false) : Steps 35 B bd nv fv vs (s.step c) c w := by
  have hst : s.step c = if c = 11 then s.begin else { s with junk := s.junk + 1 } := by rw [St.step, if_pos hi]
  by_cases hc : c = 11
  · subst hc
    rw [hst, if_pos rfl]
    refine (skip_start bd s nv fv w h.obj).mono ?_
    rintro e w' ⟨rfl, ho, hm⟩
    exact ⟨rfl, .slice none 0 0, fv, vs, Did.of_next h ho (hm.weaken fun k hk => .inl hk) (World.ownsRow_nil _ _ _ _) rfl (.inl rfl) ⟨Nat.zero_le _, h.len.2⟩⟩
  · rw [hst, if_neg hc]
    refine (skip_junk bd s nv fv w c (by simpa using hc) hs.junk h.obj).mono ?_
    rintro e w' ⟨rfl, ho, hm⟩
    refine ⟨rfl, nv, fv, vs, Did.of_next h ho (hm.weaken fun k hk => .inl hk) ?_ rfl (Fresh.same _ _) h.len⟩
    exact owns_moved h.now hm (fun k hk e => by have := (h.now.lt k hk).1; have := h.low; omega)

/-- 11: broken off, and begun anew -/
theorem take_start (B bd : Nat) (nv fv : Value) (vs : List Value) (s : St) (w : World) (h : DAt B bd nv fv vs s w) (hs : Small s) :
    Steps 43 B bd nv fv vs (St.begin { s with broken := s.broken + 1 }) 11 w := by
  have c8 : w.cell? ⟨bd, 8, none⟩ = some (.int .i64 s.broken) := cell_of (i := 8) h.obj rfl
  have z8 := free_of (i := 8) h.obj
  have hb := hs.broken
  have h8 := Lib.hid (heap_setCell_same w bd 8 _ 50 (.int .i64 (s.broken + 1)) h.obj)
  have H := Lib.hid h
  clear h hs
  go_enter Tryd.func43, Tryd.ntmps43
  go_wp2_with fail
  refine (begin_run bd { s with broken := s.broken + 1 } nv fv _ h8.out).mono ?_
  rintro e w' ⟨rfl, ho, hm⟩
  have HO := Lib.hid (And.intro ho hm)
  clear ho hm
  go_wp2_with fail
  refine ⟨rfl, .tuple #[], results_none rfl _ _ _, rfl, .slice none 0 0, fv, vs, Did.of_next H.out HO.out.1 ?_ (World.ownsRow_nil _ _ _ _) rfl (.inl rfl) ⟨Nat.zero_le _, H.out.len.2⟩⟩
  exact (((Moved.refl w (fun k => k = bd)).set (p := ⟨bd, 8, none⟩) rfl _).trans HO.out.2 (fun _ _ h => h)).weaken fun k hk => .inl hk

/-- 28, the first: held back -/
theorem take_end (B bd : Nat) (nv fv : Value) (vs : List Value) (s : St) (w : World) (h : DAt B bd nv fv vs s w) (hf : s.fin = false) :
    Steps 43 B bd nv fv vs { s with fin := true } 28 w := by
  have c3 : w.cell? ⟨bd, 3, none⟩ = some (.bool false) := by rw [← hf]; exact cell_of (i := 3) h.obj rfl
  have z3 := free_of (i := 3) h.obj
  have h3 := Lib.hid (heap_setCell_same w bd 3 _ 50 (.bool true) h.obj)
  have H := Lib.hid h
  clear h
  go_enter Tryd.func43, Tryd.ntmps43
  go_wp2_with fail
  have hm : Moved w (w.setCell ⟨bd, 3, none⟩ (.bool true)) (fun k => k = bd) := (Moved.refl w (fun k => k = bd)).set (p := ⟨bd, 3, none⟩) rfl _
  refine ⟨rfl, .tuple #[], results_none rfl _ _ _, rfl, nv, fv, vs, Did.of_next H.out h3.out (hm.weaken fun k hk => .inl hk) ?_ rfl (Fresh.same _ _) H.out.len⟩
  exact owns_moved H.out.now hm (fun k hk e => by have := (H.out.now.lt k hk).1; have := H.out.low; omega)

theorem lay_len (s : St) (bs : List Int) (h : s.now.length ≤ s.most ∧ s.most ≤ 65536) : (s.lay bs).now.length ≤ (s.lay bs).most ∧ (s.lay bs).most ≤ 65536 := by
  unfold St.lay
  split
  · exact ⟨Nat.zero_le _, h.2⟩
  · exact ⟨by show (s.now ++ bs).length ≤ s.most; omega, h.2⟩
theorem lay_found (s : St) (bs : List Int) : (s.lay bs).found = s.found := by
  unfold St.lay
  split <;> rfl

theorem near_fresh {w w0 : World} {v v' : Value} (h : v'.ownBlock = none ∨ Near w v v') (hs : w0.heap.size ≤ w.heap.size) : Fresh w0 v v' := by
  rcases h with h | h | ⟨g, h, hg⟩
  · exact .inl h
  · exact .inr (.inl h)
  · exact .inr (.inr ⟨g, h, by omega⟩)

/-- lay, from a world in which the object alone has turned -/
theorem lay_did (B bd tb m c : Nat) (nv fv : Value) (vs : List Value) (s0 s : St) (bs : List Int) (w w1 : World) (h : DAt B bd nv fv vs s0 w) (hov : 0 ≤ s.over ∧ s.over ≤ 1000000) (e1 : s.now = s0.now) (e2 : s.found = s0.found) (e3 : s.most = s0.most)
    (ho : w1.heap[bd]? = some (.cells (objOf bd s nv fv) 50 (0, 0))) (hm1 : Moved w w1 (fun k => k = bd)) (hm : 0 < m) (hm2 : m ≤ 2) (hbs : bs.length = m) (hc : ∀ j x, bs[j]? = some x → w1.cell? ⟨tb, j, none⟩ = some (.int .u8 x)) :
    Calls Tryd.prog 45 #[.pointer (some ⟨bd, 0, none⟩), .slice (some ⟨tb, 0, none⟩) m c] w1 fun e w' => e = .returned (.tuple #[]) ∧ ∃ nv' fv' vs', Did B bd nv fv vs w nv' fv' vs' (s.lay bs) w' := by
  have hnow1 : BytesAt w1 B nv s.now := by
    rw [e1]
    exact owns_moved h.now hm1 (fun k hk e => by have := (h.now.lt k hk).1; have := h.low; omega)
  have hl := h.len
  rw [← e1, ← e3] at hl
  refine (lay_run B bd tb m c s bs nv fv w1 h.low (Nat.le_trans h.size hm1.size) hm hm2 hbs (by omega) hov ho hnow1 hc).mono ?_
  rintro e w' ⟨rfl, nv', ho', hn', hm', hnear⟩
  refine ⟨rfl, nv', fv, vs, Did.of_next h ho' ((hm1.weaken fun k hk => .inl hk).trans hm' (fun k _ hk => hk)) hn' (by rw [lay_found, e2]) (near_fresh hnear hm1.size) (lay_len s bs hl)⟩

/-- 28 behind 28: one is laid -/
theorem take_end2 (B bd : Nat) (nv fv : Value) (vs : List Value) (s : St) (w : World) (h : DAt B bd nv fv vs s w) (hs : Small s) (hf : s.fin = true) : Steps 43 B bd nv fv vs (s.lay [28]) 28 w := by
  have c3 : w.cell? ⟨bd, 3, none⟩ = some (.bool true) := by rw [← hf]; exact cell_of (i := 3) h.obj rfl
  have H := Lib.hid h
  have HS := Lib.hid hs
  clear h hs
  go_enter Tryd.func43, Tryd.ntmps43
  go_wp2_with fail
  have hblt : bd < w.heap.size := Nat.lt_of_lt_of_le H.out.low H.out.size
  refine (lay_did B bd w.heap.size 1 1 nv fv vs s s [28] w _ H.out HS.out.over rfl rfl rfl ((Below.heap_alloc _ _ _ hblt).trans H.out.obj) ((Moved.refl w _).alloc _) (by decide) (by decide) rfl ?_).mono ?_
  · intro j x hj
    match j, hj with
    | 0, hj => simp at hj; subst hj; simp [go_sem]
  rintro e w' ⟨rfl, hd⟩
  have HD := Lib.hid hd
  clear hd
  go_wp2_with fail
  exact ⟨rfl, .tuple #[], results_none rfl _ _ _, rfl, HD.out⟩

/-- any other byte behind 28: both are laid -/
theorem take_both (B bd : Nat) (nv fv : Value) (vs : List Value) (s : St) (c : Int) (w : World) (h : DAt B bd nv fv vs s w) (hs : Small s) (hf : s.fin = true) (h11 : (c == 11) = false) (h13 : (c == 13) = false) (h28 : (c == 28) = false) :
    Steps 43 B bd nv fv vs (St.lay { s with fin := false } [28, c]) c w := by
  have c3 : w.cell? ⟨bd, 3, none⟩ = some (.bool true) := by rw [← hf]; exact cell_of (i := 3) h.obj rfl
  have z3 := free_of (i := 3) h.obj
  have h3 := Lib.hid (heap_setCell_same w bd 3 _ 50 (.bool false) h.obj)
  have H := Lib.hid h
  have HS := Lib.hid hs
  clear h hs
  go_enter Tryd.func43, Tryd.ntmps43
  go_wp2_with fail
  have hblt : bd < w.heap.size := Nat.lt_of_lt_of_le H.out.low H.out.size
  refine (lay_did B bd w.heap.size 2 2 nv fv vs s { s with fin := false } [28, c] w _ H.out HS.out.over rfl rfl rfl ((Below.heap_alloc _ _ _ (by simpa using hblt)).trans h3.out) (((Moved.refl w (fun k => k = bd)).set (p := ⟨bd, 3, none⟩) rfl _).alloc _) (by decide) (by decide) rfl ?_).mono ?_
  · intro j x hj
    match j, hj with
    | 0, hj => simp at hj; subst hj; simp [go_sem]
    | 1, hj => simp at hj; subst hj; simp [go_sem]
  rintro e w' ⟨rfl, hd⟩
  have HD := Lib.hid hd
  clear hd
  go_wp2_with fail
  exact ⟨rfl, .tuple #[], results_none rfl _ _ _, rfl, HD.out⟩

/-- any other byte -/
theorem take_one (B bd : Nat) (nv fv : Value) (vs : List Value) (s : St) (c : Int) (w : World) (h : DAt B bd nv fv vs s w) (hs : Small s) (hf : s.fin = false) (h11 : (c == 11) = false) (h28 : (c == 28) = false) :
    Steps 43 B bd nv fv vs (s.lay [c]) c w := by
  have c3 : w.cell? ⟨bd, 3, none⟩ = some (.bool false) := by rw [← hf]; exact cell_of (i := 3) h.obj rfl
  have H := Lib.hid h
  have HS := Lib.hid hs
  clear h hs
  go_enter Tryd.func43, Tryd.ntmps43
  go_wp2_with fail
  have hblt : bd < w.heap.size := Nat.lt_of_lt_of_le H.out.low H.out.size
  refine (lay_did B bd w.heap.size 1 1 nv fv vs s s [c] w _ H.out HS.out.over rfl rfl rfl ((Below.heap_alloc _ _ _ hblt).trans H.out.obj) ((Moved.refl w _).alloc _) (by decide) (by decide) rfl ?_).mono ?_
  · intro j x hj
    match j, hj with
    | 0, hj => simp at hj; subst hj; simp [go_sem]
  rintro e w' ⟨rfl, hd⟩
  have HD := Lib.hid hd
  clear hd
  go_wp2_with fail
  exact ⟨rfl, .tuple #[], results_none rfl _ _ _, rfl, HD.out⟩
end Go.Proofs.YthhbohpmbkdkeaaDoor
