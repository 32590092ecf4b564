/- The walk of ref05.Read. -/
import Derived.Test.YthhbohpmbkdkeaaRd
import Derived.Deep.AppendLies
import Derived.Deep.RegionLaw
namespace Go.Proofs.Ythhbohpmbkdkeaa
open Go.RowKit

theorem feed_take {s : St} {bs : List Int} {k : Nat} {c : Int} (h : bs[k]? = some c) : s.feed (bs.take (k + 1)) = (s.feed (bs.take k)).step c := by
  rw [List.take_add_one, h]; simp [St.feed, List.foldl_append]

theorem step_most (s : St) (c : Int) : (s.step c).most = s.most := by
  unfold St.step St.lay
  repeat' split
  all_goals rfl
theorem feed_most : ∀ (bs : List Int) (s : St), (s.feed bs).most = s.most := by
  intro bs
  induction bs with
  | nil => intro s; rfl
  | cons c bs ih => intro s; exact (ih (s.step c)).trans (step_most s c)

/-- behind the bytes laid: the row of now has grown -/
structure Laid (B ob : Nat) (nv nv' fv : Value) (vs : List Value) (now : List Int) (s : St) (w0 w w' : World) : Prop where
  rows : RowsAt B ob nv' fv vs now s.found w'
  obj : w'.heap[ob]? = some (.cells (refObj fv s.junk s.over s.broken) 34 (0, 0))
  below : Below w0.heap.size w0 w'
  moved : Moved w w' (fun k => some k = nv.ownBlock)
  fresh : Fresh w nv nv'

theorem Laid.one {w0 : World} {B ob : Nat} {nv fv : Value} {vs : List Value} {now : List Int} {s : St} {w : World} (hr : RowsAt B ob nv fv vs now s.found w) (ho : w.heap[ob]? = some (.cells (refObj fv s.junk s.over s.broken) 34 (0, 0))) (hb : Below w0.heap.size w0 w) (hB : w0.heap.size ≤ B)
    {o : Obj} {w1 : World} {nv' : Value} {ys : List Int} (hown : w1.ownsRow B 5 1 nv' (now.length + ys.length) (now.map (.int .u8) ++ ys.map (.int .u8))) (hg : (w.alloc o).grownBy w1 nv.ownBlock) (hnear : Near (w.alloc o) nv nv') : Laid B ob nv nv' fv vs (now ++ ys) s w0 w w1 := by
  have hm : Moved w w1 (fun k => some k = nv.ownBlock) := ((Moved.refl w (fun k => some k = nv.ownBlock)).alloc o).trans (Moved.of_grown hg) (fun _ _ h => h)
  have hfr : Fresh w nv nv' := near_fresh (.inr hnear) (by simp)
  have hlt : ob < w.heap.size := Nat.lt_of_lt_of_le hr.low hr.size
  have hne : ¬ some ob = nv.ownBlock := fun e => by have := (hr.now.lt ob e.symm).1; have := hr.low; omega
  refine ⟨hr.next (hm.weaken fun k hk => .inr hk) ?_ hfr, (hm.block ob hlt hne).trans ho, Moved.below hb hm (fun k hk => by have := (hr.now.lt k hk.symm).1; omega), hm, hfr⟩
  show World.ownsRow _ _ _ _ _ (now ++ ys).length ((now ++ ys).map (.int .u8))
  rw [List.length_append, List.map_append]
  exact hown

theorem Laid.two {B ob : Nat} {nv nv1 nv2 fv : Value} {vs : List Value} {now1 now2 : List Int} {s : St} {w0 w w1 w2 : World} (h : Laid B ob nv nv1 fv vs now1 s w0 w w1) (k : Laid B ob nv1 nv2 fv vs now2 s w0 w1 w2) : Laid B ob nv nv2 fv vs now2 s w0 w w2 := by
  refine ⟨k.rows, k.obj, k.below, h.moved.trans k.moved (fun i hi hk => ?_), h.fresh.trans k.fresh h.moved.size⟩
  rcases h.fresh with e | e | ⟨g, e, hg⟩
  · rw [e] at hk; cases hk
  · exact hk.trans e
  · rw [e] at hk; injection hk with hk; omega

theorem RAt.laid_small {w : World} {B ob : Nat} {nv nv' fv : Value} {vs : List Value} {i0 e0 : Bool} {s : St} {wr w1 : World} {ys : List Int} (h : RAt w B ob nv fv vs s.now i0 e0 s wr) (hi : s.inn = true) (L : Laid B ob nv nv' fv vs (s.now ++ ys) s w wr w1) (hs : ¬ s.most < s.now.length + ys.length) (f : Bool) (h1 : 0 < ys.length) :
    RAt w B ob nv' fv vs (s.now ++ ys) true f (St.lay { s with fin := f } ys) w1 := by
  have hl : St.lay { s with fin := f } ys = { s with fin := f, now := s.now ++ ys } := by rw [St.lay, if_neg (by rw [List.length_append]; exact hs)]
  rw [hl]
  have := h.len
  exact ⟨L.rows, L.obj, hi.symm, (fun _ => ⟨rfl, rfl⟩), ⟨by show (s.now ++ ys).length ≤ s.most; rw [List.length_append]; omega, h.len.2⟩, by rw [List.length_append]; omega, .inr (by rw [List.length_append]; omega), L.below⟩

theorem RAt.laid_big {w : World} {B ob : Nat} {nv nv' fv : Value} {vs : List Value} {i0 e0 : Bool} {s : St} {wr w1 : World} {ys : List Int} (h : RAt w B ob nv fv vs s.now i0 e0 s wr) (L : Laid B ob nv nv' fv vs (s.now ++ ys) s w wr w1) (hs : s.most < s.now.length + ys.length) (f : Bool) (h2 : ys.length ≤ 2) (hob : w.heap.size ≤ ob) :
    RAt w B ob nv' fv vs (s.now ++ ys) false f (St.lay { s with fin := f } ys) (w1.setCell ⟨ob, 3, none⟩ (.int .i64 (s.over + 1))) := by
  have hl : St.lay { s with fin := f } ys = St.outside { s with fin := f, now := s.now ++ ys, over := s.over + 1 } := by rw [St.lay, if_pos (by rw [List.length_append]; exact hs)]
  rw [hl]
  have := h.len
  exact ⟨L.rows.same ((Moved.refl w1 (fun k => k = ob)).set (p := ⟨ob, 3, none⟩) rfl _), heap_setCell_same w1 ob 3 _ 34 (.int .i64 (s.over + 1)) L.obj, rfl, (fun h => by cases h), ⟨Nat.zero_le _, h.len.2⟩, by rw [List.length_append]; omega, .inr (by rw [List.length_append]; omega),
    L.below.setCell (p := ⟨ob, 3, none⟩) hob _⟩

theorem RowsAt.low_moved {B ob : Nat} {nv fv : Value} {vs : List Value} {now : List Int} {found : List (List Int)} {w w' : World} {S : Nat → Prop} (h : RowsAt B ob nv fv vs now found w) (hm : Moved w w' S) (hS : ∀ k, S k → k < B) : RowsAt B ob nv fv vs now found w' := by
  have far : ∀ {e : TypeId} {v : Value} {n : Nat} {xs : List Value}, w.ownsRow B e 1 v n xs → w'.ownsRow B e 1 v n xs := fun hx =>
    owns_moved hx hm (fun k hk e => by have h1 := hx.lt k hk; have h2 := hS k e; omega)
  exact ⟨h.low, Nat.le_trans h.size hm.size, far h.now, far h.row, h.many, fun i v bs hv hb => far (h.els i v bs hv hb), h.apart⟩

theorem store5 {w : World} {b : Nat} {x0 x1 x2 x3 x4 : Value} {t : TypeId} (v0 v1 v2 v3 v4 : Value) (h : w.heap[b]? = some (.cells #[x0, x1, x2, x3, x4] t (0, 0))) :
    (((((w.setCell ⟨b, 0, none⟩ v0).setCell ⟨b, 1, none⟩ v1).setCell ⟨b, 2, none⟩ v2).setCell ⟨b, 3, none⟩ v3).setCell ⟨b, 4, none⟩ v4).heap[b]? = some (.cells #[v0, v1, v2, v3, v4] t (0, 0)) ∧
    Moved w (((((w.setCell ⟨b, 0, none⟩ v0).setCell ⟨b, 1, none⟩ v1).setCell ⟨b, 2, none⟩ v2).setCell ⟨b, 3, none⟩ v3).setCell ⟨b, 4, none⟩ v4) (fun k => k = b) := by
  have h0 := heap_setCell_same w b 0 _ t v0 h
  have h1 := heap_setCell_same _ b 1 _ t v1 h0
  have h2 := heap_setCell_same _ b 2 _ t v2 h1
  have h3 := heap_setCell_same _ b 3 _ t v3 h2
  have h4 := heap_setCell_same _ b 4 _ t v4 h3
  exact ⟨h4, (((((Moved.refl w (fun k => k = b)).set (p := ⟨b, 0, none⟩) rfl _).set (p := ⟨b, 1, none⟩) rfl _).set (p := ⟨b, 2, none⟩) rfl _).set (p := ⟨b, 3, none⟩) rfl _).set (p := ⟨b, 4, none⟩) rfl _⟩

/-- a row of bytes is appended to the row of frames: at a step of a region that draws -/
theorem step_found (W : World) {ops : Array Oper} {o : Oper} {a : Act} {K : Act → World → Prop} {Q : Exit → Act → World → Prop} {E : Prop} (h1 : o.guard = none) (t42 t46 : Operand) (h2 : o.op = .call { callee := .builtin .append, args := #[t42, t46], argTypes := #[22, 22] })
    (B : Nat) (fv : Value) (vs : List Value) (v1 : Value) (b1 : Nat) (h3 : a.eval t42 = fv) (h4 : a.eval t46 = .slice (some ⟨b1, 0, none⟩) 1 1) (hrow : W.ownsRow B 30 1 fv vs.length vs) (hblk : W.heap[b1]? = some (.cells #[v1] 30 (0, 0))) (hone : v1.oneCell' = true) (hmany : vs.length ≤ 1000000) (hB : B ≤ W.heap.size)
    (h : ∀ g cap w', w'.ownsRow B 30 1 (.slice (some ⟨g, 0, none⟩) (vs.length + 1) cap) (vs.length + 1) (vs ++ [v1]) → W.grownBy w' fv.ownBlock → (fv.ownBlock = some g ∨ g = W.heap.size) → g < w'.heap.size → K (a.put o.dst (.slice (some ⟨g, 0, none⟩) (vs.length + 1) cap)) w') :
    if Region.wanted o (yielded ops a.tmps) = true then Oper.wp Try.prog o a W K Q else E := by
  obtain ⟨i0, hi0, hz0, hz1, hz2⟩ : ∃ i0, Try.prog.info? 30 = some i0 ∧ i0.zero = some (.slice none 0 0) ∧ i0.size = 1 ∧ i0.bytes = 24 := info_parts (by kernel_rfl)
  refine step_append_lies W h1 _ _ _ h2 B 30 i0 (.slice none 0 0) 1 24 Try.underlying22 hi0 hz0 hz1 hz2 rfl (by decide) fv vs.length vs h3 hrow ⟨b1, 0, none⟩ 1 1 [v1] h4 rfl (World.news_of_block hblk) (by intro u hu; simp at hu; subst hu; exact hone) (by decide) (by unfold maxLen; omega) (by omega) hB W.heap.size rfl h

/-- bytes are appended to a new row of none: at a step of a region that draws -/
theorem step_copy (W : World) {ops : Array Oper} {o : Oper} {a : Act} {K : Act → World → Prop} {Q : Exit → Act → World → Prop} {E : Prop} (h1 : o.guard = none) (t43 t44 : Operand) (h2 : o.op = .call { callee := .builtin .append, args := #[t43, t44], argTypes := #[30, 30] })
    (b1 : Nat) (b2 m c : Nat) (bs : List Int) (h3 : a.eval t43 = .slice (some ⟨b1, 0, none⟩) 0 0) (h4 : a.eval t44 = .slice (some ⟨b2, 0, none⟩) m c) (hrow : W.ownsRow b1 5 1 (.slice (some ⟨b1, 0, none⟩) 0 0) 0 []) (hblk : ∀ j u, (bs.map (Value.int .u8))[j]? = some u → W.cell? ((⟨b2, 0, none⟩ : Addr).add j) = some u) (hm : bs.length = m) (hm0 : 0 < m) (hm1 : m ≤ 1000000) (hB : b1 ≤ W.heap.size)
    (h : ∀ g cap w', w'.ownsRow b1 5 1 (.slice (some ⟨g, 0, none⟩) m cap) m (bs.map (.int .u8)) → W.grownBy w' (some b1) → g < w'.heap.size → K (a.put o.dst (.slice (some ⟨g, 0, none⟩) m cap)) w') :
    if Region.wanted o (yielded ops a.tmps) = true then Oper.wp Try.prog o a W K Q else E := by
  obtain ⟨i0, hi0, hz0, hz1, hz2⟩ : ∃ i0, Try.prog.info? 5 = some i0 ∧ i0.zero = some (.int .u8 0) ∧ i0.size = 1 ∧ i0.bytes = 1 := info_parts (by kernel_rfl)
  refine step_append_lies W h1 _ _ _ h2 b1 5 i0 (.int .u8 0) 1 1 Try.underlying30 hi0 hz0 hz1 hz2 rfl (by decide) _ 0 [] h3 hrow ⟨b2, 0, none⟩ m c (bs.map (.int .u8)) h4 (by simp [hm]) hblk (by intro u hu; obtain ⟨x, _, rfl⟩ := List.mem_map.1 hu; rfl) hm0 (by unfold maxLen; omega) (by omega) hB W.heap.size rfl ?_
  intro g cap w' q1 q2 _ q4
  simp only [Nat.zero_add, List.nil_append] at q1 ⊢
  exact h g cap w' q1 q2 q4

theorem alloc2_new (w : World) (o1 o2 : Obj) : ((w.alloc o1).alloc o2).drew.heap[w.heap.size + 1]? = some o2 := by
  have := heap_alloc_new (w.alloc o1) o2
  rw [show (w.alloc o1).heap.size = w.heap.size + 1 from by simp] at this
  exact this
theorem far2 {wr w2 : World} {o1 o2 : Obj} {r : Option Nat} {b : Nat} (hg : ((wr.alloc o1).alloc o2).drew.grownBy w2 r) (hb : b < wr.heap.size) (hne : some b ≠ r) : w2.heap[b]? = wr.heap[b]? :=
  (hg.block b (by simp; omega) hne).trans ((Below.heap_alloc (wr.alloc o1) o2 b (by simp; omega)).trans (Below.heap_alloc wr o1 b hb))

/-- a frame was found -/
theorem RAt.found {w : World} {B ob : Nat} {nv fv : Value} {vs : List Value} {i0 e0 : Bool} {s : St} {wr : World} (h : RAt w B ob nv fv vs s.now i0 e0 s wr) {w1 w2 : World} {v1 v' : Value} {o : Obj}
    (hv1 : BytesAt w1 wr.heap.size v1 s.now) (hq1 : Below wr.heap.size wr w1) (hown : w2.ownsRow B 30 1 v' (vs.length + 1) (vs ++ [v1])) (hg : (w1.alloc o).grownBy w2 fv.ownBlock) (hob : w.heap.size ≤ ob) (hB : w.heap.size ≤ B)
    (hobj : w2.heap[ob]? = some (.cells (refObj fv s.junk s.over s.broken) 34 (0, 0))) (f : Bool) :
    RAt w B ob nv v' (vs ++ [v1]) s.now false f (St.outside { s with found := s.found ++ [s.now] }) (w2.setCell ⟨ob, 0, none⟩ v') := by
  have hm6 : Moved w2 (w2.setCell ⟨ob, 0, none⟩ v') (fun k => k = ob) := (Moved.refl w2 (fun k => k = ob)).set (p := ⟨ob, 0, none⟩) rfl _
  have m1 : Moved w1 (w2.setCell ⟨ob, 0, none⟩ v') (fun k => k = ob ∨ some k = fv.ownBlock) :=
    (((Moved.refl w1 (fun k => k = ob ∨ some k = fv.ownBlock)).alloc o).trans (Moved.of_grown hg) (fun k _ hk => .inr hk)).trans hm6 (fun k _ hk => .inl hk)
  have m0 : Moved wr (w2.setCell ⟨ob, 0, none⟩ v') (fun k => k = ob ∨ some k = fv.ownBlock) := (Moved.mk hq1.os hq1.tape hq1.output hq1.size (fun k hk _ => hq1.block k hk) : Moved wr w1 (fun k => k = ob ∨ some k = fv.ownBlock)).trans m1 (fun k _ hk => hk)
  refine ⟨h.rows.more hv1 hq1 hown hg hm6, heap_setCell_same w2 ob 0 _ 34 v' hobj, rfl, (fun h => by cases h), ⟨Nat.zero_le _, h.len.2⟩, h.short, h.form, Moved.below h.below m0 (fun k hk => ?_)⟩
  rcases hk with rfl | hk
  · exact hob
  · have := (h.rows.row.lt k hk.symm).1; omega

set_option maxRecDepth 100000 in
set_option maxHeartbeats 4000000 in
theorem read_run (p : Option Addr) (n cp m : Nat) (bs : List Int) (w : World) (hm : m ≤ 65536) (ha : ArgB w p n bs) (hr : Room (St.fresh m) bs.length) :
    Calls Try.prog 13 #[.slice p n cp, .int .i64 m] w fun e w' => ∃ (fv nv : Value) (vs : List Value) (rn : List Int), e = .returned (.agg #[fv, .int .i64 ((St.fresh m).feed bs).held, .int .i64 ((St.fresh m).feed bs).junk, .int .i64 ((St.fresh m).feed bs).over, .int .i64 ((St.fresh m).feed bs).broken]) ∧
      RowsAt (w.heap.size + 2) (w.heap.size + 1) nv fv vs rn ((St.fresh m).feed bs).found w' ∧ Below w.heap.size w w' := by
  have HA := Lib.hid ha
  have HR := Lib.hid hr
  have hn : n ≤ 1000000 := by have := hr.found; have := ha.len; omega
  clear ha hr
  go_enter Try.func13, Try.ntmps13
  go_wp2_with fail
  obtain ⟨W0, hW0⟩ : ∃ W0 : World, W0 = (w.alloc (.cells #[.slice none 0 0, .int .i64 0, .int .i64 0, .int .i64 0, .int .i64 0] 34)).alloc (.cells #[.slice none 0 0, .int .i64 0, .int .i64 0, .int .i64 0, .int .i64 0] 34) := ⟨_, rfl⟩
  have hs0 : W0.heap.size = w.heap.size + 2 := by rw [hW0]; simp
  have hb0 : Below w.heap.size w W0 := by rw [hW0]; exact ((Below.refl _ _).alloc (Nat.le_refl _) _).alloc (by simp) _
  have h0 : RAt w (w.heap.size + 2) (w.heap.size + 1) (.slice none 0 0) (.slice none 0 0) [] [] false false (St.fresh m) W0 := by
    refine ⟨⟨by omega, by omega, World.ownsRow_nil _ _ _ _, World.ownsRow_nil _ _ _ _, rfl, fun i v bs hv => by simp at hv, fun v hv => by simp at hv⟩, ?_, rfl, (fun h => by cases h), ⟨Nat.zero_le _, hm⟩, by simp, .inl rfl, hb0⟩
    rw [hW0]
    have := heap_alloc_new (w.alloc (.cells #[.slice none 0 0, .int .i64 0, .int .i64 0, .int .i64 0, .int .i64 0] 34)) (.cells #[.slice none 0 0, .int .i64 0, .int .i64 0, .int .i64 0, .int .i64 0] 34)
    rw [show (w.alloc (.cells #[.slice none 0 0, .int .i64 0, .int .i64 0, .int .i64 0, .int .i64 0] 34)).heap.size = w.heap.size + 1 from by simp] at this
    exact this
  have hr0 : W0.heap[w.heap.size]? = some (.cells #[.slice none 0 0, .int .i64 0, .int .i64 0, .int .i64 0, .int .i64 0] 34 (0, 0)) := by
    rw [hW0, Below.heap_alloc _ _ _ (by simp)]
    exact heap_alloc_new w _
  rw [← hW0]
  clear hW0 hb0
  have H0 := Lib.hid (And.intro h0 hr0)
  clear h0 hr0
  go_loopw [6, 7, 8, 9] (fun i6 e7 nv k9 wr => ∃ (k : Nat) (i e : Bool) (fv : Value) (vs : List Value) (rn : List Int), k9 = .int .i64 k ∧ k ≤ n ∧ i6 = .bool i ∧ e7 = .bool e ∧ RAt w (w.heap.size + 2) (w.heap.size + 1) nv fv vs rn i e ((St.fresh m).feed (bs.take k)) wr ∧
      wr.heap[w.heap.size]? = some (.cells #[.slice none 0 0, .int .i64 0, .int .i64 0, .int .i64 0, .int .i64 0] 34 (0, 0)) ∧ W0.heap.size ≤ wr.heap.size) (fun _ _ _ k _ => n - (intOf k).toNat)
  case atStart => exact ⟨0, false, false, _, _, _, rfl, by omega, rfl, rfl, H0.out.1, H0.out.2, Nat.le_refl _⟩
  case round =>
    obtain ⟨k, i, e, fv, vs, rn, rfl, hk, rfl, rfl, hra, hres, hsz⟩ := hrel
    have HRA := Lib.hid hra
    have HRES := Lib.hid hres
    have hin := hra.inn
    have hsm := Lib.hid (Room.feed (n := 0) (bs := bs.take k) (HR.out.mono (by simp; omega))).small
    clear hra hres H0
    by_cases hlt : k < n
    · have hkb : decide ((k : Int) < (n : Int)) = true := by simp; omega
      obtain ⟨c, hc⟩ : ∃ c, bs[k]? = some c := ⟨_, List.getElem?_eq_getElem (by have := HA.out.len; omega)⟩
      obtain ⟨b, off, rfl, h3⟩ := (HA.out.below HRA.out.below).at_ k c hc
      have HT := Lib.hid (feed_take (s := St.fresh m) hc)
      have hmo : ((St.fresh m).feed (bs.take k)).most = m := feed_most _ _
      generalize (St.fresh m).feed (bs.take k) = s at HRA hin hsm HT hmo
      cases hi : s.inn with
      | false =>
        have hif : i = false := by rw [hin, hi]
        subst hif
        clear hin
        by_cases h11 : c = 11
        · subst h11
          have HS : Hid (s.step 11 = s.begin) := Lib.hid (by rw [St.step, if_pos hi, if_pos rfl])
          clear hi
          go_wp2_with fail
          go_roundw
          case rel =>
            refine ⟨k + 1, true, false, fv, vs, [], by go_num, by omega, rfl, rfl, ?_, HRES.out, hsz⟩
            rw [HT.out, HS.out]
            exact ⟨HRA.out.rows.next (Moved.refl _ _) (World.ownsRow_nil _ _ _ _) (.inl rfl), HRA.out.obj, rfl, (fun _ => ⟨rfl, rfl⟩), ⟨Nat.zero_le _, HRA.out.len.2⟩, by simp, .inl rfl, HRA.out.below⟩
          case measure => simp [intOf]; omega
        · have hcb : (c == 11) = false := by simpa using h11
          have HS : Hid (s.step c = { s with junk := s.junk + 1 }) := Lib.hid (by rw [St.step, if_pos hi, if_neg h11])
          have c2 : wr.cell? ⟨w.heap.size + 1, 2, none⟩ = some (.int .i64 s.junk) := cell_of (i := 2) HRA.out.obj rfl
          have z2 := free_of (i := 2) HRA.out.obj
          have hjk := hsm.out.junk
          have HI := Lib.hid hi
          clear hi h11
          go_wp2_with fail
          have hob := heap_setCell_same wr (w.heap.size + 1) 2 _ 34 (.int .i64 (s.junk + 1)) HRA.out.obj
          have hmv := (Moved.refl wr (fun k => k = w.heap.size + 1)).set (p := ⟨w.heap.size + 1, 2, none⟩) rfl (.int .i64 (s.junk + 1))
          have HF := Lib.hid (And.intro hob hmv)
          clear hob hmv
          go_roundw
          case rel =>
            refine ⟨k + 1, false, e, fv, vs, rn, by go_num, by omega, rfl, rfl, ?_, (Below.heap_setCell _ _ _ _ (by show w.heap.size ≠ w.heap.size + 1; omega)).trans HRES.out, by simpa using hsz⟩
            rw [HT.out, HS.out]
            exact ⟨HRA.out.rows.same HF.out.2, HF.out.1, HI.out.symm, (fun h => by rw [show s.inn = true from h] at HI; cases HI.out), HRA.out.len, HRA.out.short, HRA.out.form, HRA.out.below.setCell (p := ⟨w.heap.size + 1, 2, none⟩) (Nat.le_succ _) _⟩
          case measure => simp [intOf]; omega
      | true =>
        have hit : i = true := by rw [hin, hi]
        subst hit
        clear hin
        by_cases h11 : c = 11
        · subst h11
          have HS : Hid (s.step 11 = St.begin { s with broken := s.broken + 1 }) := Lib.hid (by rw [St.step, if_neg (by simp [hi]), if_pos rfl])
          have c4 : wr.cell? ⟨w.heap.size + 1, 4, none⟩ = some (.int .i64 s.broken) := cell_of (i := 4) HRA.out.obj rfl
          have z4 := free_of (i := 4) HRA.out.obj
          have hbk := hsm.out.broken
          clear hi
          go_wp2_with fail
          have hob := heap_setCell_same wr (w.heap.size + 1) 4 _ 34 (.int .i64 (s.broken + 1)) HRA.out.obj
          have hmv := (Moved.refl wr (fun k => k = w.heap.size + 1)).set (p := ⟨w.heap.size + 1, 4, none⟩) rfl (.int .i64 (s.broken + 1))
          have HF := Lib.hid (And.intro hob hmv)
          clear hob hmv
          go_roundw
          case rel =>
            refine ⟨k + 1, true, false, fv, vs, [], by go_num, by omega, rfl, rfl, ?_, (Below.heap_setCell _ _ _ _ (by show w.heap.size ≠ w.heap.size + 1; omega)).trans HRES.out, by simpa using hsz⟩
            rw [HT.out, HS.out]
            exact ⟨(HRA.out.rows.same HF.out.2).next (Moved.refl _ _) (World.ownsRow_nil _ _ _ _) (.inl rfl), HF.out.1, rfl, (fun _ => ⟨rfl, rfl⟩), ⟨Nat.zero_le _, HRA.out.len.2⟩, by simp, .inl rfl, HRA.out.below.setCell (p := ⟨w.heap.size + 1, 4, none⟩) (Nat.le_succ _) _⟩
          case measure => simp [intOf]; omega
        · have hcb : (c == 11) = false := by simpa using h11
          obtain ⟨hrn, he⟩ := HRA.out.same hi
          subst hrn he
          have hnl := HRA.out.len
          cases hf : s.fin with
          | true =>
            rw [hf] at HRA
            by_cases h13 : c = 13
            · subst h13
              have HS : Hid (s.step 13 = St.outside { s with found := s.found ++ [s.now] }) := Lib.hid (by rw [St.step, if_neg (by simp [hi]), if_neg h11, if_pos ⟨hf, rfl⟩])
              have d0 : wr.cell? ⟨w.heap.size + 1, 0, none⟩ = some fv := cell_of (i := 0) HRA.out.obj rfl
              have z0 := free_of (i := 0) HRA.out.obj
              clear hi hf h11
              rcases HRA.out.form with hu | hpos
              · subst hu
                have hmany : vs.length ≤ 1000000 := by rw [HRA.out.rows.many]; exact hsm.out.found
                have hobl : w.heap.size + 1 < wr.heap.size := Nat.lt_of_lt_of_le HRA.out.rows.low HRA.out.rows.size
                have d1 : ∀ o1, (wr.alloc o1).cell? ⟨w.heap.size + 1, 0, none⟩ = some fv := fun o1 => (World.cell?_alloc_lt _ _ _ hobl).trans d0
                have d2 : ∀ o1 o2, ((wr.alloc o1).alloc o2).cell? ⟨w.heap.size + 1, 0, none⟩ = some fv := fun o1 o2 => (World.cell?_alloc_lt _ _ _ (by simp; omega)).trans (d1 o1)
                have HNF : Hid (some (w.heap.size + 1) ≠ fv.ownBlock) := Lib.hid (fun e => by have := (HRA.out.rows.row.lt _ e.symm).1; have := HRA.out.rows.low; omega)
                go_wp2_with fail
                go_region_law
                  (first
                    | (refine step_found _ (by rfl) _ _ (by rfl) (w.heap.size + 2) fv vs (.slice (some ⟨wr.heap.size, 0, none⟩) 0 0) (wr.heap.size + 1) (by rfl) (by rfl) ?_ ?_ (by rfl) hmany ?_ ?_
                       · exact ((HRA.out.rows.row.alloc _).alloc _).drew
                       · exact alloc2_new _ _ _
                       · have := HRA.out.rows.size; simp; omega
                       intro g cap w2 hown hg hat hgt
                       have hob := (far2 hg hobl HNF.out).trans HRA.out.obj
                       have c0' : w2.cell? ⟨w.heap.size + 1, 0, none⟩ = some fv := cell_of (i := 0) hob rfl
                       have z0' := free_of (i := 0) hob))
                all_goals
                  have hg' : ((wr.alloc (Obj.cells #[] 5)).alloc (Obj.cells #[Value.slice (some { block := wr.heap.size, off := 0 }) 0 0] 30)).grownBy w2 fv.ownBlock := ⟨hg.os, hg.tape, hg.output, hg.size, hg.block⟩
                  have hnow : s.now = [] := by
                    rcases HRA.out.rows.now.2 with ⟨_, h0⟩ | ⟨g, cap, cur, h0, _⟩
                    · exact List.eq_nil_of_length_eq_zero h0
                    · cases h0
                  have hv1 : BytesAt (wr.alloc (Obj.cells #[] 5)) wr.heap.size (.slice (some ⟨wr.heap.size, 0, none⟩) 0 0) s.now := by
                    rw [hnow]; exact World.ownsRow_made wr #[] 0 (Nat.le_refl _) (by decide) rfl
                  have HF := Lib.hid (HRA.out.found hv1 ((Below.refl _ _).alloc (Nat.le_refl _) _) hown hg' (by omega) (by omega) hob true)
                  have hres1 : Hid ((w2.setCell ⟨w.heap.size + 1, 0, none⟩ (Value.slice (some { block := g, off := 0 }) (vs.length + 1) cap)).heap[w.heap.size]? = some (.cells #[.slice none 0 0, .int .i64 0, .int .i64 0, .int .i64 0, .int .i64 0] 34 (0, 0))) :=
                    Lib.hid ((Below.heap_setCell _ _ _ _ (by show w.heap.size ≠ w.heap.size + 1; omega)).trans ((far2 hg (by omega) (fun e => by have := (HRA.out.rows.row.lt _ e.symm).1; omega)).trans HRES.out))
                  have hsz1 : Hid (W0.heap.size ≤ w2.heap.size) := Lib.hid (by have := hg.size; simp at this; omega)
                  clear hg hg' hown hat hgt hob c0' z0' hv1 hnow d1 d2 d0
                  go_wp2_with fail
                  go_roundw
                  case rel =>
                    refine ⟨k + 1, false, true, .slice (some ⟨g, 0, none⟩) (vs.length + 1) cap, vs ++ [.slice (some ⟨wr.heap.size, 0, none⟩) 0 0], s.now, by go_num, by omega, rfl, rfl, ?_, hres1.out, by have := hsz1.out; simpa using this⟩
                    rw [HT.out, HS.out]
                    exact HF.out
                  case measure => simp [intOf]; omega
              · obtain ⟨gn, cn, hnv, hgn0, hgn1⟩ := HRA.out.rows.now.form hpos
                subst hnv
                have hmany : vs.length ≤ 1000000 := by rw [HRA.out.rows.many]; exact hsm.out.found
                have hobl : w.heap.size + 1 < wr.heap.size := Nat.lt_of_lt_of_le HRA.out.rows.low HRA.out.rows.size
                have hnl2 : s.now.length ≤ 1000000 := by omega
                have d1 : ∀ o1, (wr.alloc o1).cell? ⟨w.heap.size + 1, 0, none⟩ = some fv := fun o1 => (World.cell?_alloc_lt _ _ _ hobl).trans d0
                have HNF : Hid (some (w.heap.size + 1) ≠ fv.ownBlock) := Lib.hid (fun e => by have := (HRA.out.rows.row.lt _ e.symm).1; have := HRA.out.rows.low; omega)
                have HPOS := Lib.hid hpos
                clear hpos
                go_wp2_with fail
                go_region_law
                  (first
                    | (refine step_copy _ (by rfl) _ _ (by rfl) wr.heap.size gn s.now.length cn s.now (by rfl) (by rfl) ?_ ?_ rfl HPOS.out hnl2 ?_ ?_
                       · exact (World.ownsRow_made wr #[] 0 (Nat.le_refl _) (by decide) rfl).drew
                       · exact fun j u hu => ((HRA.out.rows.now.alloc _).drew).cells rfl j u hu
                       · simp
                       intro g1 cap1 wc hownc hgc hgtc
                       have hobc : wc.heap[w.heap.size + 1]? = some (.cells (refObj fv s.junk s.over s.broken) 34 (0, 0)) :=
                         (hgc.block (w.heap.size + 1) (by simp; omega) (by intro e; injection e; omega)).trans ((Below.heap_alloc wr _ _ hobl).trans HRA.out.obj)
                       have c1c : wc.cell? ⟨w.heap.size + 1, 0, none⟩ = some fv := cell_of (i := 0) hobc rfl
                       have hobl2 : w.heap.size + 1 < wc.heap.size := by have := hgc.size; simp at this; omega
                       have d2 : ∀ o2, (wc.alloc o2).cell? ⟨w.heap.size + 1, 0, none⟩ = some fv := fun o2 => (World.cell?_alloc_lt _ _ _ hobl2).trans c1c
                       have hbc : Below wr.heap.size wr wc := ⟨hgc.os, hgc.tape, hgc.output, by have := hgc.size; simp at this; omega, fun k hk => (hgc.block k (by simp; omega) (by intro e; injection e; omega)).trans (Below.heap_alloc wr _ _ hk)⟩)
                    | (refine step_found _ (by rfl) _ _ (by rfl) (w.heap.size + 2) fv vs (.slice (some ⟨g1, 0, none⟩) s.now.length cap1) wc.heap.size (by rfl) (by rfl) ?_ ?_ (by rfl) hmany ?_ ?_
                       · exact (owns_moved (S := fun _ => False) HRA.out.rows.row ⟨hbc.os, hbc.tape, hbc.output, hbc.size, fun k hk _ => hbc.block k hk⟩ (fun _ _ e => e)).alloc _
                       · exact heap_alloc_new wc _
                       · have := HRA.out.rows.size; have := hbc.size; simp; omega
                       intro g cap w2 hown hg hat hgt
                       have hob := (hg.block (w.heap.size + 1) (by simp; omega) HNF.out).trans ((Below.heap_alloc wc _ _ hobl2).trans hobc)
                       have c0' : w2.cell? ⟨w.heap.size + 1, 0, none⟩ = some fv := cell_of (i := 0) hob rfl
                       have z0' := free_of (i := 0) hob))
                all_goals
                  have HF := Lib.hid (HRA.out.found hownc hbc hown hg (by omega) (by omega) hob true)
                  have hres1 : Hid ((w2.setCell ⟨w.heap.size + 1, 0, none⟩ (Value.slice (some { block := g, off := 0 }) (vs.length + 1) cap)).heap[w.heap.size]? = some (.cells #[.slice none 0 0, .int .i64 0, .int .i64 0, .int .i64 0, .int .i64 0] 34 (0, 0))) :=
                    Lib.hid ((Below.heap_setCell _ _ _ _ (by show w.heap.size ≠ w.heap.size + 1; omega)).trans ((hg.block w.heap.size (by simp; omega) (fun e => by have := (HRA.out.rows.row.lt _ e.symm).1; omega)).trans ((Below.heap_alloc wc _ _ (by omega)).trans ((hbc.block _ (by omega)).trans HRES.out))))
                  have hsz1 : Hid (W0.heap.size ≤ w2.heap.size) := Lib.hid (by have := hg.size; have := hbc.size; simp at *; omega)
                  clear hg hown hat hgt hob c0' z0' d1 d2 d0 hownc hgc hgtc hobc c1c hobl2 hbc
                  go_wp2_with fail
                  go_roundw
                  case rel =>
                    refine ⟨k + 1, false, true, .slice (some ⟨g, 0, none⟩) (vs.length + 1) cap, vs ++ [.slice (some ⟨g1, 0, none⟩) s.now.length cap1], s.now, by go_num, by omega, rfl, rfl, ?_, hres1.out, by have := hsz1.out; simpa using this⟩
                    rw [HT.out, HS.out]
                    exact HF.out
                  case measure => simp [intOf]; omega
            have h13b : (c == 13) = false := by simpa using h13
            by_cases h28 : c = 28
            · subst h28
              clear h13
              have HS : Hid (s.step 28 = s.lay [28]) := Lib.hid (by rw [St.step, if_neg (by simp [hi]), if_neg h11, if_neg (fun e => by cases e.2), if_neg (fun e => by rw [hf] at e; cases e.2), if_pos rfl])
              obtain ⟨i0, hi0, hz0, hz1, hz2⟩ : ∃ i0, Try.prog.info? 5 = some i0 ∧ i0.zero = some (.int .u8 0) ∧ i0.size = 1 ∧ i0.bytes = 1 := info_parts (by kernel_rfl)
              have HI := Lib.hid (And.intro hi0 (And.intro hz0 (And.intro hz1 hz2)))
              have HIF := Lib.hid (And.intro hi hf)
              have hlen : s.now.length ≤ 65536 := by omega
              have hB : w.heap.size + 2 ≤ wr.heap.size := HRA.out.rows.size
              have hb1 : s.now.length + 1 ≤ maxLen := by unfold maxLen; omega
              have HB1 := Lib.hid hb1
              clear hi0 hz0 hz1 hz2 hi hf h11 hb1
              go_wp2_with (first
                | (at_builtin; refine wpList_append_near rfl _ _ 30 rfl (w.heap.size + 2) 5 i0 (.int .u8 0) 1 1 Try.underlying30 HI.out.1 HI.out.2.1 HI.out.2.2.1 HI.out.2.2.2 rfl (by decide) _ _ _ rfl (HRA.out.rows.now.alloc _) ⟨wr.heap.size, 0, none⟩ 1 1 [.int .u8 28] rfl rfl (World.news_of_block (heap_alloc_new wr _)) (by intro u hu; simp at hu; subst hu; rfl) (by decide) HB1.out (by omega) (by simp; omega) ?_)
                | fail)
              intro v' w1 hown hg hnear hform
              have HL := Lib.hid (Laid.one HRA.out.rows HRA.out.obj HRA.out.below (by omega) (ys := [28]) hown hg hnear)
              obtain ⟨g, cap, rfl⟩ := hform
              clear hown hg hnear
              have hres1 : Hid (w1.heap[w.heap.size]? = some (.cells #[.slice none 0 0, .int .i64 0, .int .i64 0, .int .i64 0, .int .i64 0] 34 (0, 0))) := Lib.hid ((HL.out.moved.block w.heap.size (by omega) (fun e => by have := (HRA.out.rows.now.lt _ e.symm).1; omega)).trans HRES.out)
              have hsz1 : W0.heap.size ≤ w1.heap.size := Nat.le_trans hsz HL.out.moved.size
              have c3 : w1.cell? ⟨w.heap.size + 1, 3, none⟩ = some (.int .i64 s.over) := cell_of (i := 3) HL.out.obj rfl
              have z3 := free_of (i := 3) HL.out.obj
              have hov := hsm.out.over
              have HSF : Hid (s.lay [28] = St.lay { s with fin := true } [28]) := Lib.hid (by have := HIF.out.2; cases s; simp at this; subst this; rfl)
              by_cases hbig : m < s.now.length + 1
              · have hbb : decide ((m : Int) < ((s.now.length + 1 : Nat) : Int)) = true := by simp; omega
                go_wp2_with fail
                go_roundw
                case rel =>
                  refine ⟨k + 1, false, true, fv, vs, s.now ++ [28], by go_num, by omega, rfl, rfl, ?_, (Below.heap_setCell _ _ _ _ (by show w.heap.size ≠ w.heap.size + 1; omega)).trans hres1.out, by simpa using hsz1⟩
                  rw [HT.out, HS.out, HSF.out]
                  exact HRA.out.laid_big HL.out (by simp; omega) true (by simp) (by omega)
                case measure => simp [intOf]; omega
              · have hbb : decide ((m : Int) < ((s.now.length + 1 : Nat) : Int)) = false := by simp; omega
                go_wp2_with fail
                go_roundw
                case rel =>
                  refine ⟨k + 1, true, true, fv, vs, s.now ++ [28], by go_num, by omega, rfl, rfl, ?_, hres1.out, hsz1⟩
                  rw [HT.out, HS.out, HSF.out]
                  exact HRA.out.laid_small HIF.out.1 HL.out (by simp; omega) true (by simp)
                case measure => simp [intOf]; omega
            · have h28b : (c == 28) = false := by simpa using h28
              have HS : Hid (s.step c = St.lay { s with fin := false } [28, c]) := Lib.hid (by rw [St.step, if_neg (by simp [hi]), if_neg h11, if_neg (fun e => h13 e.2), if_neg (fun e => h28 e.1), if_neg h28, if_pos hf])
              obtain ⟨i0, hi0, hz0, hz1, hz2⟩ : ∃ i0, Try.prog.info? 5 = some i0 ∧ i0.zero = some (.int .u8 0) ∧ i0.size = 1 ∧ i0.bytes = 1 := info_parts (by kernel_rfl)
              have HI := Lib.hid (And.intro hi0 (And.intro hz0 (And.intro hz1 hz2)))
              have HIF := Lib.hid (And.intro hi hf)
              have hlen : s.now.length ≤ 65536 := by omega
              have hB : w.heap.size + 2 ≤ wr.heap.size := HRA.out.rows.size
              have hb1 : s.now.length + 1 ≤ maxLen := by unfold maxLen; omega
              have HB1 := Lib.hid hb1
              clear hi0 hz0 hz1 hz2 hi hf h28 h11 h13 hb1
              go_wp2_with (first
                | (at_builtin; refine wpList_append_near rfl _ _ 30 rfl (w.heap.size + 2) 5 i0 (.int .u8 0) 1 1 Try.underlying30 HI.out.1 HI.out.2.1 HI.out.2.2.1 HI.out.2.2.2 rfl (by decide) _ _ _ rfl (HRA.out.rows.now.alloc _) ⟨wr.heap.size, 0, none⟩ 1 1 [.int .u8 28] rfl rfl (World.news_of_block (heap_alloc_new wr _)) (by intro u hu; simp at hu; subst hu; rfl) (by decide) HB1.out (by omega) (by simp; omega) ?_)
                | fail)
              intro v1 wm hown hg hnear hform
              have HL1 := Lib.hid (Laid.one HRA.out.rows HRA.out.obj HRA.out.below (by omega) (ys := [28]) hown hg hnear)
              obtain ⟨g1, cap1, rfl⟩ := hform
              have hBm : w.heap.size + 2 ≤ wm.heap.size := HL1.out.rows.size
              have HB2 : Hid (s.now.length + 1 + 1 ≤ maxLen) := Lib.hid (by unfold maxLen; omega)
              have HN1 : Hid (wm.ownsRow (w.heap.size + 2) 5 1 (.slice (some ⟨g1, 0, none⟩) (s.now.length + 1) cap1) (s.now.length + 1) ((s.now ++ [28]).map (.int .u8))) := Lib.hid (by
                have e : (s.now ++ [28]).length = s.now.length + 1 := by simp
                have h := HL1.out.rows.now
                simp only [BytesAt] at h
                rw [e] at h
                exact h)
              clear hown hg hnear
              go_wp2_with (first
                | (at_builtin; refine wpList_append_near rfl _ _ 30 rfl (w.heap.size + 2) 5 i0 (.int .u8 0) 1 1 Try.underlying30 HI.out.1 HI.out.2.1 HI.out.2.2.1 HI.out.2.2.2 rfl (by decide) _ _ _ rfl (HN1.out.alloc _) ⟨wm.heap.size, 0, none⟩ 1 1 [.int .u8 c] rfl rfl (World.news_of_block (heap_alloc_new wm _)) (by intro u hu; simp at hu; subst hu; rfl) (by decide) HB2.out (by omega) (by simp; omega) ?_)
                | fail)
              intro v' w1 hown hg hnear hform
              have HL : Hid (Laid (w.heap.size + 2) (w.heap.size + 1) u8 v' fv vs (s.now ++ [28, c]) s w wr w1) := Lib.hid (by
                have h2 := Laid.one (now := s.now ++ [28]) HL1.out.rows HL1.out.obj HL1.out.below (by omega) (ys := [c]) (by simpa using hown) hg hnear
                have h3 := HL1.out.two h2
                rw [List.append_assoc] at h3
                exact h3)
              obtain ⟨g, cap, rfl⟩ := hform
              clear hown hg hnear
              have hres1 : Hid (w1.heap[w.heap.size]? = some (.cells #[.slice none 0 0, .int .i64 0, .int .i64 0, .int .i64 0, .int .i64 0] 34 (0, 0))) := Lib.hid ((HL.out.moved.block w.heap.size (by omega) (fun e => by have := (HRA.out.rows.now.lt _ e.symm).1; omega)).trans HRES.out)
              have hsz1 : W0.heap.size ≤ w1.heap.size := Nat.le_trans hsz HL.out.moved.size
              have c3 : w1.cell? ⟨w.heap.size + 1, 3, none⟩ = some (.int .i64 s.over) := cell_of (i := 3) HL.out.obj rfl
              have z3 := free_of (i := 3) HL.out.obj
              have hov := hsm.out.over
              by_cases hbig : m < s.now.length + 1 + 1
              · have hbb : decide ((m : Int) < ((s.now.length + 1 + 1 : Nat) : Int)) = true := by simp; omega
                go_wp2_with fail
                go_roundw
                case rel =>
                  refine ⟨k + 1, false, false, fv, vs, s.now ++ [28, c], by go_num, by omega, rfl, rfl, ?_, (Below.heap_setCell _ _ _ _ (by show w.heap.size ≠ w.heap.size + 1; omega)).trans hres1.out, by simpa using hsz1⟩
                  rw [HT.out, HS.out]
                  exact HRA.out.laid_big HL.out (by simp; omega) false (by simp) (by omega)
                case measure => simp [intOf]; omega
              · have hbb : decide ((m : Int) < ((s.now.length + 1 + 1 : Nat) : Int)) = false := by simp; omega
                go_wp2_with fail
                go_roundw
                case rel =>
                  refine ⟨k + 1, true, false, fv, vs, s.now ++ [28, c], by go_num, by omega, rfl, rfl, ?_, hres1.out, hsz1⟩
                  rw [HT.out, HS.out]
                  exact HRA.out.laid_small HIF.out.1 HL.out (by simp; omega) false (by simp)
                case measure => simp [intOf]; omega
          | false =>
            rw [hf] at HRA
            by_cases h28 : c = 28
            · subst h28
              have HS : Hid (s.step 28 = { s with fin := true }) := Lib.hid (by rw [St.step, if_neg (by simp [hi]), if_neg h11, if_neg (by simp [hf]), if_pos ⟨rfl, hf⟩])
              have HIF := Lib.hid (And.intro hi hf)
              obtain ⟨ao, cap, rfl⟩ := owns_form HRA.out.rows.now
              have hbb : decide ((m : Int) < (s.now.length : Int)) = false := by simp; omega
              clear hi hf h11
              go_wp2_with fail
              go_roundw
              case rel =>
                refine ⟨k + 1, true, true, fv, vs, s.now, by go_num, by omega, rfl, rfl, ?_, HRES.out, hsz⟩
                rw [HT.out, HS.out]
                exact ⟨HRA.out.rows, HRA.out.obj, HIF.out.1.symm, (fun _ => ⟨rfl, rfl⟩), HRA.out.len, HRA.out.short, HRA.out.form, HRA.out.below⟩
              case measure => simp [intOf]; omega
            · have h28b : (c == 28) = false := by simpa using h28
              have HS : Hid (s.step c = s.lay [c]) := Lib.hid (by rw [St.step, if_neg (by simp [hi]), if_neg h11, if_neg (by simp [hf]), if_neg (fun e => h28 e.1), if_neg h28, if_neg (by simp [hf])])
              obtain ⟨i0, hi0, hz0, hz1, hz2⟩ : ∃ i0, Try.prog.info? 5 = some i0 ∧ i0.zero = some (.int .u8 0) ∧ i0.size = 1 ∧ i0.bytes = 1 := info_parts (by kernel_rfl)
              have HI := Lib.hid (And.intro hi0 (And.intro hz0 (And.intro hz1 hz2)))
              have HIF := Lib.hid (And.intro hi hf)
              have hlen : s.now.length ≤ 65536 := by omega
              have hB : w.heap.size + 2 ≤ wr.heap.size := HRA.out.rows.size
              have hb1 : s.now.length + 1 ≤ maxLen := by unfold maxLen; omega
              have HB1 := Lib.hid hb1
              clear hi0 hz0 hz1 hz2 hi hf h28 h11 hb1
              go_wp2_with (first
                | (at_builtin; refine wpList_append_near rfl _ _ 30 rfl (w.heap.size + 2) 5 i0 (.int .u8 0) 1 1 Try.underlying30 HI.out.1 HI.out.2.1 HI.out.2.2.1 HI.out.2.2.2 rfl (by decide) _ _ _ rfl (HRA.out.rows.now.alloc _) ⟨wr.heap.size, 0, none⟩ 1 1 [.int .u8 c] rfl rfl (World.news_of_block (heap_alloc_new wr _)) (by intro u hu; simp at hu; subst hu; rfl) (by decide) HB1.out (by omega) (by simp; omega) ?_)
                | fail)
              intro v' w1 hown hg hnear hform
              have HL := Lib.hid (Laid.one HRA.out.rows HRA.out.obj HRA.out.below (by omega) (ys := [c]) hown hg hnear)
              obtain ⟨g, cap, rfl⟩ := hform
              clear hown hg hnear
              have hres1 : Hid (w1.heap[w.heap.size]? = some (.cells #[.slice none 0 0, .int .i64 0, .int .i64 0, .int .i64 0, .int .i64 0] 34 (0, 0))) := Lib.hid ((HL.out.moved.block w.heap.size (by omega) (fun e => by have := (HRA.out.rows.now.lt _ e.symm).1; omega)).trans HRES.out)
              have hsz1 : W0.heap.size ≤ w1.heap.size := Nat.le_trans hsz HL.out.moved.size
              have c3 : w1.cell? ⟨w.heap.size + 1, 3, none⟩ = some (.int .i64 s.over) := cell_of (i := 3) HL.out.obj rfl
              have z3 := free_of (i := 3) HL.out.obj
              have hov := hsm.out.over
              have HSF : Hid (s.lay [c] = St.lay { s with fin := false } [c]) := Lib.hid (by have := HIF.out.2; cases s; simp at this; subst this; rfl)
              by_cases hbig : m < s.now.length + 1
              · have hbb : decide ((m : Int) < ((s.now.length + 1 : Nat) : Int)) = true := by simp; omega
                go_wp2_with fail
                go_roundw
                case rel =>
                  refine ⟨k + 1, false, false, fv, vs, s.now ++ [c], by go_num, by omega, rfl, rfl, ?_, (Below.heap_setCell _ _ _ _ (by show w.heap.size ≠ w.heap.size + 1; omega)).trans hres1.out, by simpa using hsz1⟩
                  rw [HT.out, HS.out, HSF.out]
                  exact HRA.out.laid_big HL.out (by simp; omega) false (by simp) (by omega)
                case measure => simp [intOf]; omega
              · have hbb : decide ((m : Int) < ((s.now.length + 1 : Nat) : Int)) = false := by simp; omega
                go_wp2_with fail
                go_roundw
                case rel =>
                  refine ⟨k + 1, true, false, fv, vs, s.now ++ [c], by go_num, by omega, rfl, rfl, ?_, hres1.out, hsz1⟩
                  rw [HT.out, HS.out, HSF.out]
                  exact HRA.out.laid_small HIF.out.1 HL.out (by simp; omega) false (by simp)
                case measure => simp [intOf]; omega
    · have hkb : decide ((k : Int) < (n : Int)) = false := by simp; omega
      have hkn : k = n := by omega
      have hbs : bs.take k = bs := List.take_of_length_le (by have := HA.out.len; omega)
      rw [hbs] at HRA hin hsm
      have hnl := HRA.out.len
      have hsame := Lib.hid HRA.out.same
      have HE : Hid (((St.fresh m).feed bs).held = (if ((St.fresh m).feed bs).inn = false then (0 : Int) else if ((St.fresh m).feed bs).fin then (((St.fresh m).feed bs).now.length : Int) + 2 else (((St.fresh m).feed bs).now.length : Int) + 1)) := Lib.hid (by unfold St.held; split <;> (try split) <;> rfl)
      obtain ⟨s, hs⟩ : ∃ s, s = (St.fresh m).feed bs := ⟨_, rfl⟩
      rw [← hs] at HRA hin hsm hnl hsame HE
      have HSS := Lib.hid hs
      clear hbs hs
      have c0 := cell_of (i := 0) HRA.out.obj rfl
      have c1 := cell_of (i := 1) HRA.out.obj rfl
      have c2 := cell_of (i := 2) HRA.out.obj rfl
      have c3 := cell_of (i := 3) HRA.out.obj rfl
      have c4 := cell_of (i := 4) HRA.out.obj rfl
      replace c0 : wr.cell? ⟨w.heap.size + 1, 0, none⟩ = some fv := c0
      replace c1 : wr.cell? ⟨w.heap.size + 1, 1, none⟩ = some (.int .i64 0) := c1
      replace c2 : wr.cell? ⟨w.heap.size + 1, 2, none⟩ = some (.int .i64 s.junk) := c2
      replace c3 : wr.cell? ⟨w.heap.size + 1, 3, none⟩ = some (.int .i64 s.over) := c3
      replace c4 : wr.cell? ⟨w.heap.size + 1, 4, none⟩ = some (.int .i64 s.broken) := c4
      have r0 := cell_of (i := 0) HRES.out rfl
      have r1 := cell_of (i := 1) HRES.out rfl
      have r2 := cell_of (i := 2) HRES.out rfl
      have r3 := cell_of (i := 3) HRES.out rfl
      have r4 := cell_of (i := 4) HRES.out rfl
      have y0 := free_of (i := 0) HRES.out
      have y1 := free_of (i := 1) HRES.out
      have y2 := free_of (i := 2) HRES.out
      have y3 := free_of (i := 3) HRES.out
      have y4 := free_of (i := 4) HRES.out
      obtain ⟨ao, cap, hfv⟩ := owns_form HRA.out.rows.row
      subst hfv
      cases hi : s.inn with
      | false =>
        have hif : i = false := by rw [hin, hi]
        subst hif
        have hx : s.held = 0 := by rw [HE.out, if_pos hi]
        have HX := Lib.hid hx
        clear hin hi hx HE
        go_wp2_with fail
        obtain ⟨hst, hmv⟩ := store5 (.slice ao vs.length cap) (.int .i64 0) (.int .i64 s.junk) (.int .i64 s.over) (.int .i64 s.broken) HRES.out
        have q0 := cell_of (i := 0) hst rfl
        have q1 := cell_of (i := 1) hst rfl
        have q2 := cell_of (i := 2) hst rfl
        have q3 := cell_of (i := 3) hst rfl
        have q4 := cell_of (i := 4) hst rfl
        have hrows := HRA.out.rows.low_moved hmv (fun k hk => by omega)
        have hbl := Moved.below HRA.out.below hmv (fun k hk => by omega)
        refine bodyPost_ret (v := .agg #[.slice ao vs.length cap, .int .i64 0, .int .i64 s.junk, .int .i64 s.over, .int .i64 s.broken]) ?_ rfl ⟨.slice ao vs.length cap, u8, vs, rn, ?_, ?_, hbl⟩
        · generalize (((((wr.setCell ⟨w.heap.size, 0, none⟩ (.slice ao vs.length cap)).setCell ⟨w.heap.size, 1, none⟩ (.int .i64 0)).setCell ⟨w.heap.size, 2, none⟩ (.int .i64 s.junk)).setCell ⟨w.heap.size, 3, none⟩ (.int .i64 s.over)).setCell ⟨w.heap.size, 4, none⟩ (.int .i64 s.broken)) = W5 at q0 q1 q2 q3 q4 ⊢
          replace q0 : W5.cell? ⟨w.heap.size, 0, none⟩ = some (.slice ao vs.length cap) := q0
          replace q1 : W5.cell? ⟨w.heap.size, 1, none⟩ = some (.int .i64 0) := q1
          replace q2 : W5.cell? ⟨w.heap.size, 2, none⟩ = some (.int .i64 s.junk) := q2
          replace q3 : W5.cell? ⟨w.heap.size, 3, none⟩ = some (.int .i64 s.over) := q3
          replace q4 : W5.cell? ⟨w.heap.size, 4, none⟩ = some (.int .i64 s.broken) := q4
          simp [results, Try.results13, go_sem, q0, q1, q2, q3, q4]
        · rw [← HSS.out, HX.out]
        · rw [← HSS.out]; exact hrows
      | true =>
        have hit : i = true := by rw [hin, hi]
        subst hit
        obtain ⟨hrn, he⟩ := hsame.out hi
        subst hrn he
        obtain ⟨an, cn, hnv⟩ := owns_form HRA.out.rows.now
        subst hnv
        have z1 := free_of (i := 1) HRA.out.obj
        cases hf : s.fin with
        | false =>
          have hx : s.held = 1 + (s.now.length : Int) := by rw [HE.out, if_neg (by simp [hi]), if_neg (by simp [hf])]; omega
          have HX := Lib.hid hx
          have hob := heap_setCell_same wr (w.heap.size + 1) 1 _ 34 (.int .i64 (1 + (s.now.length : Int))) HRA.out.obj
          rw [hf] at HRA
          clear hin hi hx HE hf hsame
          go_wp2_with fail
          obtain ⟨WB, hWB⟩ : ∃ WB : World, WB = wr.setCell ⟨w.heap.size + 1, 1, none⟩ (.int .i64 (1 + (s.now.length : Int))) := ⟨_, rfl⟩
          have hresB : WB.heap[w.heap.size]? = some (.cells #[.slice none 0 0, .int .i64 0, .int .i64 0, .int .i64 0, .int .i64 0] 34 (0, 0)) := by rw [hWB]; exact (Below.heap_setCell _ _ _ _ (by show w.heap.size ≠ w.heap.size + 1; omega)).trans HRES.out
          have hmB : Moved wr WB (fun k => k = w.heap.size + 1) := by rw [hWB]; exact (Moved.refl wr (fun k => k = w.heap.size + 1)).set (p := ⟨w.heap.size + 1, 1, none⟩) rfl _
          rw [← hWB]
          obtain ⟨hst, hmv⟩ := store5 (.slice ao vs.length cap) (.int .i64 (1 + (s.now.length : Int))) (.int .i64 s.junk) (.int .i64 s.over) (.int .i64 s.broken) hresB
          have q0 := cell_of (i := 0) hst rfl
          have q1 := cell_of (i := 1) hst rfl
          have q2 := cell_of (i := 2) hst rfl
          have q3 := cell_of (i := 3) hst rfl
          have q4 := cell_of (i := 4) hst rfl
          have hrows := (HRA.out.rows.same hmB).low_moved hmv (fun k hk => by omega)
          have hbl := Moved.below (Moved.below HRA.out.below hmB (fun k hk => by omega)) hmv (fun k hk => by omega)
          refine bodyPost_ret (v := .agg #[.slice ao vs.length cap, .int .i64 (1 + (s.now.length : Int)), .int .i64 s.junk, .int .i64 s.over, .int .i64 s.broken]) ?_ rfl ⟨.slice ao vs.length cap, .slice an s.now.length cn, vs, s.now, ?_, ?_, hbl⟩
          · generalize (((((WB.setCell ⟨w.heap.size, 0, none⟩ (.slice ao vs.length cap)).setCell ⟨w.heap.size, 1, none⟩ (.int .i64 (1 + (s.now.length : Int)))).setCell ⟨w.heap.size, 2, none⟩ (.int .i64 s.junk)).setCell ⟨w.heap.size, 3, none⟩ (.int .i64 s.over)).setCell ⟨w.heap.size, 4, none⟩ (.int .i64 s.broken)) = W5 at q0 q1 q2 q3 q4 ⊢
            replace q0 : W5.cell? ⟨w.heap.size, 0, none⟩ = some (.slice ao vs.length cap) := q0
            replace q1 : W5.cell? ⟨w.heap.size, 1, none⟩ = some (.int .i64 (1 + (s.now.length : Int))) := q1
            replace q2 : W5.cell? ⟨w.heap.size, 2, none⟩ = some (.int .i64 s.junk) := q2
            replace q3 : W5.cell? ⟨w.heap.size, 3, none⟩ = some (.int .i64 s.over) := q3
            replace q4 : W5.cell? ⟨w.heap.size, 4, none⟩ = some (.int .i64 s.broken) := q4
            simp [results, Try.results13, go_sem, q0, q1, q2, q3, q4]
          · rw [← HSS.out, HX.out]
          · rw [← HSS.out]; exact hrows
        | true =>
          have hx : s.held = 1 + (s.now.length : Int) + 1 := by rw [HE.out, if_neg (by simp [hi]), if_pos (by simp [hf])]; omega
          have HX := Lib.hid hx
          have hob := heap_setCell_same wr (w.heap.size + 1) 1 _ 34 (.int .i64 (1 + (s.now.length : Int))) HRA.out.obj
          have d1 := cell_of (i := 1) hob rfl
          replace d1 : (wr.setCell ⟨w.heap.size + 1, 1, none⟩ (.int .i64 (1 + (s.now.length : Int)))).cell? ⟨w.heap.size + 1, 1, none⟩ = some (.int .i64 (1 + (s.now.length : Int))) := d1
          rw [hf] at HRA
          clear hin hi hx HE hf hsame hob
          go_wp2_with fail
          obtain ⟨WB, hWB⟩ : ∃ WB : World, WB = (wr.setCell ⟨w.heap.size + 1, 1, none⟩ (.int .i64 (1 + (s.now.length : Int)))).setCell ⟨w.heap.size + 1, 1, none⟩ (.int .i64 (1 + (s.now.length : Int) + 1)) := ⟨_, rfl⟩
          have hresB : WB.heap[w.heap.size]? = some (.cells #[.slice none 0 0, .int .i64 0, .int .i64 0, .int .i64 0, .int .i64 0] 34 (0, 0)) := by rw [hWB]; exact (Below.heap_setCell _ _ _ _ (by show w.heap.size ≠ w.heap.size + 1; omega)).trans ((Below.heap_setCell _ _ _ _ (by show w.heap.size ≠ w.heap.size + 1; omega)).trans HRES.out)
          have hmB : Moved wr WB (fun k => k = w.heap.size + 1) := by rw [hWB]; exact ((Moved.refl wr (fun k => k = w.heap.size + 1)).set (p := ⟨w.heap.size + 1, 1, none⟩) rfl _).set (p := ⟨w.heap.size + 1, 1, none⟩) rfl _
          rw [← hWB]
          obtain ⟨hst, hmv⟩ := store5 (.slice ao vs.length cap) (.int .i64 (1 + (s.now.length : Int) + 1)) (.int .i64 s.junk) (.int .i64 s.over) (.int .i64 s.broken) hresB
          have q0 := cell_of (i := 0) hst rfl
          have q1 := cell_of (i := 1) hst rfl
          have q2 := cell_of (i := 2) hst rfl
          have q3 := cell_of (i := 3) hst rfl
          have q4 := cell_of (i := 4) hst rfl
          have hrows := (HRA.out.rows.same hmB).low_moved hmv (fun k hk => by omega)
          have hbl := Moved.below (Moved.below HRA.out.below hmB (fun k hk => by omega)) hmv (fun k hk => by omega)
          refine bodyPost_ret (v := .agg #[.slice ao vs.length cap, .int .i64 (1 + (s.now.length : Int) + 1), .int .i64 s.junk, .int .i64 s.over, .int .i64 s.broken]) ?_ rfl ⟨.slice ao vs.length cap, .slice an s.now.length cn, vs, s.now, ?_, ?_, hbl⟩
          · generalize (((((WB.setCell ⟨w.heap.size, 0, none⟩ (.slice ao vs.length cap)).setCell ⟨w.heap.size, 1, none⟩ (.int .i64 (1 + (s.now.length : Int) + 1))).setCell ⟨w.heap.size, 2, none⟩ (.int .i64 s.junk)).setCell ⟨w.heap.size, 3, none⟩ (.int .i64 s.over)).setCell ⟨w.heap.size, 4, none⟩ (.int .i64 s.broken)) = W5 at q0 q1 q2 q3 q4 ⊢
            replace q0 : W5.cell? ⟨w.heap.size, 0, none⟩ = some (.slice ao vs.length cap) := q0
            replace q1 : W5.cell? ⟨w.heap.size, 1, none⟩ = some (.int .i64 (1 + (s.now.length : Int) + 1)) := q1
            replace q2 : W5.cell? ⟨w.heap.size, 2, none⟩ = some (.int .i64 s.junk) := q2
            replace q3 : W5.cell? ⟨w.heap.size, 3, none⟩ = some (.int .i64 s.over) := q3
            replace q4 : W5.cell? ⟨w.heap.size, 4, none⟩ = some (.int .i64 s.broken) := q4
            simp [results, Try.results13, go_sem, q0, q1, q2, q3, q4]
          · rw [← HSS.out, HX.out]
          · rw [← HSS.out]; exact hrows
end Go.Proofs.Ythhbohpmbkdkeaa
