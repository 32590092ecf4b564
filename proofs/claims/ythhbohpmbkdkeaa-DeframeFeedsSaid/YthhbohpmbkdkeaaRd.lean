/- The walk of ref05.Read. -/
import Derived.Test.YthhbohpmbkdkeaaSm
namespace Go.Proofs.Ythhbohpmbkdkeaa
open Go.RowKit

/-- the rows beside an object at ob: the bytes of now, the frames found -/
structure RowsAt (B ob : Nat) (nv fv : Value) (vs : List Value) (now : List Int) (found : List (List Int)) (w : World) : Prop where
  low : ob < B
  size : B ≤ w.heap.size
  now : BytesAt w B nv now
  row : w.ownsRow B 30 1 fv vs.length vs
  many : vs.length = found.length
  els : ∀ (i : Nat) (v : Value) (bs : List Int), vs[i]? = some v → found[i]? = some bs → BytesAt w B v bs
  apart : ∀ v ∈ vs, v.ownBlock = none ∨ v.ownBlock ≠ nv.ownBlock

theorem RowsAt.next {B ob : Nat} {nv fv : Value} {vs : List Value} {now : List Int} {found : List (List Int)} {w : World} (h : RowsAt B ob nv fv vs now found w) {nv' : Value} {now' : List Int} {w' : World}
    (hm : Moved w w' (fun k => k = ob ∨ some k = nv.ownBlock)) (hn : BytesAt w' B nv' now') (hfr : Fresh w nv nv') : RowsAt B ob nv' fv vs now' found w' := by
  have hlow := h.low
  refine ⟨hlow, Nat.le_trans h.size hm.size, hn, ?_, h.many, ?_, ?_⟩
  · refine owns_moved h.row hm (fun k hk => ?_)
    rintro (rfl | e)
    · have := (h.row.lt k hk).1; omega
    · exact owns_apart h.row h.now (by decide) k hk e
  · intro i v bs hv hb
    have hx := h.els i v bs hv hb
    refine owns_moved hx hm (fun k hk => ?_)
    rintro (rfl | e)
    · have := (hx.lt k hk).1; omega
    · rcases h.apart v (List.mem_of_getElem? hv) with h0 | h0
      · rw [h0] at hk; cases hk
      · exact h0 (hk.trans e)
  · intro v hv
    refine hfr.apart (fun k hk => ?_) (h.apart v hv)
    obtain ⟨i, hi⟩ := List.getElem?_of_mem hv
    have hlt : i < found.length := by rw [← h.many]; exact (List.getElem?_eq_some_iff.1 hi).1
    exact ((h.els i v _ hi (List.getElem?_eq_getElem hlt)).lt k hk).2

/-- only the object has turned -/
theorem RowsAt.same {B ob : Nat} {nv fv : Value} {vs : List Value} {now : List Int} {found : List (List Int)} {w w' : World} (h : RowsAt B ob nv fv vs now found w) (hm : Moved w w' (fun k => k = ob)) : RowsAt B ob nv fv vs now found w' :=
  h.next (hm.weaken fun k hk => .inl hk) (owns_moved h.now hm (fun k hk e => by have := (h.now.lt k hk).1; have := h.low; omega)) (Fresh.same _ _)

/-- a frame more -/
theorem RowsAt.more {B ob : Nat} {nv fv : Value} {vs : List Value} {now : List Int} {found : List (List Int)} {w w1 w2 w6 : World} (h : RowsAt B ob nv fv vs now found w) {v1 v' : Value} {bs : List Int} (hv1 : BytesAt w1 w.heap.size v1 bs) (hq1 : Below w.heap.size w w1) {o : Obj}
    (hown : w2.ownsRow B 30 1 v' (vs.length + 1) (vs ++ [v1])) (hg : (w1.alloc o).grownBy w2 fv.ownBlock) (hm6 : Moved w2 w6 (fun k => k = ob)) : RowsAt B ob nv v' (vs ++ [v1]) now (found ++ [bs]) w6 := by
  have hs1 := hq1.size
  have hs := h.size
  have hlow := h.low
  have m1 : Moved w1 w6 (fun k => k = ob ∨ some k = fv.ownBlock) :=
    (((Moved.refl w1 (fun k => k = ob ∨ some k = fv.ownBlock)).alloc o).trans (Moved.of_grown hg) (fun k _ hk => .inr hk)).trans hm6 (fun k _ hk => .inl hk)
  have m0 : Moved w w6 (fun k => k = ob ∨ some k = fv.ownBlock) := (Moved.mk hq1.os hq1.tape hq1.output hq1.size (fun k hk _ => hq1.block k hk) : Moved w w1 (fun k => k = ob ∨ some k = fv.ownBlock)).trans m1 (fun k _ hk => hk)
  refine ⟨hlow, Nat.le_trans hs m0.size, ?_, ?_, ?_, ?_, ?_⟩
  · refine owns_moved h.now m0 (fun k hk => ?_)
    rintro (rfl | e)
    · have := (h.now.lt k hk).1; omega
    · exact owns_apart h.now h.row (by decide) k hk e
  · rw [List.length_append, List.length_singleton]
    exact owns_moved hown hm6 (fun k hk e => by have := (hown.lt k hk).1; omega)
  · rw [List.length_append, List.length_append, h.many]
    rfl
  · intro i v xs hv hb
    by_cases hi : i < vs.length
    · rw [List.getElem?_append_left hi] at hv
      rw [List.getElem?_append_left (by rw [← h.many]; exact hi)] at hb
      have hx := h.els i v xs hv hb
      refine owns_moved hx m0 (fun k hk => ?_)
      rintro (rfl | e)
      · have := (hx.lt k hk).1; omega
      · exact owns_apart hx h.row (by decide) k hk e
    · have hi2 : i = vs.length := by
        have := (List.getElem?_eq_some_iff.1 hv).1
        simp at this
        omega
      subst hi2
      rw [List.getElem?_append_right (Nat.le_refl _)] at hv
      rw [List.getElem?_append_right (by rw [h.many]; exact Nat.le_refl _)] at hb
      simp [h.many] at hv hb
      subst hv hb
      refine owns_base (owns_moved hv1 m1 (fun k hk => ?_)) hs
      have hk1 := hv1.lt k hk
      rintro (rfl | e)
      · omega
      · have := (h.row.lt k e.symm).2; omega
  · intro v hv
    rcases List.mem_append.1 hv with hv | hv
    · exact h.apart v hv
    · simp at hv
      subst hv
      cases hx : v.ownBlock with
      | none => exact .inl rfl
      | some k =>
        refine .inr fun e => ?_
        have h1 := (hv1.lt k hx).1
        have h2 := (h.now.lt k e.symm).2
        omega

/-- the reference's object -/
abbrev refObj (fv : Value) (j o b : Int) : Array Value := #[fv, .int .i64 0, .int .i64 j, .int .i64 o, .int .i64 b]

/-- where the reference stands: its locals against the state -/
structure RAt (w0 : World) (B ob : Nat) (nv fv : Value) (vs : List Value) (rn : List Int) (i e : Bool) (s : St) (w : World) : Prop where
  rows : RowsAt B ob nv fv vs rn s.found w
  obj : w.heap[ob]? = some (.cells (refObj fv s.junk s.over s.broken) 34 (0, 0))
  inn : i = s.inn
  same : s.inn = true → rn = s.now ∧ e = s.fin
  len : s.now.length ≤ s.most ∧ s.most ≤ 65536
  short : rn.length ≤ 65538
  form : nv = .slice none 0 0 ∨ 0 < rn.length
  below : Below w0.heap.size w0 w
end Go.Proofs.Ythhbohpmbkdkeaa
