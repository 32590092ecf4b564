/- DeframeBack: the two rows that the law builds. -/
import Derived.Test.YthhbohpmbkdkeaaDoorFm
import Derived.Test.YthhbohpmbkdkeaaDoorPb
import Derived.Test.YthhbohpmbkdkeaaDoorOg
import Derived.Test.YthhbohpmbkdkeaaDoorSm
namespace Go.Proofs.YthhbohpmbkdkeaaDoor
open Go.RowKit

theorem rows_apart {w : World} {B B' n n' : Nat} {v v' : Value} {xs xs' : List Value} (h : w.ownsRow B 5 1 v n xs) (h' : w.ownsRow B' 23 1 v' n' xs') : v.ownBlock = none ∨ v.ownBlock ≠ v'.ownBlock := by
  rcases h.2 with ⟨rfl, _⟩ | ⟨g, cap, cur, rfl, _, hg, _⟩
  · exact .inl rfl
  · refine .inr fun e => ?_
    rcases h'.2 with ⟨rfl, _⟩ | ⟨g', cap', cur', rfl, _, hg', _⟩
    · simp [Value.ownBlock] at e
    · simp [Value.ownBlock] at e
      subst e
      rw [hg] at hg'
      simp at hg'

theorem owns_below {w w' : World} {B n : Nat} {e : TypeId} {v : Value} {xs : List Value} (h : w.ownsRow B e 1 v n xs) (hb : Below w.heap.size w w') : w'.ownsRow B e 1 v n xs :=
  owns_moved (S := fun _ => False) h ⟨hb.os, hb.tape, hb.output, hb.size, fun k hk _ => hb.block k hk⟩ (fun _ _ e => e)

/-- the two rows that the law builds -/
structure Bag (w0 w2 : World) (av wv : Value) (all : List Int) (V : List Value) (F : List (List Int)) (w : World) : Prop where
  row : w.ownsRow w2.heap.size 5 1 av all.length (all.map (Value.int .u8))
  byte : ByteL all
  want : w.ownsRow w2.heap.size 23 1 wv V.length V
  many : V.length = F.length
  els : ∀ (i : Nat) (v : Value) (b : List Int), V[i]? = some v → F[i]? = some b → ∃ p n c, v = .slice p n c ∧ ArgC w0 p n c b
  grew : Below w2.heap.size w2 w

theorem Bag.below {w0 w2 : World} {av wv : Value} {all : List Int} {V : List Value} {F : List (List Int)} {w w' : World} (h : Bag w0 w2 av wv all V F w) (hb : Below w.heap.size w w') : Bag w0 w2 av wv all V F w' :=
  ⟨owns_below h.row hb, h.byte, owns_below h.want hb, h.many, h.els, h.grew.trans (hb.mono h.grew.size)⟩

/-- bytes more in the first row -/
theorem Bag.more {w0 w2 : World} {av av' wv : Value} {all ys : List Int} {V : List Value} {F : List (List Int)} {w w' : World} (h : Bag w0 w2 av wv all V F w) (hy : ByteL ys)
    (hown : w'.ownsRow w2.heap.size 5 1 av' (all.length + ys.length) ((all ++ ys).map (Value.int .u8))) (hg : w.grownBy w' av.ownBlock) : Bag w0 w2 av' wv (all ++ ys) V F w' := by
  refine ⟨by rw [List.length_append]; exact hown, ?_, ?_, h.many, h.els, h.grew.grown hg h.grew.size (fun k hk => (h.row.lt k hk).1)⟩
  · intro x hx
    rcases List.mem_append.1 hx with hx | hx
    · exact h.byte x hx
    · exact hy x hx
  · refine h.want.kept hg ?_
    rcases rows_apart h.row h.want with e | e
    · cases hw : wv.ownBlock with
      | none => exact .inl rfl
      | some g => exact .inr (by rw [e]; simp)
    · exact .inr (Ne.symm e)

/-- a row more in the second -/
theorem Bag.found {w0 w2 : World} {av wv wv' : Value} {all : List Int} {V : List Value} {F : List (List Int)} {w w' : World} (h : Bag w0 w2 av wv all V F w) {p : Option Addr} {n c : Nat} {b : List Int} (hb : ArgC w0 p n c b)
    (hown : w'.ownsRow w2.heap.size 23 1 wv' (V.length + 1) (V ++ [.slice p n c])) (hg : w.grownBy w' wv.ownBlock) : Bag w0 w2 av wv' all (V ++ [.slice p n c]) (F ++ [b]) w' := by
  refine ⟨h.row.kept hg (rows_apart h.row h.want), h.byte, by rw [List.length_append]; exact hown, by simp [h.many], ?_, h.grew.grown hg h.grew.size (fun k hk => (h.want.lt k hk).1)⟩
  intro i v b' hv hb'
  by_cases hi : i < V.length
  · rw [List.getElem?_append_left hi] at hv
    rw [List.getElem?_append_left (by have := h.many; omega)] at hb'
    exact h.els i v b' hv hb'
  · rw [List.getElem?_append_right (by omega)] at hv
    rw [List.getElem?_append_right (by have := h.many; omega)] at hb'
    have hl := (List.getElem?_eq_some_iff.1 hv).1
    simp at hl
    have e1 : i - V.length = 0 := by omega
    have e2 : i - F.length = 0 := by have := h.many; omega
    rw [e1] at hv
    rw [e2] at hb'
    simp at hv hb'
    subst hv; subst hb'
    exact ⟨p, n, c, rfl, hb⟩

theorem sumL_part {L : Nat → Nat} : ∀ {k j : Nat}, j < k → sumL L j + L j ≤ sumL L k := by
  intro k
  induction k with
  | zero => intro j h; omega
  | succ k ih =>
    intro j h
    have e : sumL L (k + 1) = sumL L k + L k := rfl
    by_cases hj : j = k
    · subst hj; omega
    · have := ih (show j < k by omega); omega

/-- an argument's row of bytes -/
theorem RowsIn.arg {w : World} {p : Option Addr} {n : Nat} {A : Nat → Option Addr} {L C : Nat → Nat} {xs : Nat → List Int} (h : RowsIn w p n A L C xs) {j : Nat} (hj : j < n) : ArgC w (A j) (L j) (C j) (xs j) := by
  obtain ⟨b, off, h1, h2, h3, h4, h5, h6⟩ := h j hj
  exact ⟨h3, h6, h5⟩

/-- what a loop over the junk leaves -/
def noise (js : List Int) : List Int := js.filter (· != 11)
theorem noise_none (js : List Int) : ∀ c ∈ noise js, c ≠ 11 := by intro c hc; simpa using (List.mem_filter.1 hc).2
theorem noise_byte {js : List Int} (h : ByteL js) : ByteL (noise js) := fun c hc => h c (List.mem_filter.1 hc).1
theorem noise_take {js : List Int} {q : Nat} {x : Int} (h : js[q]? = some x) : noise (js.take (q + 1)) = if x = 11 then noise (js.take q) else noise (js.take q) ++ [x] := by
  rw [noise, List.take_add_one, h, List.filter_append, noise]
  by_cases e : x = 11
  · subst e; simp
  · simp [e]
theorem noise_len (js : List Int) (q : Nat) : (noise (js.take q)).length ≤ q := Nat.le_trans (List.length_filter_le ..) (by rw [List.length_take]; omega)

end Go.Proofs.YthhbohpmbkdkeaaDoor
