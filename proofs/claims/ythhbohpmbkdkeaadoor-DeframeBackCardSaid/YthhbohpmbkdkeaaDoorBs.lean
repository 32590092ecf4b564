/- law05.same over rows that read as the same; a frame beside the two rows. -/
import Derived.Test.YthhbohpmbkdkeaaDoorBg
import Derived.Laws.BytesArg
namespace Go.Proofs.YthhbohpmbkdkeaaDoor
open Go.RowKit

/-- the two rows and a frame -/
structure Two (w0 w3 : World) (av wv fv : Value) (all : List Int) (V : List Value) (F : List (List Int)) (fl : List Int) (w : World) : Prop where
  bag : Bag w0 w3 av wv all V F w
  fr : w.ownsRow w3.heap.size 5 1 fv fl.length (fl.map (Value.int .u8))
  off : av.ownBlock = none ∨ av.ownBlock ≠ fv.ownBlock

theorem Two.below {w0 w3 : World} {av wv fv : Value} {all : List Int} {V : List Value} {F : List (List Int)} {fl : List Int} {w w' : World} (h : Two w0 w3 av wv fv all V F fl w) (hb : Below w.heap.size w w') : Two w0 w3 av wv fv all V F fl w' :=
  ⟨h.bag.below hb, owns_below h.fr hb, h.off⟩

theorem Two.more {w0 w3 : World} {av av' wv fv : Value} {all ys : List Int} {V : List Value} {F : List (List Int)} {fl : List Int} {w w' : World} (h : Two w0 w3 av wv fv all V F fl w) (hy : ByteL ys)
    (hown : w'.ownsRow w3.heap.size 5 1 av' (all.length + ys.length) ((all ++ ys).map (Value.int .u8))) (hg : w.grownBy w' av.ownBlock) (hn : av'.ownBlock = none ∨ Near w av av') : Two w0 w3 av' wv fv (all ++ ys) V F fl w' := by
  refine ⟨h.bag.more hy hown hg, h.fr.kept hg ?_, ?_⟩
  · rcases h.off with e | e
    · cases hw : fv.ownBlock with
      | none => exact .inl rfl
      | some g => exact .inr (by rw [e]; simp)
    · exact .inr (Ne.symm e)
  · rcases hn with e | e | ⟨g, e, hgs⟩
    · exact .inl e
    · rw [e]; exact h.off
    · refine .inr fun e2 => ?_
      rw [e] at e2
      have := (h.fr.lt g e2.symm).2
      omega

/-- a slice of bytes that reads as these from here on -/
def Txt (w : World) (v : Value) (bs : List Int) : Prop := (∃ ao l c, v = .slice ao l c) ∧ ∀ w', Below w.heap.size w w' → (convert 23 9 v).run Tryd.prog w' = .ok (.string (strOfNums bs)) w'

theorem ArgC.txt {w : World} {p : Option Addr} {n c : Nat} {bs : List Int} (h : ArgC w p n c bs) : Txt w (.slice p n c) bs := ⟨⟨_, _, _, rfl⟩, fun _ hb => (h.below hb).conv⟩

theorem slice_of {w : World} {B : Nat} {v : Value} {V : List Value} (h : w.ownsRow B 23 1 v V.length V) : SliceOf w v V.length (fun j => V.getD j .nilFunc) := by
  rcases h.2 with ⟨rfl, h0⟩ | ⟨g, cap, cur, rfl, hb, hg, hn, r⟩
  · exact ⟨none, 0, by rw [h0], fun j hj => by omega⟩
  · refine ⟨_, cap, rfl, fun j hj => ⟨g, 0, rfl, ?_⟩⟩
    have := h.cells (g := g) rfl j (V.getD j .nilFunc) (by simp [List.getElem?_eq_getElem hj])
    rwa [Addr.add_lit] at this

set_option maxHeartbeats 4000000 in
theorem same_txt (n : Nat) (va vb : Value) (fa fb : Nat → Value) (xs : Nat → List Int) (w : World) (hn : (n : Int) ≤ 1000000) (ha : SliceOf w va n fa) (hb : SliceOf w vb n fb) (ta : ∀ j, j < n → Txt w (fa j) (xs j)) (tb : ∀ j, j < n → Txt w (fb j) (xs j)) :
    Calls Tryd.prog 17 #[va, vb] w fun e w' => e = .returned (.bool true) ∧ Below w.heap.size w w' := by
  obtain ⟨p, cp, rfl, ha⟩ := ha
  obtain ⟨q, cq, rfl, hb⟩ := hb
  have HA := Lib.hid ha
  have HB := Lib.hid hb
  have TA := Lib.hid ta
  have TB := Lib.hid tb
  clear ha hb ta tb
  go_enter Tryd.func17, Tryd.ntmps17
  go_wp2_with fail
  go_loopw [13] (fun i wr => ∃ j : Nat, i = .int .i64 j ∧ j ≤ n ∧ Below w.heap.size w wr) (fun i _ => n - (intOf i).toNat)
  case atStart => exact ⟨0, rfl, by omega, Below.refl _ _⟩
  case round =>
    obtain ⟨j, rfl, hj, hq⟩ := hrel
    by_cases hlt : j < n
    · have hjb : decide ((j : Int) < (n : Int)) = true := by simp; omega
      obtain ⟨b, off, rfl, h1⟩ := HA.out j hlt
      obtain ⟨b2, off2, rfl, h2⟩ := HB.out j hlt
      replace h1 := below_keeps hq h1
      replace h2 := below_keeps hq h2
      obtain ⟨⟨a1, a2, a3, e1⟩, c1⟩ := TA.out j hlt
      obtain ⟨⟨b1, b2', b3, e2⟩, c2⟩ := TB.out j hlt
      replace c1 := c1 _ hq.drew
      replace c2 := c2 _ hq.drew
      rw [e1] at h1 c1
      rw [e2] at h2 c2
      have hs := str_same (strOfNums (xs j))
      generalize strOfNums (xs j) = S at c1 c2 hs
      clear e1 e2
      go_wp2_with fail
      go_region
      go_wp2_with fail
      go_roundw
      case rel => exact ⟨j + 1, by go_num, by omega, hq.drew⟩
      case measure => simp [intOf]; omega
    · have hjb : decide ((j : Int) < (n : Int)) = false := by simp; omega
      go_wp2_with fail
      go_ret
      exact ⟨rfl, hq⟩
end Go.Proofs.YthhbohpmbkdkeaaDoor
