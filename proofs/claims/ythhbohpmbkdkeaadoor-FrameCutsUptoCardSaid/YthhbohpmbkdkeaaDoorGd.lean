/- Which bytes may be in a frame, as a plain law over lists: the library's three questions, the document's loop, and the words of the statements. No program. -/
import Derived.Lib.Bytes
import Derived.Lib.IndexMore
import Derived.Lib.IndexLaws
namespace Go.Proofs.YthhbohpmbkdkeaaDoor

/-- may be in a frame -/
def goodL : List Int → Bool
  | [] => true
  | [c] => !(c == 11) && !(c == 28)
  | c :: d :: l => !(c == 11) && !(c == 28 && d == 13) && goodL (d :: l)

abbrev ByteL (xs : List Int) : Prop := ∀ x ∈ xs, 0 ≤ x ∧ x ≤ 255

theorem byte_eq {x : Int} (h : 0 ≤ x ∧ x ≤ 255) (k : Nat) (hk : k < 256) : (UInt8.ofNat x.toNat == UInt8.ofNat k) = (x == (k : Int)) := by
  rw [Bool.eq_iff_iff, beq_iff_eq, beq_iff_eq]
  constructor
  · intro e
    have e1 := congrArg UInt8.toNat e
    simp [UInt8.toNat_ofNat'] at e1
    omega
  · rintro rfl
    rfl

theorem indexByte_cons (b : UInt8) (l : List UInt8) (c : UInt8) : decide (Lib.indexByte (b :: l) c < 0) = (!(b == c) && decide (Lib.indexByte l c < 0)) := by
  have := Lib.indexByte_ge l c
  rw [Lib.indexByte]
  cases hb : b == c
  · rw [if_neg (by simp)]
    by_cases h : Lib.indexByte l c = -1
    · simp [h]
    · rw [if_neg (by simpa using h), Bool.eq_iff_iff]
      simp
      omega
  · simp

theorem contains_cons (b : UInt8) (l s : List UInt8) : Lib.contains (b :: l) s = (s.isPrefixOf (b :: l) || Lib.contains l s) := by
  have := Lib.index_ge l s
  rw [Lib.contains, Lib.contains, Lib.index]
  cases hb : s.isPrefixOf (b :: l)
  · rw [if_neg (by simp), Bool.false_or]
    by_cases h : Lib.index l s = -1
    · simp [h]
    · rw [if_neg (by simpa using h), Bool.eq_iff_iff]
      simp
      omega
  · simp

theorem hasSuffix_cons (b d : UInt8) (l : List UInt8) (k : UInt8) : Lib.hasSuffix (b :: d :: l) [k] = Lib.hasSuffix (d :: l) [k] := by
  rw [Lib.hasSuffix, Lib.hasSuffix, Bool.eq_iff_iff, List.isSuffixOf_iff_suffix, List.isSuffixOf_iff_suffix, List.suffix_cons_iff]
  constructor
  · rintro (h | h)
    · simp at h
    · exact h
  · exact Or.inr

theorem hasSuffix_one (b k : UInt8) : Lib.hasSuffix [b] [k] = (k == b) := by
  rw [Lib.hasSuffix, Bool.eq_iff_iff, List.isSuffixOf_iff_suffix, List.suffix_cons_iff]
  simp

/-- the library's three questions say it -/
theorem good_lib : ∀ (xs : List Int), ByteL xs →
    (decide (Lib.indexByte (Lib.bytesOf xs) 11 < 0) && !(Lib.contains (Lib.bytesOf xs) (Lib.bytesOf [28, 13])) && !(Lib.hasSuffix (Lib.bytesOf xs) (Lib.bytesOf [28]))) = goodL xs := by
  intro xs
  induction xs with
  | nil => intro _; rfl
  | cons c l ih =>
    intro h
    have hc := h c (List.mem_cons_self ..)
    have e11 := byte_eq hc 11 (by decide)
    have e28 := byte_eq hc 28 (by decide)
    cases l with
    | nil =>
      have e1 : Lib.bytesOf [c] = [UInt8.ofNat c.toNat] := rfl
      have e2 : Lib.bytesOf [28, 13] = [28, 13] := rfl
      have e3 : Lib.bytesOf [28] = [28] := rfl
      have e4 : (28 : UInt8) = UInt8.ofNat 28 := rfl
      have e5 : (11 : UInt8) = UInt8.ofNat 11 := rfl
      have e6 : (Lib.contains ([] : List UInt8) [28, 13]) = false := by decide
      have e7 : decide (Lib.indexByte ([] : List UInt8) 11 < 0) = true := by decide
      have e8 : ([28, 13] : List UInt8).isPrefixOf [UInt8.ofNat c.toNat] = false := by simp [List.isPrefixOf]
      rw [e1, e2, e3, indexByte_cons, contains_cons, hasSuffix_one, e6, e7, e8, BEq.comm (a := (28 : UInt8)), e4, e28, e5, e11, goodL]
      simp
    | cons d l =>
      have hd := h d (List.mem_cons_of_mem _ (List.mem_cons_self ..))
      have e13 := byte_eq hd 13 (by decide)
      have ih := ih fun x hx => h x (List.mem_cons_of_mem _ hx)
      have e1 : Lib.bytesOf (c :: d :: l) = UInt8.ofNat c.toNat :: UInt8.ofNat d.toNat :: Lib.bytesOf l := rfl
      have e1' : Lib.bytesOf (d :: l) = UInt8.ofNat d.toNat :: Lib.bytesOf l := rfl
      have e2 : Lib.bytesOf [28, 13] = [28, 13] := rfl
      have e3 : Lib.bytesOf [28] = [28] := rfl
      rw [goodL, ← ih, e1, e1', e2, e3, indexByte_cons (UInt8.ofNat c.toNat), contains_cons (UInt8.ofNat c.toNat), hasSuffix_cons]
      have e8 : ([28, 13] : List UInt8).isPrefixOf (UInt8.ofNat c.toNat :: UInt8.ofNat d.toNat :: Lib.bytesOf l) = (c == 28 && d == 13) := by
        simp only [List.isPrefixOf, Bool.and_true]
        have a1 : ((28 : UInt8) == UInt8.ofNat c.toNat) = (c == 28) := by rw [BEq.comm]; exact e28
        have a2 : ((13 : UInt8) == UInt8.ofNat d.toNat) = (d == 13) := by rw [BEq.comm]; exact e13
        rw [a1, a2]
      have e9 : (UInt8.ofNat c.toNat == (11 : UInt8)) = (c == 11) := e11
      rw [e8, e9]
      generalize decide (Lib.indexByte (UInt8.ofNat d.toNat :: Lib.bytesOf l) 11 < 0) = p
      generalize Lib.contains (UInt8.ofNat d.toNat :: Lib.bytesOf l) [28, 13] = q
      generalize Lib.hasSuffix (UInt8.ofNat d.toNat :: Lib.bytesOf l) [28] = r
      generalize (c == 11) = s
      generalize (c == 28 && d == 13) = t
      revert p q r s t
      decide

/-- in words: no 11; behind a 28 stands a byte, and it is not 13 -/
theorem good_iff : ∀ {xs : List Int}, goodL xs = true ↔ ∀ (i : Nat) (c : Int), xs[i]? = some c → c ≠ 11 ∧ (c = 28 → ∃ d, xs[i + 1]? = some d ∧ d ≠ 13)
  | [] => by simp [goodL]
  | [c] => by
    simp only [goodL, Bool.and_eq_true, Bool.not_eq_true', beq_eq_false_iff_ne]
    constructor
    · intro h i x hx
      cases i with
      | zero => simp at hx; subst hx; exact ⟨h.1, fun e => absurd e h.2⟩
      | succ i => simp at hx
    · intro h
      have := h 0 c rfl
      refine ⟨this.1, fun e => ?_⟩
      obtain ⟨d, hd, _⟩ := this.2 e
      simp at hd
  | c :: d :: l => by
    have ih := @good_iff (d :: l)
    rw [goodL]
    simp only [Bool.and_eq_true, Bool.not_eq_true', beq_eq_false_iff_ne, Bool.and_eq_false_iff]
    rw [ih]
    constructor
    · rintro ⟨⟨h1, h2⟩, h3⟩ i x hx
      cases i with
      | zero =>
        simp at hx
        subst hx
        refine ⟨h1, fun e => ⟨d, rfl, ?_⟩⟩
        rcases h2 with h2 | h2
        · exact absurd e h2
        · exact h2
      | succ i =>
        have := h3 i x (by simpa using hx)
        simpa using this
    · intro h
      have h0 := h 0 c rfl
      refine ⟨⟨h0.1, ?_⟩, fun i x hx => ?_⟩
      · by_cases e : c = 28
        · obtain ⟨y, hy, hn⟩ := h0.2 e
          simp at hy
          subst hy
          exact Or.inr hn
        · exact Or.inl e
      · have := h (i + 1) x (by simpa using hx)
        simpa using this

theorem good_drop {xs : List Int} (h : goodL xs = true) (k : Nat) : goodL (xs.drop k) = true := by
  rw [good_iff] at h ⊢
  intro i c hc
  rw [List.getElem?_drop] at hc
  have := h (k + i) c hc
  rw [List.getElem?_drop]
  exact this

/-- a beginning may be in a frame, too, if it does not end with 28 -/
theorem good_take {xs : List Int} (h : goodL xs = true) (k : Nat) (hk : k ≤ xs.length) : goodL (xs.take k) = (k == 0 || !(xs[k - 1]? == some 28)) := by
  rw [Bool.eq_iff_iff, good_iff]
  rw [good_iff] at h
  simp only [Bool.or_eq_true, beq_iff_eq, Bool.not_eq_true', beq_eq_false_iff_ne]
  constructor
  · intro hh
    by_cases k0 : k = 0
    · exact Or.inl k0
    · refine Or.inr fun e => ?_
      have := (hh (k - 1) 28 (by rw [List.getElem?_take_of_lt (by omega)]; exact e)).2 rfl
      obtain ⟨d, hd, hn⟩ := this
      have hl := (List.getElem?_eq_some_iff.1 hd).1
      rw [List.length_take] at hl
      clear hd hn hh h e
      omega
  · rintro hh i c hc
    have hl := (List.getElem?_eq_some_iff.1 hc).1
    rw [List.length_take] at hl
    rw [List.getElem?_take_of_lt (by omega)] at hc
    have h1 := h i c hc
    refine ⟨h1.1, fun e => ?_⟩
    subst e
    obtain ⟨d, hd, hn⟩ := h1.2 rfl
    have hik : i + 1 < k := by
      clear hd hn h h1
      have hi : i < k := by omega
      rcases hh with hh | hh
      · omega
      · have e : i ≠ k - 1 := fun e => by subst e; exact hh hc
        clear hc hh
        omega
    exact ⟨d, by rw [List.getElem?_take_of_lt hik]; exact hd, hn⟩

theorem good_append {xs ys : List Int} (h : goodL xs = true) : goodL (xs ++ ys) = goodL ys := by
  rw [Bool.eq_iff_iff]
  constructor
  · intro hh
    have := good_drop hh xs.length
    simpa using this
  · intro hh
    rw [good_iff] at h hh ⊢
    intro i c hc
    by_cases hi : i < xs.length
    · rw [List.getElem?_append_left hi] at hc
      obtain ⟨h1, h2⟩ := h i c hc
      refine ⟨h1, fun e => ?_⟩
      obtain ⟨d, hd, hn⟩ := h2 e
      have := (List.getElem?_eq_some_iff.1 hd).1
      exact ⟨d, by rw [List.getElem?_append_left this]; exact hd, hn⟩
    · rw [List.getElem?_append_right (by omega)] at hc
      have := hh (i - xs.length) c hc
      rw [List.getElem?_append_right (by omega)]
      rw [show i + 1 - xs.length = i - xs.length + 1 by omega]
      exact this

/-- a byte changed for one that is no sign -/
theorem good_set {xs : List Int} (h : goodL xs = true) (k : Nat) (c : Int) (h1 : c ≠ 11) (h2 : c ≠ 28) (h3 : c ≠ 13) : goodL (xs.set k c) = true := by
  rw [good_iff] at h ⊢
  intro i x hx
  rw [List.getElem?_set] at hx
  split at hx
  · split at hx
    · cases hx
      exact ⟨h1, fun e => absurd e h2⟩
    · cases hx
  · obtain ⟨a1, a2⟩ := h i x hx
    refine ⟨a1, fun e => ?_⟩
    obtain ⟨d, hd, hn⟩ := a2 e
    rw [List.getElem?_set]
    by_cases hk : k = i + 1
    · have := (List.getElem?_eq_some_iff.1 hd).1
      rw [if_pos hk, if_pos (by omega)]
      exact ⟨c, rfl, h3⟩
    · rw [if_neg hk]
      exact ⟨d, hd, hn⟩

/-- the first sign anywhere: it may not -/
theorem good_eleven {xs : List Int} {k : Nat} (h : xs[k]? = some 11) : goodL xs = false := by
  cases e : goodL xs
  · rfl
  · exact absurd rfl (good_iff.1 e k 11 h).1

/-- the frame of bytes -/
def wrapL (xs : List Int) : List Int := 11 :: (xs ++ [28, 13])

/-- what is in the frame: the bytes, and why it is none -/
def unwrapL (xs : List Int) : List Int × Int :=
  if xs.length < 3 then ([], 7)
  else if xs[0]? = some 11 ∧ xs[xs.length - 2]? = some 28 ∧ xs[xs.length - 1]? = some 13 ∧ goodL ((xs.drop 1).take (xs.length - 3)) = true then ((xs.drop 1).take (xs.length - 3), 0) else ([], 10)

theorem wrap_len (xs : List Int) : (wrapL xs).length = xs.length + 3 := by simp [wrapL]
theorem wrap_bytes {xs : List Int} (h : ByteL xs) : ByteL (wrapL xs) := by
  intro x hx
  simp [wrapL] at hx
  rcases hx with rfl | hx | rfl | rfl
  · omega
  · exact h x hx
  · omega
  · omega
theorem wrap_bad (xs : List Int) : goodL (wrapL xs) = false := good_eleven (k := 0) rfl

theorem unwrap_wrap {xs : List Int} (h : goodL xs = true) : unwrapL (wrapL xs) = (xs, 0) := by
  have hl := wrap_len xs
  have e1 : (wrapL xs)[xs.length + 3 - 2]? = some 28 := by
    rw [wrapL, show xs.length + 3 - 2 = xs.length + 1 by omega, List.getElem?_cons_succ, List.getElem?_append_right (Nat.le_refl _)]
    simp
  have e2 : (wrapL xs)[xs.length + 3 - 1]? = some 13 := by
    rw [wrapL, show xs.length + 3 - 1 = xs.length + 1 + 1 by omega, List.getElem?_cons_succ, List.getElem?_append_right (by omega)]
    simp
  have e3 : ((wrapL xs).drop 1).take (xs.length + 3 - 3) = xs := by simp [wrapL]
  rw [unwrapL, hl, e1, e2, e3, if_neg (by omega), if_pos ⟨rfl, rfl, rfl, h⟩]

theorem unwrap_good {xs ys : List Int} (h : unwrapL xs = (ys, 0)) : goodL ys = true ∧ wrapL ys = xs := by
  unfold unwrapL at h
  split at h
  · simp at h
  · split at h
    · rename_i h1 h2
      obtain ⟨a0, a1, a2, a3⟩ := h2
      simp only [Prod.mk.injEq, and_true] at h
      subst h
      refine ⟨a3, ?_⟩
      have hlen : xs.length = (xs.length - 3) + 3 := by omega
      match xs, h1, a0 with
      | [], h1, _ => simp at h1
      | x :: l, h1, a0 =>
        simp at a0
        subst a0
        simp only [List.length_cons] at h1 a1 a2 ⊢
        simp only [List.drop_succ_cons, List.drop_zero, wrapL, List.cons.injEq, true_and]
        rw [show l.length + 1 - 2 = (l.length - 2) + 1 by omega, List.getElem?_cons_succ] at a1
        rw [show l.length + 1 - 1 = (l.length - 1) + 1 by omega, List.getElem?_cons_succ] at a2
        rw [show l.length + 1 - 3 = l.length - 2 by omega]
        conv => rhs; rw [← List.take_append_drop (l.length - 2) l]
        congr 1
        refine List.ext_getElem? fun i => ?_
        rw [List.getElem?_drop]
        match i with
        | 0 => simpa using a1.symm
        | 1 => rw [show l.length - 2 + 1 = l.length - 1 by omega, a2]; rfl
        | i + 2 => rw [List.getElem?_eq_none (by simp), List.getElem?_eq_none (by omega)]
    · simp at h

theorem unwrap_err (xs : List Int) : (unwrapL xs).2 = 0 ∨ (unwrapL xs).1 = [] := by
  unfold unwrapL
  split
  · exact Or.inr rfl
  · split
    · exact Or.inl rfl
    · exact Or.inr rfl

end Go.Proofs.YthhbohpmbkdkeaaDoor
