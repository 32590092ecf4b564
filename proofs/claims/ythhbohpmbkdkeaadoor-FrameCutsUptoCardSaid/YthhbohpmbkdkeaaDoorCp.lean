/- A frame cut, or with a byte more, or twice, is none: the plain law. -/
import Derived.Test.YthhbohpmbkdkeaaDoorGd
namespace Go.Proofs.YthhbohpmbkdkeaaDoor

theorem unwrap_ok {xs : List Int} (h : (unwrapL xs).2 = 0) : ∃ ys, goodL ys = true ∧ wrapL ys = xs := ⟨_, unwrap_good (ys := (unwrapL xs).1) (by rw [← h])⟩

theorem wrap_head (ys : List Int) : (wrapL ys)[0]? = some 11 := rfl
theorem wrap_last (ys : List Int) : (wrapL ys)[(wrapL ys).length - 1]? = some 13 := by
  rw [wrap_len, wrapL, show ys.length + 3 - 1 = ys.length + 1 + 1 by omega, List.getElem?_cons_succ, List.getElem?_append_right (by omega)]
  simp
theorem wrap_last2 (ys : List Int) : (wrapL ys)[(wrapL ys).length - 2]? = some 28 := by
  rw [wrap_len, wrapL, show ys.length + 3 - 2 = ys.length + 1 by omega, List.getElem?_cons_succ, List.getElem?_append_right (by omega)]
  simp

/-- no 28 13 within what is in a frame, nor 11 -/
theorem wrap_in {ys : List Int} (h : goodL ys = true) {i : Nat} (h28 : (wrapL ys)[i]? = some 28) (h13 : (wrapL ys)[i + 1]? = some 13) : i = ys.length + 1 := by
  cases i with
  | zero => simp [wrapL] at h28
  | succ i =>
    rw [wrapL, List.getElem?_cons_succ] at h28 h13
    by_cases hi : i < ys.length
    · rw [List.getElem?_append_left hi] at h28
      obtain ⟨d, hd, hn⟩ := (good_iff.1 h i 28 h28).2 rfl
      have := (List.getElem?_eq_some_iff.1 hd).1
      rw [List.getElem?_append_left this, hd] at h13
      cases h13
      exact absurd rfl hn
    · have hl := (List.getElem?_eq_some_iff.1 h13).1
      simp at hl
      omega
theorem wrap_eleven {ys : List Int} (h : goodL ys = true) {i : Nat} (h11 : (wrapL ys)[i]? = some 11) : i = 0 := by
  cases i with
  | zero => rfl
  | succ i =>
    rw [wrapL, List.getElem?_cons_succ] at h11
    by_cases hi : i < ys.length
    · rw [List.getElem?_append_left hi] at h11
      exact absurd rfl (good_iff.1 h i 11 h11).1
    · rw [List.getElem?_append_right (by omega)] at h11
      have hl := (List.getElem?_eq_some_iff.1 h11).1
      simp at hl
      match i - ys.length, hl, h11 with
      | 0, _, h11 => simp at h11
      | 1, _, h11 => simp at h11

/-- the five that are no frames -/
theorem cut_first {bs : List Int} (h : goodL bs = true) : (unwrapL ((wrapL bs).drop 1)).2 ≠ 0 := by
  intro e
  obtain ⟨ys, hy, he⟩ := unwrap_ok e
  have h0 := wrap_head ys
  rw [he, List.getElem?_drop] at h0
  have := wrap_eleven h h0
  omega

theorem cut_last {bs : List Int} (h : goodL bs = true) : (unwrapL ((wrapL bs).take (bs.length + 2))).2 ≠ 0 := by
  intro e
  obtain ⟨ys, hy, he⟩ := unwrap_ok e
  have hl := congrArg List.length he
  rw [wrap_len, List.length_take, wrap_len] at hl
  have h1 := wrap_last ys
  have h2 := wrap_last2 ys
  rw [wrap_len] at h1 h2
  rw [he] at h1 h2
  have hlt1 := (List.getElem?_eq_some_iff.1 h1).1
  have hlt2 := (List.getElem?_eq_some_iff.1 h2).1
  rw [List.length_take] at hlt1 hlt2
  rw [List.getElem?_take_of_lt (by omega)] at h1 h2
  have := wrap_in h h2 (by rw [show ys.length + 3 - 2 + 1 = ys.length + 3 - 1 by omega]; exact h1)
  omega

theorem cut_ahead {bs : List Int} (_h : goodL bs = true) (c : Int) : (unwrapL (c :: wrapL bs)).2 ≠ 0 := by
  intro e
  obtain ⟨ys, hy, he⟩ := unwrap_ok e
  have h1 : (wrapL ys)[1]? = some 11 := by rw [he]; rfl
  have := wrap_eleven hy h1
  omega

theorem cut_behind {bs : List Int} (_h : goodL bs = true) (c : Int) : (unwrapL (wrapL bs ++ [c])).2 ≠ 0 := by
  intro e
  obtain ⟨ys, hy, he⟩ := unwrap_ok e
  have hl := congrArg List.length he
  rw [wrap_len, List.length_append, wrap_len] at hl
  simp at hl
  have h1 := wrap_last bs
  have h2 := wrap_last2 bs
  have hlt1 := (List.getElem?_eq_some_iff.1 h1).1
  have hlt2 := (List.getElem?_eq_some_iff.1 h2).1
  have g1 : (wrapL ys)[bs.length + 2]? = some 13 := by rw [he, List.getElem?_append_left (by rw [wrap_len]; omega)]; rw [wrap_len] at h1; exact h1
  have g2 : (wrapL ys)[bs.length + 1]? = some 28 := by rw [he, List.getElem?_append_left (by rw [wrap_len]; omega)]; rw [wrap_len] at h2; exact h2
  have := wrap_in hy g2 g1
  omega

theorem cut_twice {bs : List Int} (_h : goodL bs = true) : (unwrapL (wrapL bs ++ wrapL bs)).2 ≠ 0 := by
  intro e
  obtain ⟨ys, hy, he⟩ := unwrap_ok e
  have h1 : (wrapL ys)[bs.length + 3]? = some 11 := by
    rw [he, List.getElem?_append_right (by rw [wrap_len]; omega), wrap_len, Nat.sub_self]
    rfl
  have := wrap_eleven hy h1
  omega
end Go.Proofs.YthhbohpmbkdkeaaDoor
